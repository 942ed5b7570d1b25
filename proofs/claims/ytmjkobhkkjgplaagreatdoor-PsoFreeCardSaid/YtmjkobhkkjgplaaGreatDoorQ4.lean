/- Part 4 of the texts. -/
import Derived.Test.YtmjkobhkkjgplaaGreatDoorQ3
import Derived.Shelf.SlSortCmp.NoneTotal
import Derived.Shelf.SlLaysF0
namespace Go.Proofs.YtmjkobhkkjgplaaGreatDoor
open Go.RowKit
set_option linter.unusedSimpArgs false
set_option linter.unusedVariables false
set_option maxRecDepth 100000
set_option maxHeartbeats 20000000
theorem K3 {E E2:TypeId}{v:Value}{M:List (Ls Wt)}{b:Nat}(h:(zZ.x5 (jU (.own E) E2 v M)).rd b):False:=by
 obtain ⟨A,hA,hb⟩:=h
 rcases List.mem_cons.1 hA with rfl|hA
 ·exact Flat.qh hb
 ·obtain ⟨s,_,rfl⟩:=List.mem_map.1 hA
  exact Flat.qh hb
def wO (g1 g0:Nat):Qy:=⟨Ls (Ls Wt),λq=>q.l.map (·.l),λq=> .x5 [.zM g1 185 [.pointer (some ⟨g0,0,none⟩),q.v],.x5 (jU (.own 266) 267 q.v q.l)],125,⟨g1,0,none⟩,g0,1⟩
theorem Z3 {g1 g0:Nat}{q:Ls (Ls Wt)}{b:Nat}(h:((wO g1 g0).X q).rd b):False:=by
 obtain ⟨A,hA,hb⟩:=h
 simp only [z6,qd,or_false] at hA
 rcases hA with rfl|rfl
 ·exact hb
 ·exact K3 hb
theorem Zk {q:Ls (Ls Wt)}{t:Nat}(h:t<(q.l.map (·.l)).length):nth (q.l.map (·.l)) t=(nth q.l t).l:=zI (λx:Ls Wt=>x.l) q.l t (by simpa using h)
theorem kx {g1 g0:Nat}{q:Ls (Ls Wt)}{w:World}(h:((wO g1 g0).X q).ok w):xB w g1 185 #[.pointer (some ⟨g0,0,none⟩),q.v]/\q.At w:=by
 obtain ⟨h1,h2,h3⟩:=h
 refine ⟨h1 _ (xx ..),?_⟩
 have hb:=h1 _ (xe _ (xx ..))
 have hs:Sh (λ_=>True) w w [.x5 (jU (.own 266) 267 q.v q.l)]:=⟨j2.refl _ _,by simpa using hb,λ_ _ _ _=> .inl trivial,by
  intro A hA b _ hr
  obtain rfl:=List.mem_singleton.1 hA
  exact K3 hr,WX _ _⟩
 exact (hs.K4 VU).deep 0 V
theorem Um {g1 g0:Nat}{K:Nat->Prop}{W w:World}{words owner:Ls Int}{q:Ls (Ls Wt)}(h:Sh K W w (km 182 3 (wO g1 g0) words owner q)):Sh K W w ([.zM g1 185 [.pointer (some ⟨g0,0,none⟩),q.v],.x5 (jU (.own 266) 267 q.v q.l)]++ [.zM g0 182 [words.v,owner.v],.own 3 words,.own 3 owner]):=
 (h.zY (L' := [(wO g1 g0).X q,.zM g0 182 [words.v,owner.v],.own 3 words,.own 3 owner]) [3,0,1,2] V).open_
theorem Yn {g1 g0:Nat}{K:Nat->Prop}{W w:World}{words owner:Ls Int}{q:Ls (Ls Wt)}(h:Sh K W w ([.zM g1 185 [.pointer (some ⟨g0,0,none⟩),q.v],.x5 (jU (.own 266) 267 q.v q.l)]++ [.zM g0 182 [words.v,owner.v],.own 3 words,.own 3 owner])):Sh K W w (km 182 3 (wO g1 g0) words owner q):=
 (Sh.close h).zY [1,2,3,0] V
theorem rY {g1 g0 t:Nat}{x:Wt}{words owner:Ls Int}{q:Ls (Ls Wt)}{u:Ls Wt}(h:t<(q.l.map (·.l)).length)(e:u.l=(nth q.l t).l++ [x]):dK (wO g1 g0) t x words owner q words owner (⟨q.v,q.l.set t u⟩:Ls (Ls Wt)):=by
 refine ⟨u.l,?_,λpc ze zd zq=>?_⟩
 ·show (q.l.set t u).map (·.l)=(q.l.map (·.l)).set t u.l
  rw [List.map_set]
 ·show _=TS.store 1 ⟨pc,ze,nth (q.l.map (·.l)) t,words.l,owner.l,zd,zq⟩ x
  rw [Zk h,e]
  unfold TS.store
  rw [if_pos zf]
def zlw (P:Program)(T:TypeId)(name:String):Option (FuncId×TypeId):=
 match P.info? T with
 |none=>none
 |some i=>match i.methods.find? (·.name==name) with
  |none=>none
  |some m=>match m.path.toList,m.func with
   | [st],some (f,true)=>match P.underlying st.struct with
    |some (.struct fs)=>match fs[st.index]? with
     |none=>none
     |some fd=>match P.info? fd.type,P.underlying fd.type with
      |some fi,some (.pointer _)=>if st.deref=true/\fd.offset=0/\fi.size≠0 then some (f,fd.type) else none
      |_,_=>none
    |_=>none
   |_,_=>none
theorem kl {P:Program}{n g1:Nat}{T xt:TypeId}{name:String}{f:FuncId}{r:Value}{w:World}(hn:Nat.blt 0 n=true)(hI:zlw P T name=some (f,xt))(hl:(loadVar xt ⟨g1,0,none⟩).run P w= .ok r w):(method n T (.pointer (some ⟨g1,0,none⟩)) name).run P w= .ok (f,r) w:=by
 obtain ⟨n,rfl⟩:∃n',n=n' +1:=⟨n-1,by rw [yV] at hn;omega⟩
 unfold zlw at hI
 split at hI
 ·cases hI
 rename_i i hi
 split at hI
 ·cases hI
 rename_i m hm
 split at hI
 ·rename_i st f' hp hf
  split at hI
  ·rename_i fs Rg
   split at hI
   ·cases hI
   rename_i fd hfd
   split at hI
   ·rename_i fi e hfi hfu
    split at hI
    ·rename_i hc
     cases hI
     obtain ⟨h1,h2,h3⟩:=hc
     unfold method
     simp [typeInfo,hi,hm,hp,hf,follow,run_underlying Rg,hfd,h1,Place.get,asAddr,fieldPlace,sizeOf,hfi,h3,h2,receiverAt,run_underlying hfu,hl,Addr.add]
    ·cases hI
   ·cases hI
  ·cases hI
 ·cases hI
theorem XB {g1 g0:Nat}{w:World}{v:Value}(h:xB w g1 185 #[.pointer (some ⟨g0,0,none⟩),v]):(loadVar 123 ⟨g1,0,none⟩).run Tryz.prog w= .ok (.pointer (some ⟨g0,0,none⟩)) w:=by
 have hc:=h.Bb.1
 unfold xB at h
 simp [loadVar,World.cell?,h]
theorem Ev (l:List Wt):((List.range l.length).filter (w6 1 l)).map (λk=>((k:Nat):Int))=if l.length=0 then [] else [0]:=by
 have e:w6 1 l=λk=>decide (k=0):=by
  funext k
  unfold w6
  simp
 rw [e]
 cases h:l.length with
 |zero=>rfl
 |succ n=>
  rw [if_neg za,List.range_succ_eq_map,List.filter_cons,if_pos (by rfl),List.filter_eq_nil_iff.2]
  ·rfl
  ·intro x hx
   obtain ⟨y,_,rfl⟩:=List.mem_map.1 hx
   simp
theorem YX (g1 g0:Nat):KA Tryz.prog 182 3 (wO g1 g0) where
 load w words owner q t wd h ht hl dQ:=⟨212,⟨g1,0,none⟩,zb,zd9,by
  have e:nth ((wO g1 g0).qs q) t=(nth q.l t).l:=Zk ht
  rw [e] at hl⊢
  have Ut:t<q.l.length:=by simpa [wO] using ht
  obtain ⟨hB,hq⟩:=kx h.x
  obtain ⟨A,cap,hv,hA⟩:=hq
  have hr:=hA.inner t Ut
  obtain ⟨A2,zsN,Ou,hA2⟩:=hr
  have T9:=hB
  rw [hv] at T9
  have hc:=callsIn_wide.1 (pe g1 g0 t ⟨A,cap,q.l⟩ ⟨A2,zsN,(nth q.l t).l⟩ words owner wd w T9 h.zM h.wa h.oa hA Ut Ou hA2 hl dQ)
  exact gJ hc λe w' he=>⟨_,he.1,V,⟨j2.below he.2,λA hA=>(by cases hA),λA hA=>(by cases hA),λA hA=>(by cases hA),List.Pairwise.nil⟩⟩⟩
 waits w words owner q t h ht hl:=⟨216,⟨g1,0,none⟩,zb,L4,by
  have e:nth ((wO g1 g0).qs q) t=(nth q.l t).l:=Zk ht
  rw [e]
  obtain ⟨hB,hq⟩:=kx h.x
  exact aq g1 g0 q t 0 w hB hq (by simpa [wO] using ht)⟩
 Gx w words owner q t a h ht hl gv:=⟨211,⟨g1,0,none⟩,zb,zea,by
  have e:nth ((wO g1 g0).qs q) t=(nth q.l t).l:=Zk ht
  rw [e] at gv⊢
  obtain ⟨hB,hq⟩:=kx h.x
  exact eR g1 g0 q t a w hB hq (by simpa [wO] using ht) gv⟩
 ready w words owner q t h ht hl:=⟨213,⟨g1,0,none⟩,zb,zd8,by
  have e:nth ((wO g1 g0).qs q) t=(nth q.l t).l:=Zk ht
  rw [e]
  obtain ⟨hB,hq⟩:=kx h.x
  refine zP.mono (tF g1 g0 q t 0 w hB hq (by simpa [wO] using ht)) ?_
  rintro v w' ⟨s,rfl,hs,h9⟩
  exact ⟨s,V,hs.trans (Ev _).symm,h9⟩⟩
 base w words owner q h:=⟨197,⟨g0,0,none⟩,kl (xt:=123) zb zb (XB (kx h.x).1),Ma,fA g0 words owner 0 0 0 w h.zM h.wa h.oa⟩
 store K W words owner q t wd qk hS ht hl dQ:=⟨214,⟨g1,0,none⟩,zb,zd7,by
  have h:=Um hS
  have e:nth ((wO g1 g0).qs q) t=(nth q.l t).l:=Zk ht
  rw [e] at hl
  refine zP.mono (tE _ g1 g0 q.v q.l t wd qk W h.yT (by simpa [wO] using ht) za) ?_
  rintro v w' ⟨rfl,u,hu,hs⟩
  exact ⟨V,words,owner,⟨q.v,q.l.set t u⟩,rY ht hu,Yn (q:=⟨q.v,q.l.set t u⟩) (h.xP hs (by intro A hA b hb;simp only [z6,qd,or_false] at hA;rcases hA with rfl|rfl<;>first|exact (hb:False).elim|exact Flat.qh hb|exact (K3 hb).elim))⟩⟩
 free K W words owner q t a hS ht hl ha:=⟨210,⟨g1,0,none⟩,zb,zeb,by
  have h:=Um hS
  have e:nth ((wO g1 g0).qs q) t=(nth q.l t).l:=Zk ht
  rw [e] at hl
  refine zP.mono (Cn _ g1 g0 q.v q.l t a 0 W h.yT (by simpa [wO] using ht) za) ?_
  rintro v w' ⟨rfl,u,hu,hs⟩
  exact ⟨V,words,owner,⟨q.v,q.l.set t u⟩,rY ht hu,Yn (q:=⟨q.v,q.l.set t u⟩) (h.xP hs (by intro A hA b hb;simp only [z6,qd,or_false] at hA;rcases hA with rfl|rfl<;>first|exact (hb:False).elim|exact Flat.qh hb|exact (K3 hb).elim))⟩⟩
 swap K W words owner q t wd qk hS dQ:=⟨205,⟨g0,0,none⟩,kl (xt:=123) zb zb (XB (kx (hS.ok _ (xe _ (xe _ (xe _ (xx ..)))))).1),L7,by
  have h:Sh K W W ([.zM g0 182 [words.v,owner.v],.own 3 words,.own 3 owner]++ [(wO g1 g0).X q]):=hS
  refine zP.mono (fw _ g0 words owner _ wd qk W h.yT dQ) ?_
  rintro v w' ⟨rfl,hs⟩
  exact ⟨V,⟨words.v,words.l.set wd.toNat qk⟩,owner,q,⟨V,V,V⟩,h.xP hs (by intro A hA b hb;simp only [z6,qd,or_false] at hA;rcases hA with rfl|rfl|rfl<;>first|exact (hb:False).elim|exact Flat.qh hb)⟩⟩
 flush K W words owner q t k hS ht hl hk hw:=⟨209,⟨g1,0,none⟩,zb,zec,by
  have h:=Um hS
  have e:nth ((wO g1 g0).qs q) t=(nth q.l t).l:=Zk ht
  rw [e] at hl hk hw
  refine zP.mono (tG K g1 g0 q.v q.l words owner t k W h (by simpa [wO] using ht) za hk (hw k hk)) ?_
  rintro v w' ⟨rfl,u,hu,hs⟩
  refine ⟨V,_,_,⟨q.v,q.l.set t u⟩,⟨u.l,?_,λpc ze zd zq=>?_⟩,Yn (words:=⟨words.v,if (nth (nth q.l t).l k).lock=true then words.l else words.l.set (nth (nth q.l t).l k).wh.toNat (nth (nth q.l t).l k).qk⟩) (owner:=⟨owner.v,if (nth (nth q.l t).l k).lock=true then owner.l.set (nth (nth q.l t).l k).wh.toNat (-1) else owner.l⟩) (q:=⟨q.v,q.l.set t u⟩) hs⟩
  ·show (q.l.set t u).map (·.l)=(q.l.map (·.l)).set t u.l
   rw [List.map_set]
  ·rw [e,hu]
   rfl⟩
 mh q b h:=Z3 h
theorem zaP (code:Ls (Ls Ins))(zi:Ls Int)(Lk:Nat)(z8:Int)(W:World)(qY:code.At W)(yo:zi.At W)(qg:code.l.length<=100)(aV:zi.l.length<=64)(gv:Lk<=4):
    zP Tryz.prog 82 [.agg #[code.v,zi.v,.int .i64 ((Lk:Nat):Int),.int .i64 z8]] W (λv w' =>∃(gt g:Nat) (zB zA:Ls Int) (q:Ls (Ls Wt)),v= .pointer (some ⟨gt,0,none⟩)/\zB.l=zi.l/\zA.l=List.replicate Lk (-1)/\(wO gt g).qs q=List.replicate code.l.length []/\qM W w' (km 182 3 (wO gt g) zB zA q)):=by
 refine gen Tryz.func82 Tryz.ntmps82 (qM.Jo qY yo:Sh (λ_=>False) W W [.at_ code,.at_ zi]) V λjP z7=>gG z7<|sK λ_ kz=>XV V V λxX=>zn (oM 1 V<|.nl)<|nK kz<|gK λ_ gu=>gF [0,1] V<|λee BN xd=>Wz ((λΦ Ψ S a w=>(S 1=false/\S 5=false/\S 7=false/\kH 11 S Φ Ψ a/\Sh (λ_=>False) W w [.zM xX 25 [code.v,zi.v,.int .i64 ((Lk:Nat):Int),.int .i64 z8],.at_ code,.at_ zi])\/(S 1=true/\S 5=false/\S 7=false/\∃(jX:Nat) (xJ:Ls Int) (xK:Ls Int),(xJ.l=zi.l)/\(xK.l=List.replicate Lk (-1))/\kH 11 S Φ (Ψ++ [(1,4,.pointer (some ⟨jX,0,none⟩))]) a/\Sh (λ_=>False) W w [.zM jX 182 [xJ.v,xK.v],.own 3 xJ,.own 3 xK,.zM xX 25 [code.v,zi.v,.int .i64 ((Lk:Nat):Int),.int .i64 z8],.at_ code,.at_ zi])\/(S 1=false/\S 5=true/\S 7=false/\∃(vj:Value),kH 11 S Φ (Ψ++ [(5,8,vj)]) a/\Sh (λ_=>False) W w [.x5 (jU (.own 266) 267 vj (List.replicate code.l.length (⟨.slice none 0 0,[]⟩:Ls Wt))),.zM xX 25 [code.v,zi.v,.int .i64 ((Lk:Nat):Int),.int .i64 z8],.at_ code,.at_ zi])\/(S 1=true/\S 5=true/\S 7=false/\∃(jX:Nat) (xJ:Ls Int) (xK:Ls Int) (vj:Value),(xJ.l=zi.l)/\(xK.l=List.replicate Lk (-1))/\kH 11 S Φ (Ψ++ [(1,4,.pointer (some ⟨jX,0,none⟩)),(5,8,vj),(6,9,.agg #[.pointer (some ⟨jX,0,none⟩),vj])]) a/\Sh (λ_=>False) W w [.x5 (jU (.own 266) 267 vj (List.replicate code.l.length (⟨.slice none 0 0,[]⟩:Ls Wt))),.zM jX 182 [xJ.v,xK.v],.own 3 xJ,.own 3 xK,.zM xX 25 [code.v,zi.v,.int .i64 ((Lk:Nat):Int),.int .i64 z8],.at_ code,.at_ zi])\/(S 1=true/\S 5=true/\S 7=true/\∃(jX:Nat) (xJ:Ls Int) (xK:Ls Int) (vj:Value) (Be:Nat),(xJ.l=zi.l)/\(xK.l=List.replicate Lk (-1))/\kH 11 S Φ (Ψ++ [(1,4,.pointer (some ⟨jX,0,none⟩)),(5,8,vj),(6,9,.agg #[.pointer (some ⟨jX,0,none⟩),vj]),(7,10,.pointer (some ⟨Be,0,none⟩)),(8,2,.pointer (some ⟨Be,0,none⟩))]) a/\Sh (λ_=>False) W w [.zM Be 185 [.pointer (some ⟨jX,0,none⟩),vj],.x5 (jU (.own 266) 267 vj (List.replicate code.l.length (⟨.slice none 0 0,[]⟩:Ls Wt))),.zM jX 182 [xJ.v,xK.v],.own 3 xJ,.own 3 xK,.zM xX 25 [code.v,zi.v,.int .i64 ((Lk:Nat):Int),.int .i64 z8],.at_ code,.at_ zi])) [(0,.agg #[code.v,zi.v,.int .i64 ((Lk:Nat):Int),.int .i64 z8]),(1,.pointer (some ⟨xX,0,none⟩))] [(0,3,.agg #[code.v,zi.v,.int .i64 ((Lk:Nat):Int),.int .i64 z8]),(2,5,.pointer (some ⟨xX,0,none⟩)),(3,6,code.v),(4,7,.int .i64 ((code.l.length:Nat):Int))]) zb zb (Or.inl (⟨V,V,V,kH.start xd.fr,xd.sh.drew⟩)) ?_ ?_;clear z7
 ·intro S i o ho qn qg zX a w hI
  clear xd
  rcases i with _|_|_|_|_|_|_|_|_|i
  ·obtain rfl:_=o:=qA ho
   rcases hI with ⟨yy,jb,yA,φ,ς⟩|⟨yy,_⟩|⟨yy,jb,yA,vj,φ,ς⟩|⟨yy,_⟩|⟨yy,_⟩
   ·exact sq φ φ.yv ς (Jd (i:=0) (vs:= [code.v,zi.v,.int .i64 ((Lk:Nat):Int),.int .i64 z8]) qu V V V V V) 0 V V V V V V λa hg=>Or.inl (⟨un V yy,un V jb,un V yA,hg,ς⟩)
   ·exact zh (cA qg 1 0 V yy) qn
   ·exact sq φ φ.yv ς (Jd (i:=1) (vs:= [code.v,zi.v,.int .i64 ((Lk:Nat):Int),.int .i64 z8]) qu V V V V V) 0 V V V V V V λa hg=>Or.inr (Or.inr (Or.inl (⟨un V yy,un V jb,un V yA,vj,hg,ς⟩)))
   ·exact zh (cA qg 1 0 V yy) qn
   ·exact zh (cA qg 1 0 V yy) qn
  ·obtain rfl:_=o:=qA ho
   have BE:S 0=true:=zK zX 0 V V
   rcases hI with ⟨yy,jb,yA,φ,ς⟩|⟨yy,_⟩|⟨yy,jb,yA,vj,φ,ς⟩|⟨yy,_⟩|⟨yy,_⟩
   ·have hs:=St.mk (Fr.cons φ.yv (φ.at_ 0 0 3 _ V BE)) ς
    refine yG (zD hs ta V V V V V (cu zi Lk code.v z8 _ (hs.sh.at 2 V) za za)) (zg V _) ?_
    rintro a25 tw ⟨_,⟨g25,zoo,zow,rfl,ziI,ziS,HJ⟩,DD⟩ ⟨v0,zb1⟩
    have Wu:=(⟨DD,hs.sh.call HJ (by intro A hA b hb;simp only [km,z6,qd,or_false] at hA;first|(subst hA;exact Flat.qh hb)|(rcases hA with rfl|rfl|rfl|rfl<;>first|exact (hb:False).elim|exact Flat.qh hb|exact (Z3 hb).elim))⟩:St 11 (λ_=>False) W a25 tw _ _)
    clear DD HJ
    exact Or.inr (Or.inl (⟨qV _ _,un V jb,un V yA,g25,zoo,zow,ziI,ziS,φ.wU qg qn [0,1,2,3] zb zb zb1 Wu.fr.defers (Wu.fr.at_ 4 _ V) 4 V V V V,(Wu.sh.zY [0,1,2,3,4,5] V)⟩))
   ·exact zh yy qn
   ·have hs:=St.mk (Fr.cons φ.yv (φ.at_ 0 0 3 _ V BE)) ς
    refine yG (zD hs ta V V V V V (cu zi Lk code.v z8 _ (hs.sh.at 3 V) za za)) (zg V _) ?_
    rintro a26 lX ⟨_,⟨g26,zon,zov,rfl,ziH,ziR,HI⟩,IP⟩ ⟨v0,zb0⟩
    have Y0:=(⟨IP,hs.sh.call HI (by intro A hA b hb;simp only [km,z6,qd,or_false] at hA;first|(subst hA;exact Flat.qh hb)|(rcases hA with rfl|rfl|rfl|rfl<;>first|exact (hb:False).elim|exact Flat.qh hb|exact (Z3 hb).elim))⟩:St 11 (λ_=>False) W a26 lX _ _)
    clear IP HI
    exact Or.inr (Or.inr (Or.inr (Or.inl (⟨qV _ _,un V jb,un V yA,g26,zon,zov,vj,ziH,ziR,φ.wU qg qn [0,1,2,3,5] zb zb zb0 Y0.fr.defers (Y0.fr.at_ 4 _ V) 4 V V V V,(Y0.sh.zY [3,0,1,2,4,5,6] V)⟩))))
   ·exact zh yy qn
   ·exact zh yy qn
  ·obtain rfl:_=o:=qA ho
   rcases hI with ⟨yy,jb,yA,φ,ς⟩|⟨yy,jb,yA,jX,xJ,xK,vx,vy,φ,ς⟩|⟨_,jb,_⟩|⟨_,jb,_⟩|⟨_,jb,_⟩
   ·exact sq φ φ.yv ς (zT (r:=0) jZ V V V) 1 V V V V V V λa hg=>Or.inl (⟨un V yy,un V jb,un V yA,hg,ς⟩)
   ·exact sq φ φ.yv ς (zT (r:=0) jZ V V V) 1 V V V V V V λa hg=>Or.inr (Or.inl (⟨un V yy,un V jb,un V yA,jX,xJ,xK,vx,vy,hg,ς⟩))
   ·exact zh (cA qg 5 2 V jb) qn
   ·exact zh (cA qg 5 2 V jb) qn
   ·exact zh (cA qg 5 2 V jb) qn
  ·obtain rfl:_=o:=qA ho
   have QI:S 2=true:=zK zX 0 V V
   rcases hI with ⟨yy,jb,yA,φ,ς⟩|⟨yy,jb,yA,jX,xJ,xK,vx,vy,φ,ς⟩|⟨_,jb,_⟩|⟨_,jb,_⟩|⟨_,jb,_⟩
   ·exact sq φ (Fr.cons φ.yv (φ.at_ 1 2 5 _ V QI)) ς (xV (i:=0) ZE V V V V) 2 V V V V V V λa hg=>Or.inl (⟨un V yy,un V jb,un V yA,hg,ς⟩)
   ·exact sq φ (Fr.cons φ.yv (φ.at_ 1 2 5 _ V QI)) ς (xV (i:=3) ZE V V V V) 2 V V V V V V λa hg=>Or.inr (Or.inl (⟨un V yy,un V jb,un V yA,jX,xJ,xK,vx,vy,hg,ς⟩))
   ·exact zh (cA qg 5 3 V jb) qn
   ·exact zh (cA qg 5 3 V jb) qn
   ·exact zh (cA qg 5 3 V jb) qn
  ·obtain rfl:_=o:=qA ho
   have Wn:S 3=true:=zK zX 0 V V
   rcases hI with ⟨yy,jb,yA,φ,ς⟩|⟨yy,jb,yA,jX,xJ,xK,vx,vy,φ,ς⟩|⟨_,jb,_⟩|⟨_,jb,_⟩|⟨_,jb,_⟩
   ·have hs:=St.mk (Fr.cons φ.yv (φ.at_ 2 3 6 _ V Wn)) ς
    have OR:code.l.length<=140737488355328:=(hs.sh.at 1 V).len
    exact sq φ (Fr.cons φ.yv (φ.at_ 2 3 6 _ V Wn)) ς (Zc (s:=code) (n:=code.l.length) vp V V (λw h=>(h.at 1 V)) V) 3 V V V V V V λa hg=>Or.inl (⟨un V yy,un V jb,un V yA,hg,ς⟩)
   ·have hs:=St.mk (Fr.cons φ.yv (φ.at_ 2 3 6 _ V Wn)) ς
    have zrk:code.l.length<=140737488355328:=(hs.sh.at 4 V).len
    exact sq φ (Fr.cons φ.yv (φ.at_ 2 3 6 _ V Wn)) ς (Zc (s:=code) (n:=code.l.length) vp V V (λw h=>(h.at 4 V)) V) 3 V V V V V V λa hg=>Or.inr (Or.inl (⟨un V yy,un V jb,un V yA,jX,xJ,xK,vx,vy,hg,ς⟩))
   ·exact zh (cA qg 5 4 V jb) qn
   ·exact zh (cA qg 5 4 V jb) qn
   ·exact zh (cA qg 5 4 V jb) qn
  ·obtain rfl:_=o:=qA ho
   have XG:S 4=true:=zK zX 0 V V
   rcases hI with ⟨yy,jb,yA,φ,ς⟩|⟨yy,jb,yA,jX,xJ,xK,vx,vy,φ,ς⟩|⟨_,jb,_⟩|⟨_,jb,_⟩|⟨_,jb,_⟩
   ·have hs:=St.mk (Fr.cons φ.yv (φ.at_ 3 4 7 _ V XG)) ς
    refine yG (ah (n:=code.l.length) hs j7 yM V V V (show 24*code.l.length<=140737488355328/\code.l.length<=140737488355328 from za) V V 266 Wt) (zg V _) ?_
    rintro a35 ME ⟨v35,Yz⟩ ⟨v0,zpC⟩
    exact Or.inr (Or.inr (Or.inl (⟨un V yy,qV _ _,un V yA,v35,φ.wU qg qn [0,1,2,3] zb zb zpC Yz.fr.defers (Yz.fr.at_ 8 _ V) 4 V V V V,(Yz.sh.zY [0,1,2,3] V)⟩)))
   ·have hs:=St.mk (Fr.cons φ.yv (φ.at_ 3 4 7 _ V XG)) ς
    refine yG (ah (n:=code.l.length) hs j7 yM V V V (show 24*code.l.length<=140737488355328/\code.l.length<=140737488355328 from za) V V 266 Wt) (zg V _) ?_
    rintro py lV ⟨v36,QJ⟩ ⟨v0,nM⟩
    exact Or.inr (Or.inr (Or.inr (Or.inl (⟨un V yy,qV _ _,un V yA,jX,xJ,xK,v36,vx,vy,φ.wU qg qn [0,1,2,3,4] zb zb nM QJ.fr.defers (QJ.fr.at_ 8 _ V) 5 V V V V,(QJ.sh.zY [0,1,2,3,4,5,6] V)⟩))))
   ·exact zh jb qn
   ·exact zh jb qn
   ·exact zh jb qn
  ·obtain rfl:_=o:=qA ho
   have Wo:S 1=true:=zK zX 0 V V
   have Kk:S 5=true:=zK zX 1 V V
   rcases hI with ⟨yy,_⟩|⟨_,jb,_⟩|⟨yy,_⟩|⟨yy,jb,yA,jX,xJ,xK,vj,vx,vy,φ,ς⟩|⟨_,_,yA,_⟩
   ·exact zh Wo yy
   ·exact zh Kk jb
   ·exact zh Wo yy
   ·exact sq φ (Fr.cons (Fr.cons φ.yv (φ.at_ 4 1 4 _ V Wo)) (φ.at_ 5 5 8 _ V Kk)) ς (xW (cs:= [.pointer (some ⟨jX,0,none⟩),vj]) V V (λw h=>by obtain ⟨A37,n37,c37,(e37:vj=_)⟩:=((h.QL 0 V)).form;rw [e37];kernel_rfl)) 6 V V V V V V λa hg=>Or.inr (Or.inr (Or.inr (Or.inl (⟨un V yy,un V jb,un V yA,jX,xJ,xK,vj,vx,vy,hg,ς⟩))))
   ·exact zh (cA qg 7 6 V yA) qn
  ·obtain rfl:_=o:=qA ho
   have Uw:S 6=true:=zK zX 0 V V
   rcases hI with ⟨yy,_⟩|⟨_,jb,_⟩|⟨yy,_⟩|⟨yy,jb,yA,jX,xJ,xK,vj,vx,vy,φ,ς⟩|⟨_,_,yA,_⟩
   ·exact zh (cA qg 6 1 V Uw) yy
   ·exact zh (cA qg 6 5 V Uw) jb
   ·exact zh (cA qg 6 1 V Uw) yy
   ·have hs:=St.mk (Fr.cons φ.yv (φ.at_ 6 6 9 _ V Uw)) ς
    refine yG (ai (cs:= [.pointer (some ⟨jX,0,none⟩),vj]) hs V V V V V) (zg V _) ?_
    rintro a39 pV ⟨b39,QC⟩ ⟨v0,zpA⟩
    exact Or.inr (Or.inr (Or.inr (Or.inr (⟨un V yy,un V jb,qV _ _,jX,xJ,xK,vj,b39,vx,vy,φ.wU qg qn [0,1,2,3,4,5,6] zb zb zpA QC.fr.defers (QC.fr.at_ 10 _ V) 7 V V V V,(QC.sh.zY [0,1,2,3,4,5,6,7] V)⟩))))
   ·exact zh yA qn
  ·obtain rfl:_=o:=qA ho
   have Gn:S 7=true:=zK zX 0 V V
   have Wo:S 1=true:=zK zX 1 V V
   have Kk:S 5=true:=zK zX 7 V V
   rcases hI with ⟨yy,_⟩|⟨_,jb,_⟩|⟨yy,_⟩|⟨_,_,yA,_⟩|⟨yy,jb,yA,jX,xJ,xK,vj,Be,vx,vy,φ,ς⟩
   ·exact zh Wo yy
   ·exact zh Kk jb
   ·exact zh Wo yy
   ·exact zh Gn yA
   ·exact sq φ (Fr.cons φ.yv (φ.at_ 7 7 10 _ V Gn)) ς (Zd V V) 8 V V V V V V λa hg=>Or.inr (Or.inr (Or.inr (Or.inr (⟨un V yy,un V jb,un V yA,jX,xJ,xK,vj,Be,vx,vy,hg,ς⟩))))
  · simp at ho
 intro S zO a w hI
 clear xd
 rcases hI with ⟨yy,jb,yA,φ,ς⟩|⟨yy,jb,yA,jX,xJ,xK,vx,vy,φ,ς⟩|⟨yy,jb,yA,vj,φ,ς⟩|⟨yy,jb,yA,jX,xJ,xK,vj,vx,vy,φ,ς⟩|⟨yy,jb,yA,jX,xJ,xK,vj,Be,vx,vy,φ,ς⟩
 · exact zh (zO 1 zf) yy
 · exact zh (zO 5 zf) jb
 · exact zh (zO 1 zf) yy
 · exact zh (zO 7 zf) yA
 have sF:St 11 (λ_=>False) W a w _ _:=⟨(Fr.cons φ.yv (φ.at_ 8 8 2 _ V (zO 8 zf))),ς⟩
 clear zO φ ς yy jb yA
 refine gG sF<|hK gu<|gR<|λa42 w42 WM=>zu (fn:=Tryz.f82) (t:=2) V WM V ?_;clear sF
 exact ⟨Be,jX,xJ,xK,⟨vj,List.replicate code.l.length (⟨.slice none 0 0,[]⟩:Ls Wt)⟩,V,vx,vy,by simp [wO],Yn (q:=⟨vj,List.replicate code.l.length (⟨.slice none 0 0,[]⟩:Ls Wt)⟩) (WM.sh.zY [0,1,2,3,4] V)⟩
def vs (l:List Int):List (Int×Value):=l.map λk=>(k,.bool true)
def zZ.G8 (g:Nat)(l:List Int):zZ where
 fp b:=g=b
 rd _:=False
 ok w:=YI w g (vs l)
 yB w w' h hb:=h.Yl (hb g (.inl V))
 lt w h b hb:=by
  rcases hb with rfl|hb
  ·exact h.lt
  ·exact hb.elim
theorem Bh (k:Int):∀(l:List Int) (i:Nat),(∃j,atKey k (vs l) i=some (i+j,.bool true)/\l[j]? =some k)\/(atKey k (vs l) i=none/\k∉l)
 | [],i=> .inr ⟨V,by simp⟩
 |x::r,i=>by
  show (∃j,(if k=x then some (i,Value.bool true) else atKey k (vs r) (i+1))=some (i+j,.bool true)/\(x::r)[j]? =some k)\/((if k=x then some (i,Value.bool true) else atKey k (vs r) (i+1))=none/\k∉x::r)
  by_cases h:k=x
  ·subst h;exact .inl ⟨0,by rw [if_pos V];rfl,V⟩
  ·rw [if_neg h]
   rcases Bh k r (i+1) with ⟨j,h1,h2⟩|⟨h1,h2⟩
   ·exact .inl ⟨j+1,by rw [h1,show i+1+j=i+(j+1) from za],by simpa using h2⟩
   ·exact .inr ⟨h1,by simp [h,h2]⟩
structure lT (P:Program)(T kT eT:TypeId):Prop where
 map:P.underlying T=some (.map kT eT)
 int:P.underlying kT=some (.int .i64)
 zero:∀w,(zeroValue eT).run P w= .ok (.bool false) w
section
variable {P:Program}{o:Oper}{N:Nat}{K:Nat->Prop}{W w:World}{a:Act}{F:List (Nat×Value)}{L:List zZ}{T kT eT:TypeId}{l:List Int}{k:Int}{g:Nat}
theorem tN (hT:lT P T kT eT)(h:(zZ.G8 g l).ok w):(Instr.lookup T (.map (some g)) (.int .i64 k) true).run P w= .ok (.tuple #[.bool (decide (k∈l)),.bool (decide (k∈l))]) w:=by
 rw [WC w T kT eT g k (vs l) (.bool false) hT.map hT.int (hT.zero w) h]
 rcases Bh k l 0 with ⟨j,h1,h2⟩|⟨h1,h2⟩
 ·rw [h1,decide_eq_true (zy h2)];rfl
 ·rw [h1,decide_eq_false h2];rfl
theorem Ny {x y:Operand}{i:Nat}(hT:lT P T kT eT)(ho:o.op= .lookup T x y true)(hx:ev F x=some (.map (some g)))(hy:ev F y=some (.int .i64 k))(hi:L[i]? =some (.G8 g l)):Rn P o N K W F L (.tuple #[.bool (decide (k∈l)),.bool (decide (k∈l))]):=λa w h=>by
 have key:=tN (k:=k) hT (h.sh.ok _ (zy hi))
 unfold execOp
 simp only [ho,h.fr.ev hx,h.fr.ev hy,qS,key,yQ,q5]
theorem M1 {d:Nat}(h:St N K W a w F L)(ho:o.op= .makeMap T none)(hd:o.dst=some d)(wz:Nat.blt d N=true):Ex P o a w (λa' w' =>∃g:Nat,St N K W a' w' ((d,.map (some g))::F) (.G8 g []::L)):=by
 have yN:(Instr.makeMap T none).run P w= .ok (.map (some w.heap.size)) (w.alloc (.map #[] 0)):=run_makeMap T w
 refine Ex.j8 (v:= .map (some w.heap.size)) (w' :=w.alloc (.map #[] 0)) ?_ ⟨w.heap.size,?_⟩
 ·unfold execOp
  simp only [ho,GR,qS,yN,yQ,q5]
 ·rw [hd]
  have h1:Sh K W (w.alloc (.map #[] 0)) (.G8 w.heap.size []::L):=
   h.sh.push (j2.alloc _ w _) (YI.made w) (λb hb=>by rw [<-(show w.heap.size=b from hb)];exact qC _) (λb hb=>hb.elim) (λb _ hb=>hb)
  exact ⟨h.fr.put d (by simpa [yV] using wz) _,h1⟩
theorem Cz (hT:lT P T kT eT)(h:YI w g (vs l)):∃w',(Instr.mapUpdate T (.map (some g)) (.int .i64 k) (.bool true)).run P w= .ok () w' /\YI w' g (vs (if k∈l then l else l++ [k]))/\w.grownBy w' (some g):=by
 rcases Bh k l 0 with ⟨j,h1,h2⟩|⟨h1,h2⟩
 ·rw [if_pos (zy h2)]
  obtain ⟨es,c,h3,h4⟩:=h
  have qU:g<w.heap.size:=(Array.getElem?_eq_some_iff.1 h3).1
  have e0:(getObj g).run P w= .ok (.map es c) w:=by simp [getObj,Sem.run,h3]
  have e1:=QF (P:=P) w kT k es (vs l) hT.int h4
  have e2:=vJ (P:=P) w false 9999 kT k hT.int
  rw [h1,WS] at e1
  have hj:(Z0 es)[j]? =some (.int .i64 k,.bool true):=by rw [h4];simp [U1,vs,h2]
  obtain ⟨e,he,hek⟩:∃e,es[j]? =some e/\(e.key,e.val)=(Value.int .i64 k,Value.bool true):=by
   rw [Z0,Ht,Bo] at hj
   cases hh:es[j]? with
   |none=>rw [hh] at hj;cases hj
   |some e=>rw [hh] at hj;exact ⟨e,V,qA hj⟩
  have l6:e.key= .int .i64 k:=(Prod.mk.inj hek).1
  have OV:e.val= .bool true:=(Prod.mk.inj hek).2
  refine ⟨World.ji w g (es.modify j λe=> { e with key:= .int .i64 k,val:= .bool true }) c,?_,⟨_,c,mM qU _ _,?_⟩,⟨V,V,V,by simp [World.ji],λq hq Qo=>?_⟩⟩
  ·simp [Instr.mapUpdate,run_underlying hT.map,e0,e1,e2,setObj,Sem.run,h3,World.ji,he,l6,Instr.keyThatStays,Instr.sameBits]
  ·rw [<-h4]
   unfold Z0
   apply Hr
   intro q
   simp only [Ht,Bo,bH]
   split
   ·rename_i hq;subst hq;rw [he];simp [l6,OV]
   ·rfl
  ·have:g≠q:=λe=>Qo (by rw [e])
   simp [World.ji,wG,this]
 ·rw [if_neg h2]
  obtain ⟨w',hr,hm,hg⟩:=KQ w T kT eT g k (vs l) (.bool true) hT.map hT.int h h1
  exact ⟨w',hr,by simpa [vs] using hm,hg⟩
theorem AO {x y z:Operand}{i:Nat}(h:St N K W a w F L)(hT:lT P T kT eT)(ho:o.op= .mapUpdate T x y z)(hd:o.dst=none)(hx:ev F x=some (.map (some g)))(hy:ev F y=some (.int .i64 k))(hz:ev F z=some (.bool true))(hi:L[i]? =some (.G8 g l)):
  Ex P o a w (λa' w' =>St N K W a' w' F (L.set i (.G8 g (if k∈l then l else l++ [k])))):=by
 obtain ⟨w',yN,hm,hg⟩:=Cz (k:=k) hT (show YI w g (vs l) from h.sh.ok _ (zy hi))
 refine Ex.VV (w' :=w') ?_ ?_
 ·unfold execOp
  simp only [ho,h.fr.ev hx,h.fr.ev hy,h.fr.ev hz,qS,yN,yQ,q5]
 ·rw [hd]
  exact ⟨h.fr,h.sh.put hi (j2.grown hg (λb hb=>qA hb)) hm (λb hb=> .inl hb) (λb hb=>hb.elim) (λb _ hb=>hb)⟩
end
theorem nr :lT Tryz.prog 274 3 4:=⟨zb,zb,λw=>zb⟩
def Vh (l:List Wt)(n:Nat):List Int:=((List.range n).filter (w6 2 l)).map (λk=>((k:Nat):Int))
theorem VT (l:List Wt)(n:Nat):Vh l (n+1)=Vh l n++(if w6 2 l n=true then [((n:Nat):Int)] else []):=by
 unfold Vh
 rw [YG,bF,yi]
 congr 1
 cases h:w6 2 l n<;>simp [h]
theorem fV (l:List Wt)(k:Nat):w6 2 l k=true↔k=0\/((nth l k).lock=false/\∀i,i<k->(nth l i).lock=false/\(nth l i).wh≠(nth l k).wh):=by
 unfold w6
 simp only [UI,qI,wE,decide_eq_true_eq,UK,List.mem_range,Bool.or_eq_false_iff,decide_eq_false_iff_not]
 constructor
 ·rintro (h|⟨h1,h2⟩)
  ·exact .inl h
  ·exact .inr ⟨h1.2,h2⟩
 ·rintro (h|⟨h1,h2⟩)
  ·exact .inl h
  ·exact .inr ⟨⟨zf,h1⟩,h2⟩
theorem fq {l:List Wt}{n:Nat}{sn rd:List Int}(Ye:rd=Vh l n)(gv:∀i,i<n->(nth l i).lock=false)(uG:∀x,x∈sn↔∃i,i<n/\(nth l i).wh=x)(h1:(nth l n).lock=false)(h2:¬(nth l n).wh∈sn):rd++ [((n:Nat):Int)]=Vh l (n+1):=by
 rw [VT,if_pos ((fV l n).2 (.inr ⟨h1,λi hi=>⟨gv i hi,λe=>h2 ((uG _).2 ⟨i,hi,e⟩)⟩⟩)),Ye]
theorem rz {l:List Wt}{n:Nat}{sn rd:List Int}(Ye:rd=Vh l n)(uG:∀x,x∈sn↔∃i,i<n/\(nth l i).wh=x)(h2:(nth l n).wh∈sn):rd=Vh l (n+1):=by
 obtain ⟨i,hi,e⟩:=(uG _).1 h2
 rw [VT,if_neg (λh=>?_),k6,Ye]
 rcases (fV l n).1 h with h|⟨_,h⟩
 ·omega
 ·exact (h i hi).2 e
theorem R0 {l:List Wt}{n:Nat}(h:(nth l n).lock=true):∀k,Vh l (n+1+k)=Vh l n++(if n=0 then [0] else [])
 |0=>by
  rw [Kz,VT]
  congr 1
  by_cases h0:n=0
  ·subst h0;rw [if_pos ((fV l 0).2 (.inl V)),if_pos V];rfl
  ·rw [if_neg h0,if_neg]
   intro h9
   rcases (fV l n).1 h9 with h9|⟨h9,_⟩
   ·exact h0 h9
   ·rw [h] at h9;cases h9
 |k+1=>by
  rw [<-Nat.add_assoc,VT,R0 h k,if_neg (c:=w6 2 l (n+1+k)=true),k6]
  intro h9
  rcases (fV l (n+1+k)).1 h9 with h9|⟨_,h9⟩
  ·omega
  ·have:=(h9 n za).1;rw [h] at this;cases this
theorem W8 {l:List Wt}{n:Nat}{rd:List Int}(Ye:rd=Vh l n)(hn:n<l.length)(h:(nth l n).lock=true)(h0:n=0):rd++ [((n:Nat):Int)]=Vh l l.length:=by
 have:=R0 h (l.length-(n+1))
 rw [show n+1+(l.length-(n+1))=l.length from za,if_pos h0,<-Ye] at this
 rw [this,h0];rfl
theorem Uc {l:List Wt}{n:Nat}{rd:List Int}(Ye:rd=Vh l n)(hn:n<l.length)(h:(nth l n).lock=true)(h0:¬n=0):rd=Vh l l.length:=by
 have:=R0 h (l.length-(n+1))
 rw [show n+1+(l.length-(n+1))=l.length from za,if_neg h0,<-Ye,k6] at this
 exact this.symm
theorem CU (l:List Wt)(n:Nat):(Vh l n).length<=n:=by
 unfold Vh
 rw [yw]
 exact vZ (bI _ _) (by simp)
theorem rb {l:List Wt}{n:Nat}{sn:List Int}(uG:∀x,x∈sn↔∃i,i<n/\(nth l i).wh=x):∀x,x∈(if (nth l n).wh∈sn then sn else sn++ [(nth l n).wh])↔∃i,i<n+1/\(nth l i).wh=x:=by
 intro x
 have h1:(∃i,i<n+1/\(nth l i).wh=x)↔(∃i,i<n/\(nth l i).wh=x)\/(nth l n).wh=x:=by
  constructor
  ·rintro ⟨i,hi,e⟩
   rcases Nat.lt_or_eq_of_le (Nat.le_of_lt_succ hi) with h|h
   ·exact .inl ⟨i,h,e⟩
   ·subst h;exact .inr e
  ·rintro (⟨i,hi,e⟩|e)
   ·exact ⟨i,za,e⟩
   ·exact ⟨n,za,e⟩
 rw [h1,<-uG]
 split
 ·rename_i h
  exact ⟨.inl,λh2=>h2.elim id λe=>e▸h⟩
 ·rw [GQ,Bn,eq_comm (a:=x)]
theorem r5 {l:List Wt}{n:Nat}(gv:∀i,i<n->(nth l i).lock=false)(h:(nth l n).lock=false):∀i,i<n+1->(nth l i).lock=false:=λi hi=>by
 rcases Nat.lt_or_eq_of_le (Nat.le_of_lt_succ hi) with h3|h3
 ·exact gv i h3
 ·subst h3;exact h
theorem eQ (g1 g0:Nat)(wait:Ls (Ls Wt))(t k:Nat)(W:World)(hB:xB W g1 185 #[.pointer (some ⟨g0,0,none⟩),wait.v])(hw:wait.At W)(ht:t<wait.l.length)(hk:k<(nth wait.l t).l.length):
    zP Tryz.prog 224 [.pointer (some ⟨g1,0,none⟩),.int .i64 ((t:Nat):Int),.int .i64 ((k:Nat):Int)] W (λv w' =>v= .tuple #[.int .i64 (nth (nth wait.l t).l k).wh,.bool (nth (nth wait.l t).l k).lock]/\qM W w' []):=by
 refine gen Tryz.func224 Tryz.ntmps224 (qM.ext (by intro A hA;simp only [z6,qd,or_false] at hA;rcases hA with rfl|rfl;exact hB;exact hw) (by intro A hA b hb;simp only [z6,qd,or_false] at hA;rcases hA with rfl|rfl<;>exact hb):Sh (λ_=>False) W W [.zx g1 185 [.pointer (some ⟨g0,0,none⟩),wait.v],.at_ wait]) V λjP z7=>gG z7<|sG (oM 2 V<|.nl)<|gK λ_ j1=>y4 (aA 1 V) λc7=>y4 (λw h=>((h.at 1 V).nth t (show t<wait.l.length from za))) λ(Dv:((nth wait.l t).l).length<=140737488355328)=>rQ (oM 1 V<|jA yE V<|w7 0 jf V V<|oM 1 V<|jo j7 yM (aA 1 V) _ zp V<|Z1 ((nth wait.l t).v) yM (aA 1 V) zp V<|oM 1 V<|jo jz xZ (λw h=>((h.at 1 V).nth t (show t<wait.l.length from za))) _ zp V<|QB Vv V<|Z1 (.int .i64 ((nth ((nth wait.l t).l) k).wh)) zj (λw h=>((h.at 1 V).nth t (show t<wait.l.length from za))) zp V<|oM 1 V<|jA yE V<|w7 0 jf V V<|oM 1 V<|jo j7 yM (aA 1 V) _ zp V<|Z1 ((nth wait.l t).v) yM (aA 1 V) zp V<|oM 1 V<|jo jz xZ (λw h=>((h.at 1 V).nth t (show t<wait.l.length from za))) _ zp V<|QB DS V<|Z1 (.bool ((nth ((nth wait.l t).l) k).lock)) w5 (λw h=>((h.at 1 V).nth t (show t<wait.l.length from za))) zp V<|oM 2 V<|.nl)<|hK j1<|gF [6,7] V<|gR<|λHT Hz xr=>WY (fn:=Tryz.f224) (t:=6) (u:=7) V xr V V ?_;clear z7
 exact ⟨V,(xr.sh.zY [] V)⟩
theorem tZ (g2 g1 g0:Nat)(wait:Ls (Ls Wt))(t:Nat)(W:World)(hL:xB W g2 159 #[.pointer (some ⟨g1,0,none⟩)])(hB:xB W g1 185 #[.pointer (some ⟨g0,0,none⟩),wait.v])(hw:wait.At W)(ht:t<wait.l.length)(hl3:(nth wait.l t).l.length<=3):
    zP Tryz.prog 223 [.pointer (some ⟨g2,0,none⟩),.int .i64 ((t:Nat):Int)] W (λv w' =>∃s:Ls Int,v=s.v/\s.l=Vh (nth wait.l t).l (nth wait.l t).l.length/\qM W w' [.own 3 s]):=by
 refine gen Tryz.func223 Tryz.ntmps223 (qM.ext (by intro A hA;simp only [z6,qd,or_false] at hA;rcases hA with rfl|rfl|rfl;exact hL;exact hB;exact hw) (by intro A hA b hb;simp only [z6,qd,or_false] at hA;rcases hA with rfl|rfl|rfl<;>exact hb):Sh (λ_=>False) W W [.zx g2 159 [.pointer (some ⟨g1,0,none⟩)],.zx g1 185 [.pointer (some ⟨g0,0,none⟩),wait.v],.at_ wait]) V λjP z7=>gG z7<|sG (oM 1 V<|.nl)<|sG (oM 1 V<|.nl)<|sK λ_ gu=>xb (λ_ _ h_=>M1 h_ V V V) V λg14=>zn (oM 1 V<|.nl)<|nK gu<|gK λ_ Xe=>sK λ_ nC=>zn (oM 1 V<|jA DT V<|w7 1 mH V V<|oM 1 V<|.nl)<|gP (λ_ _ h_=>gQ h_ L4 V (aq g1 g0 wait t 0 _ (h_.sh.zx 2 V) (h_.sh.at 3 V) ht)) V<|zn (oM 1 V<|.nl)<|nK nC<|gB<|λa20 mw wV=>?_;clear z7
 have XU:=wV.nil (α:=Int) 3
 clear wV
 refine qE (λm a w=>∃(n:Nat) (rd sn:List Int) (vr:Value),(n<=(nth wait.l t).l.length)/\(rd=Vh (nth wait.l t).l n)/\(∀x,x∈sn↔∃i,i<n/\(nth (nth wait.l t).l i).wh=x)/\(∀i,i<n->(nth (nth wait.l t).l i).lock=false)/\St 55 (λ_=>False) W a w [(0,.pointer (some ⟨g2,0,none⟩)),(1,.int .i64 ((t:Nat):Int)),(5,vr),(6,.map (some g14)),(18,.int .i64 (((nth wait.l t).l.length:Nat):Int)),(19,.int .i64 ((n:Nat):Int))] [.G8 g14 sn,.zx g2 159 [.pointer (some ⟨g1,0,none⟩)],.zx g1 185 [.pointer (some ⟨g0,0,none⟩),wait.v],.at_ wait,.own 3 (⟨vr,rd⟩:Ls Int)]/\m=(nth wait.l t).l.length-n) ⟨_,0,[],[],(.slice none 0 0),za,(V),(λx=>by simp),(λi hi=>absurd hi za),XU.wN ⟨V,V,V,V,V,V,trivial⟩ [1,2,3,4,0] V,V⟩ ?_
 clear XU
 rintro m18 HS Hx ⟨n,rd,sn,vr,hn,Ye,uG,gv,jc,uM⟩
 have Wk:rd.length<=n:=by rw [Ye];exact CU _ _
 refine gG jc<|sG (xk _ _ V<|.nl)<|gK λ_ J9=>gcd V (λUy Dq=>?_) λUy Dq=>?_;clear jc
 ·skip
  refine gS<|hK J9<|gK λ_ Ke=>gB<|sG (oM 2 V<|.nl)<|sK λ_ De=>zn (oM 1 V<|jA DT V<|w7 1 mH V V<|oM 2 V<|.nl)<|gP (λ_ _ h_=>gQ h_ zd1 V (eQ g1 g0 wait t n _ (h_.sh.zx 2 V) (h_.sh.at 3 V) ht za)) V<|zn (oM 1 V<|kK V<|kK V<|oM 2 V<|.nl)<|nK De<|gK λ_ K6=>sG (oM 1 V<|.nl)<|Xl V (λll=>?_) λll=>?_
  ·skip
   refine gK λ_ lY=>sG (oM 1 V<|KX _ 0 V<|.nl)<|gcd V (λQY cX=>?_) λQY cX=>?_
   ·skip
    refine gL<|zn (oM 2 V<|.nl)<|xb (λ_ _ h_=>qF (n:=1) (cs:= [.int .i64 ((n:Nat):Int)]) ([((n:Nat):Int)]:List Int) h_ zt zj V V V zf V zb V (λq hq w h=>Flat.inner _ _) (λq hq b hb=>(Flat.on _ _ hb).elim) V V) V λv34=>xb (λ_ _ h_=>yu (r:=5) (rm:=0) (s:=(⟨vr,rd⟩:Ls Int)) (m:=(⟨v34,[((n:Nat):Int)]⟩:Ls Int)) h_ zt zj V V V V V V V (λw h=>(h.own 0 V)) (λb hb=>qt (h_.sh.ok _ (zy (i:=0) V)) hb) (λq hq b hb=>⟨q,hq,hb⟩) V V V inferInstance (show (rd.length+([((n:Nat):Int)]).length)*8<=140737488355328/\rd.length+([((n:Nat):Int)]).length<=140737488355328 from zp) V V) V λv35=>zn (oM 1 V<|.nl)<|nK lY<|gF [5] V<|gX<|hK Xe<|sG (oM 2 V<|.nl)<|gR<|λa37 w37 KF=>zu (fn:=Tryz.f223) (t:=4) V KF V ?_
    exact ⟨⟨v35,rd++([((n:Nat):Int)])⟩,V,(by first|exact W8 Ye za zc zc|exact Uc Ye za zc zc|(rw [<-show n=(nth wait.l t).l.length from za];exact Ye)),(KF.sh.zY [5] V)⟩
   refine gS<|hK lY<|gF [5] V<|gX<|hK Xe<|sG (oM 2 V<|.nl)<|gR<|λa39 pV QC=>zu (fn:=Tryz.f223) (t:=4) V QC V ?_
   exact ⟨⟨vr,rd⟩,V,(by first|exact W8 Ye za zc zc|exact Uc Ye za zc zc|(rw [<-show n=(nth wait.l t).l.length from za];exact Ye)),(QC.sh.zY [4] V)⟩
  refine gS<|hK K6<|gK λ_ MK=>sG (oM 2 V<|oV (Ny (i:=0) (k:=((nth (nth wait.l t).l n).wh)) (l:=sn) nr V V V V) V<|oM 1 V<|kK V<|kK V<|oM 2 V<|.nl)<|sG (oM 1 V<|rM V<|.nl)<|gF [0,1,5,6,7,8,18,19,46] V<|Xl V (λJ1=>?_) λJ1=>?_
  ·have n4:¬((nth (nth wait.l t).l n).wh∈sn):=by simpa using J1
   refine gL<|zn (oM 2 V<|.nl)<|xb (λ_ _ h_=>qF (n:=1) (cs:= [.int .i64 ((n:Nat):Int)]) ([((n:Nat):Int)]:List Int) h_ zt zj V V V zf V zb V (λq hq w h=>Flat.inner _ _) (λq hq b hb=>(Flat.on _ _ hb).elim) V V) V λv44=>xb (λ_ _ h_=>yu (r:=5) (rm:=0) (s:=(⟨vr,rd⟩:Ls Int)) (m:=(⟨v44,[((n:Nat):Int)]⟩:Ls Int)) h_ zt zj V V V V V V V (λw h=>(h.own 0 V)) (λb hb=>qt (h_.sh.ok _ (zy (i:=0) V)) hb) (λq hq b hb=>⟨q,hq,hb⟩) V V V inferInstance (show (rd.length+([((n:Nat):Int)]).length)*8<=140737488355328/\rd.length+([((n:Nat):Int)]).length<=140737488355328 from zp) V V) V λv45=>zn (oM 1 V<|.nl)<|nK MK<|gL<|zn (oM 2 V<|.nl)<|gE (λ_ _ h_=>AO (i:=1) (k:=((nth (nth wait.l t).l n).wh)) h_ nr V V V V V V) V<|nK Ke<|gL<|zn (yl _ 1 zp V<|oM 1 V<|.nl)<|nN<|λPO M8 Ws=>zH ⟨_,?_,n+1,rd++([((n:Nat):Int)]),if (nth (nth wait.l t).l n).wh∈sn then sn else sn++ [(nth (nth wait.l t).l n).wh],v45,?_,?_,?_,?_,Ws.wN ⟨V,V,V,V,V,V,trivial⟩ [1,2,3,4,5] V,V⟩
   · rw [uM];first|omega|(simp only [qf];omega)
   · omega
   · first|exact fq Ye gv uG zc zc|exact rz Ye uG zc
   · exact rb uG
   · exact r5 gv zc
  have n4:(nth (nth wait.l t).l n).wh∈sn:=by simpa using J1
  refine gS<|hK MK<|gL<|zn (oM 2 V<|.nl)<|gE (λ_ _ h_=>AO (i:=0) (k:=((nth (nth wait.l t).l n).wh)) h_ nr V V V V V V) V<|nK Ke<|gL<|zn (yl _ 1 zp V<|oM 1 V<|.nl)<|nN<|λa49 w49 U7=>zH ⟨_,?_,n+1,rd,if (nth (nth wait.l t).l n).wh∈sn then sn else sn++ [(nth (nth wait.l t).l n).wh],vr,?_,?_,?_,?_,U7.nf ⟨V,V,V,V,V,V,trivial⟩,V⟩
  · rw [uM];first|omega|(simp only [qf];omega)
  · omega
  · first|exact fq Ye gv uG zc zc|exact rz Ye uG zc
  · exact rb uG
  · exact r5 gv zc
 refine gX<|hK Xe<|sG (oM 2 V<|.nl)<|gR<|λa51 MC YZ=>zu (fn:=Tryz.f223) (t:=4) V YZ V ?_
 exact ⟨⟨vr,rd⟩,V,(by first|exact W8 Ye za zc zc|exact Uc Ye za zc zc|(rw [<-show n=(nth wait.l t).l.length from za];exact Ye)),(YZ.sh.zY [4] V)⟩
def zah (P:Program)(T:TypeId)(name:String):Option (FuncId×TypeId×TypeId):=
 match P.info? T with
 |none=>none
 |some i=>match i.methods.find? (·.name==name) with
  |none=>none
  |some m=>match m.path.toList,m.func with
   | [st,st2],some (f,true)=>match P.underlying st.struct,P.underlying st2.struct with
    |some (.struct fs),some (.struct fs2)=>match fs[st.index]?,fs2[st2.index]? with
     |some fd,some fd2=>match P.info? fd.type,P.info? fd2.type,P.underlying fd2.type with
      |some fi,some fi2,some (.pointer _)=>if st.deref=true/\st2.deref=true/\fd.offset=0/\fd2.offset=0/\fi.size≠0/\fi2.size≠0 then some (f,fd.type,fd2.type) else none
      |_,_,_=>none
     |_,_=>none
    |_,_=>none
   |_,_=>none
theorem aP {P:Program}{n g2 g1:Nat}{T x1 x2:TypeId}{name:String}{f:FuncId}{r:Value}{w:World}(hn:Nat.blt 0 n=true)(hI:zah P T name=some (f,x1,x2))(hl:(loadVar x1 ⟨g2,0,none⟩).run P w= .ok (.pointer (some ⟨g1,0,none⟩)) w)(AE:(loadVar x2 ⟨g1,0,none⟩).run P w= .ok r w):(method n T (.pointer (some ⟨g2,0,none⟩)) name).run P w= .ok (f,r) w:=by
 obtain ⟨n,rfl⟩:∃n',n=n' +1:=⟨n-1,by rw [yV] at hn;omega⟩
 unfold zah at hI
 split at hI
 ·cases hI
 rename_i i hi
 split at hI
 ·cases hI
 rename_i m hm
 split at hI
 ·rename_i st st2 f' hp hf
  split at hI
  ·rename_i fs fs2 Rg zrD
   split at hI
   ·rename_i fd fd2 hfd zrH
    split at hI
    ·rename_i fi fi2 e hfi zrF hfu
     split at hI
     ·rename_i hc
      cases hI
      obtain ⟨h1,h2,h3,h4,h5,h6⟩:=hc
      unfold method
      simp [typeInfo,hi,hm,hp,hf,follow,run_underlying Rg,run_underlying zrD,hfd,zrH,h1,h2,Place.get,asAddr,fieldPlace,sizeOf,hfi,zrF,h3,h4,h5,h6,receiverAt,run_underlying hfu,hl,AE,Addr.add]
     ·cases hI
    ·cases hI
   ·cases hI
  ·cases hI
 ·cases hI
theorem YY {P:Program}{T T' :TypeId}{u u' :Addr}{name:String}{vs:List Value}{w:World}{R:Value->World->Prop}{f:FuncId}{r:Addr}(h:VK P T u name vs w R)(h1:(method (P.types.size+Made.depth) T (.pointer (some u)) name).run P w= .ok (f,.pointer (some r)) w)
  (h2:(method (P.types.size+Made.depth) T' (.pointer (some u')) name).run P w= .ok (f,.pointer (some r)) w):VK P T' u' name vs w R:=by
 obtain ⟨f0,r0,h3,h4,h5⟩:=h
 rw [h1] at h3
 injection h3 with h3 _
 injection h3 with h3 h6
 injection h6 with h6
 injection h6 with h6
 subst h3 h6
 exact ⟨_,_,h2,h4,h5⟩
theorem Gb {P:Program}{T:TypeId}{u:Addr}{name:String}{vs:List Value}{w:World}{R R' :Value->World->Prop}(h:VK P T u name vs w R)(hr:∀v w',R v w' ->R' v w'):VK P T u name vs w R' :=by
 obtain ⟨f0,r0,h3,h4,h5⟩:=h
 exact ⟨f0,r0,h3,h4,h5.mono hr⟩
theorem p8 (x:TS)(w:Wt):TS.store 1 x w=TS.store 2 x w:=by
 unfold TS.store
 rw [if_pos zf,if_pos zf]
def ky (g2 g1 g0:Nat):Qy:=⟨Ls (Ls Wt),λq=>q.l.map (·.l),λq=> .x5 [.zM g2 159 [.pointer (some ⟨g1,0,none⟩)],.zM g1 185 [.pointer (some ⟨g0,0,none⟩),q.v],.x5 (jU (.own 266) 267 q.v q.l)],157,⟨g2,0,none⟩,g0,2⟩
theorem cD {g2 g1 g0:Nat}{q:Ls (Ls Wt)}{b:Nat}(h:((ky g2 g1 g0).X q).rd b):False:=by
 obtain ⟨A,hA,hb⟩:=h
 simp only [z6,qd,or_false] at hA
 rcases hA with rfl|rfl|rfl
 ·exact hb
 ·exact hb
 ·exact K3 hb
theorem ZK.Ak {g2 g1 g0:Nat}{w:World}{words owner:Ls Int}{q:Ls (Ls Wt)}(h:ZK 182 (ky g2 g1 g0) w words owner q):xB w g2 159 #[.pointer (some ⟨g1,0,none⟩)]:=h.x.1 _ (xx ..)
theorem ZK.P9 {g2 g1 g0:Nat}{w:World}{words owner:Ls Int}{q:Ls (Ls Wt)}(h:ZK 182 (ky g2 g1 g0) w words owner q):ZK 182 (wO g1 g0) w words owner q:=
 ⟨h.zM,h.wa,h.oa,λA hA=>h.x.1 A (xe _ hA),(List.pairwise_cons.1 h.x.2.1).2,λA hA=>h.x.2.2 A (xe _ hA)⟩
theorem wI {g2 g1 g0:Nat}{K:Nat->Prop}{W w:World}{words owner:Ls Int}{q:Ls (Ls Wt)}(h:Sh K W w (km 182 3 (ky g2 g1 g0) words owner q)):Sh K W w (km 182 3 (wO g1 g0) words owner q++ [.zM g2 159 [.pointer (some ⟨g1,0,none⟩)]]):=by
 have h1:=(h.zY (L' := [(ky g2 g1 g0).X q,.zM g0 182 [words.v,owner.v],.own 3 words,.own 3 owner]) [3,0,1,2] V).open_
 have h2:Sh K W w ([.zM g1 185 [.pointer (some ⟨g0,0,none⟩),q.v],.x5 (jU (.own 266) 267 q.v q.l)]++ [.zM g2 159 [.pointer (some ⟨g1,0,none⟩)],.zM g0 182 [words.v,owner.v],.own 3 words,.own 3 owner]):=h1.zY [1,2,0,3,4,5] V
 exact h2.close.zY [2,3,4,0,1] V
theorem ZS {g2 g1 g0:Nat}{K:Nat->Prop}{W w:World}{words owner:Ls Int}{q:Ls (Ls Wt)}(h:Sh K W w (km 182 3 (wO g1 g0) words owner q++ [.zM g2 159 [.pointer (some ⟨g1,0,none⟩)]])):Sh K W w (km 182 3 (ky g2 g1 g0) words owner q):=by
 have h1:=(h.zY (L' := [(wO g1 g0).X q,.zM g2 159 [.pointer (some ⟨g1,0,none⟩)],.zM g0 182 [words.v,owner.v],.own 3 words,.own 3 owner]) [3,4,0,1,2] V).open_
 have h2:Sh K W w ([.zM g2 159 [.pointer (some ⟨g1,0,none⟩)],.zM g1 185 [.pointer (some ⟨g0,0,none⟩),q.v],.x5 (jU (.own 266) 267 q.v q.l)]++ [.zM g0 182 [words.v,owner.v],.own 3 words,.own 3 owner]):=h1.zY [2,0,1,3,4,5] V
 exact h2.close.zY [1,2,3,0] V
theorem K2 {g2 g1 g0:Nat}{K:Nat->Prop}{W w:World}{words owner:Ls Int}{q:Ls (Ls Wt)}(h:Sh K W w (km 182 3 (ky g2 g1 g0) words owner q)):xB w g2 159 #[.pointer (some ⟨g1,0,none⟩)]:=(wI h).ok _ (List.mem_append.2 (.inr (xx ..)))
theorem Et {g2 g1 g0:Nat}{K:Nat->Prop}{W w:World}{words owner:Ls Int}{q:Ls (Ls Wt)}(h:Sh K W w (km 182 3 (ky g2 g1 g0) words owner q)):((wO g1 g0).X q).ok w:=(wI h).ok _ (List.mem_append.2 (.inl (xe _ (xe _ (xe _ (xx ..))))))
theorem Zl {g2 g1:Nat}{w:World}(h:xB w g2 159 #[.pointer (some ⟨g1,0,none⟩)]):(loadVar 125 ⟨g2,0,none⟩).run Tryz.prog w= .ok (.pointer (some ⟨g1,0,none⟩)) w:=by
 unfold xB at h
 simp [loadVar,World.cell?,h]
theorem N6 (g2 g1 g0:Nat):KA Tryz.prog 182 3 (ky g2 g1 g0) where
 load w words owner q t wd h ht hl dQ:=YY (f:=212) (r:=⟨g1,0,none⟩) ((YX g1 g0).load w words owner q t wd h.P9 ht hl dQ) zb (kl (xt:=125) zb zb (Zl h.Ak))
 waits w words owner q t h ht hl:=YY (f:=216) (r:=⟨g1,0,none⟩) ((YX g1 g0).waits w words owner q t h.P9 ht hl) zb (kl (xt:=125) zb zb (Zl h.Ak))
 Gx w words owner q t a h ht hl gv:=YY (f:=211) (r:=⟨g1,0,none⟩) ((YX g1 g0).Gx w words owner q t a h.P9 ht hl gv) zb (kl (xt:=125) zb zb (Zl h.Ak))
 ready w words owner q t h ht hl:=⟨223,⟨g2,0,none⟩,zb,zd2,by
  have e:nth ((ky g2 g1 g0).qs q) t=(nth q.l t).l:=Zk ht
  rw [e] at hl⊢
  obtain ⟨hB,hq⟩:=kx h.P9.x
  exact tZ g2 g1 g0 q t w h.Ak hB hq (by simpa [ky] using ht) hl⟩
 base w words owner q h:=YY (f:=197) (r:=⟨g0,0,none⟩) ((YX g1 g0).base w words owner q h.P9) (kl (xt:=123) zb zb (XB (kx h.P9.x).1)) (aP (x1:=125) (x2:=123) zb zb (Zl h.Ak) (XB (kx h.P9.x).1))
 store K W words owner q t wd qk hS ht hl dQ:=YY (f:=214) (r:=⟨g1,0,none⟩) (Gb ((YX g1 g0).store _ W words owner q t wd qk (wI hS).yT ht hl dQ) (by
  rintro v w' ⟨rfl,zB,zA,q',⟨wt,h1,h2⟩,hs⟩
  exact ⟨V,zB,zA,q',⟨wt,h1,λpc ze zd zq=>(h2 pc ze zd zq).trans (p8 _ _)⟩,ZS ((wI hS).xP hs (by intro A hA b hb;simp only [km,z6,qd,or_false] at hA;rcases hA with rfl|rfl|rfl|rfl<;>first|exact (hb:False).elim|exact Flat.qh hb|exact (Z3 hb).elim))⟩)) zb (kl (xt:=125) zb zb (Zl (K2 hS)))
 free K W words owner q t a hS ht hl ha:=YY (f:=210) (r:=⟨g1,0,none⟩) (Gb ((YX g1 g0).free _ W words owner q t a (wI hS).yT ht hl ha) (by
  rintro v w' ⟨rfl,zB,zA,q',⟨wt,h1,h2⟩,hs⟩
  exact ⟨V,zB,zA,q',⟨wt,h1,λpc ze zd zq=>(h2 pc ze zd zq).trans (p8 _ _)⟩,ZS ((wI hS).xP hs (by intro A hA b hb;simp only [km,z6,qd,or_false] at hA;rcases hA with rfl|rfl|rfl|rfl<;>first|exact (hb:False).elim|exact Flat.qh hb|exact (Z3 hb).elim))⟩)) zb (kl (xt:=125) zb zb (Zl (K2 hS)))
 swap K W words owner q t wd qk hS dQ:=YY (f:=205) (r:=⟨g0,0,none⟩) (Gb ((YX g1 g0).swap _ W words owner q t wd qk (wI hS).yT dQ) (by
  rintro v w' ⟨rfl,zB,zA,q',hp,hs⟩
  exact ⟨V,zB,zA,q',hp,ZS ((wI hS).xP hs (by intro A hA b hb;simp only [km,z6,qd,or_false] at hA;rcases hA with rfl|rfl|rfl|rfl<;>first|exact (hb:False).elim|exact Flat.qh hb|exact (Z3 hb).elim))⟩)) (kl (xt:=123) zb zb (XB (kx (Et hS)).1)) (aP (x1:=125) (x2:=123) zb zb (Zl (K2 hS)) (XB (kx (Et hS)).1))
 flush K W words owner q t k hS ht hl hk hw:=YY (f:=209) (r:=⟨g1,0,none⟩) (Gb ((YX g1 g0).flush _ W words owner q t k (wI hS).yT ht hl hk hw) (by
  rintro v w' ⟨rfl,zB,zA,q',hp,hs⟩
  exact ⟨V,zB,zA,q',hp,ZS ((wI hS).xP hs (by intro A hA b hb;simp only [km,z6,qd,or_false] at hA;rcases hA with rfl|rfl|rfl|rfl<;>first|exact (hb:False).elim|exact Flat.qh hb|exact (Z3 hb).elim))⟩)) zb (kl (xt:=125) zb zb (Zl (K2 hS)))
 mh q b h:=cD h
theorem EA (code:Ls (Ls Ins))(zi:Ls Int)(Lk:Nat)(z8:Int)(W:World)(qY:code.At W)(yo:zi.At W)(qg:code.l.length<=100)(aV:zi.l.length<=64)(gv:Lk<=4):
    zP Tryz.prog 62 [.agg #[code.v,zi.v,.int .i64 ((Lk:Nat):Int),.int .i64 z8]] W (λv w' =>∃(gl gt g:Nat) (zB zA:Ls Int) (q:Ls (Ls Wt)),v= .iface 157 (.pointer (some ⟨gl,0,none⟩))/\zB.l=zi.l/\zA.l=List.replicate Lk (-1)/\(ky gl gt g).qs q=List.replicate code.l.length []/\qM W w' (km 182 3 (ky gl gt g) zB zA q)):=by
 refine gen Tryz.func62 Tryz.ntmps62 (qM.Jo qY yo:Sh (λ_=>False) W W [.at_ code,.at_ zi]) V λjP z7=>gG z7<|sK λ_ kz=>XV V V λxX=>zn (oM 1 V<|.nl)<|nK kz<|sK λ_ gu=>zn (kt 0 qu V V<|.nl)<|λHT Hz xr=>zL (zD xr zlG V V V V V (zaP code zi Lk z8 _ (xr.sh.at 1 V) (xr.sh.at 2 V) za aV gv)) (zg V _) ?_;clear z7
 rintro BK Hy ⟨_,⟨zln,g16,zor,zoz,q16,rfl,ziL,ziV,zp0,Ge⟩,IQ⟩
 have w9:=(⟨IQ,xr.sh.call Ge (by intro A hA b hb;simp only [km,z6,qd,or_false] at hA;first|(subst hA;exact Flat.qh hb)|(rcases hA with rfl|rfl|rfl|rfl<;>first|exact (hb:False).elim|exact Flat.qh hb|exact (Z3 hb).elim|exact (cD hb).elim))⟩:St 8 (λ_=>False) W BK Hy _ _)
 clear IQ Ge
 clear xr
 refine gG w9<|zn (oV (q8 (cs:= [.pointer (some ⟨zln,0,none⟩)]) V V zb) V<|.nl)<|XV V V λb17=>zn (oV (Rn.same (H3 (T:=157) Tryz.underlying157 V V) V) V<|oM 1 V<|.nl)<|nK gu<|gR<|λHS Hx jc=>zu (fn:=Tryz.f62) (t:=2) V jc V ?_;clear w9
 exact ⟨b17,zln,g16,zor,zoz,q16,V,ziL,ziV,zp0,ZS (q:=q16) (jc.sh.zY [1,2,3,4,0] V)⟩
theorem Nw {α:Type}(M:List (Ls α))(s:Ls α):Yc (M++ [s])=Yc M++ [⟨s.v⟩]:=by simp [Yc]
section
variable {P:Program}{o:Oper}{N:Nat}{K:Nat->Prop}{W w:World}{a:Act}{F:List (Nat×Value)}{L:List zZ}{α:Type}[zz α]{E IE:TypeId}{v:Value}{M:List (Ls α)}
theorem AT {d:Nat}{T e:TypeId}{gg:Bool}{xf:Nat}{z:List Value}{x y:Operand}{s:Ls α}{mv:Value}(h:St N K W a w F (.x5 (jU (.own IE) E v M):: .own IE s:: .own e (⟨mv,[⟨s.v⟩]⟩:Ls RV)::L))(hT:QA P T=some e)(he:je P e=some (gg,1,xf,z))(ho:o.op= .call ⟨.builtin .append, #[x,y], #[T,T]⟩)
  (hx:ev F x=some v) (hy:ev F y=some mv) (hE:E=e) (hz:z.length=1) (hn:(M.length+1)*xf<=140737488355328/\M.length+1<=140737488355328) (hd:o.dst=some d) (wz:Nat.blt d N=true):
  Ex P o a w (λa' w' =>∃u:Value,St N K W a' w' ((d,u)::F) (.x5 (jU (.own IE) E u (M++ [s]))::L)):=by
 have h1:Sh K W w (.own E (⟨v,Yc M⟩:Ls RV):: .own e (⟨mv,[⟨s.v⟩]⟩:Ls RV)::(M.map (zZ.own IE)++(.own IE s::L))):=h.sh.open_.perm (by
  unfold jU
  refine List.Perm.cons _ ?_
  refine (List.Perm.append_left _ (List.Perm.swap _ _ _)).trans ?_
  exact List.perm_middle)
 refine (RC (r:=0) (rm:=1) (s:=(⟨v,Yc M⟩:Ls RV)) (m:=(⟨mv,[⟨s.v⟩]⟩:Ls RV)) ⟨h.fr,h1⟩ hT he ho hx hy V hE V V (λw h=>h.own 1 V) (λb hb=>qt (h1.ok _ (zy (i:=1) V)) hb) (λq hq b hb=>hb.elim) V V hz (λw h q hq j hj=>by
   obtain rfl:q=0:=by simpa using hq
   exact (vE (h.ok (.own IE s) (by simp))).one)
  (by rw [xG];exact hn) hd wz).mono λa' w' ⟨u,h2⟩=>⟨u,h2.fr,?_⟩
 have h3:Sh K W w' (.own E (⟨u,Yc M++ [⟨s.v⟩]⟩:Ls RV):: .own e (⟨mv,[⟨s.v⟩]⟩:Ls RV)::(M.map (zZ.own IE)++(.own IE s::L))):=h2.sh
 refine Sh.close ((h3.perm (List.Perm.swap _ _ _)).tail.perm ?_)
 unfold jU
 rw [Nw,yi]
 refine List.Perm.cons _ ?_
 simp
theorem Sh.zbr (h:Sh K W w L):Sh K W w (.x5 (jU (.own IE) E (.slice none 0 0) ([]:List (Ls α)))::L):=
 Sh.Ss (n:=0) (α:=α) (IE:=IE) (h.nil (α:=RV) E)
end
theorem CR {l:List Int}{k:Nat}(h:k<l.length){b:List UInt8}{c d:List UInt8}(hb:b=c++ZC ((l.take k).flatMap λn=>kV n++ [32]))(hd:d=b++ZC (kV (nth l k))):d++ [32]=c++ZC ((l.take (k+1)).flatMap λn=>kV n++ [32]):=by
 rw [hd,hb,zS _ _ h,XR,Qd]
 simp only [kF,JR,k6,Qd,xi]
 rfl
theorem NA {l:List Int}{k:Nat}(h:k=l.length){b c:List UInt8}(hb:b=c++ZC ((l.take k).flatMap λn=>kV n++ [32])):b++ [59]=c++ZC (vG l):=by
 rw [hb,h,Y9,vG,Qd,xi];rfl
theorem eP {l:List Wt}{k:Nat}{b c d:List UInt8}{row:List Int}(h:k<l.length)(hb:b=c++ZC (((l.take k).map Bw).flatMap vG))(hd:d=b++ZC (vG row))(e:row=Bw (nth l k)):d=c++ZC (((l.take (k+1)).map Bw).flatMap vG):=by
 rw [hd,hb,e,zS _ _ h,yi,XR,Qd]
 simp only [xA,wY,kF,JR,k6,xi]
theorem No {q:List (Ls Wt)}{t k:Nat}{b c d f:List UInt8}(h:t<q.length)(hk:k=(nth q t).l.length)(hb:b=c++ZC ((Nk ((q.take t).map (·.l))).flatMap vG))(hd:d=b++ZC ((((nth q t).l.take k).map Bw).flatMap vG))(hf:f=d++ZC (vG [])):f=c++ZC ((Nk ((q.take (t+1)).map (·.l))).flatMap vG):=by
 rw [hf,hd,hb,hk,Y9,zS _ _ h,yi]
 unfold Nk
 simp only [XR,Qd,xA,wY,kF,JR,k6,xi]
theorem vB.row {x:Wt}{k:Int}(h:gy x.wh/\gy x.qk)(hk:gy k):vB [k,x.wh,x.qk]:=λn hn=>by
 simp only [z6,qd,or_false] at hn
 rcases hn with rfl|rfl|rfl
 ·exact hk
 ·exact h.1
 ·exact h.2
theorem vB.nil :vB []:=λn hn=>by cases hn
theorem gj (l:List Nat):(ZC l).length=l.length:=yw _
theorem Vf (K:Nat->Prop)(gb:Nat)(bs:Ls UInt8)(l:Ls Int)(W:World)(hS:Sh K W W [.zM gb 204 [bs.v],.own 5 bs,.at_ l])(hR:vB l.l)(hn:bs.l.length+66*l.l.length<=9000000000000):
    zP Tryz.prog 141 [l.v,.pointer (some ⟨gb,0,none⟩)] W (λv w' =>v= .tuple #[]/\∃JN:Ls UInt8,JN.l=bs.l++ZC (vG l.l)/\Sh K W w' [.zM gb 204 [JN.v],.own 5 JN,.at_ l]):=by
 refine gen Tryz.func141 Tryz.ntmps141 hS V λjP z7=>gG z7<|gK λ_ kz=>sK λ_ j1=>y4 (aA 2 V) λc7=>zn (oM 1 V<|wk zt (aA 2 V) V<|oM 1 V<|.nl)<|nK j1<|gB<|λHT Hz xr=>qE (λm a w=>∃(k:Nat) (bl:List UInt8) (vb:Value),(k<=l.l.length)/\(bl=bs.l++ZC ((l.l.take k).flatMap λn=>kV n++ [32]))/\(bl.length<=bs.l.length+66*k)/\St 20 K W a w [(1,.pointer (some ⟨gb,0,none⟩)),(5,l.v),(6,.int .i64 ((l.l.length:Nat):Int)),(7,.int .i64 ((k:Nat):Int))] [.zM gb 204 [vb],.own 5 (⟨vb,bl⟩:Ls UInt8),.at_ l]/\m=l.l.length-k) ⟨_,0,bs.l,bs.v,za,(by simp [ZC]),za,xr.nf ⟨V,V,V,V,trivial⟩,V⟩ ?_;clear z7
 clear xr
 rintro m14 ee BN ⟨k,bl,vb,hk,O2,aY,xd,Ie⟩
 refine gG xd<|sG (xk _ _ V<|.nl)<|gK λ_ Us=>gcd V (λzdz zcD=>?_) λzdz zcD=>?_;clear xd
 ·skip
  refine gS<|hK Us<|gK λ_ Va=>gB<|sG (jo zt zj (aA 2 V) _ zp V<|wx zj (aA 2 V) zp V<|oM 1 V<|.nl)<|?_
  have hrk:=hR _ (qb l.l k za)
  have hnk:=aJ _ hrk
  refine gL<|zn (qw 0 G5 V V<|oM 1 V<|.nl)<|gO [1,0,2] V<|gM 1 V (λ_ _ h_=>gQ h_ zeq V (Nv _ (⟨vb,bl⟩:Ls UInt8) (nth l.l k) _ (mY 1 h_ V) hrk (by show bl.length<=_;omega))) V<|?_
  rintro _ _ tx ⟨PB,rfl,zkm,Fe⟩
  refine oQ Fe V<|gU<|?_;clear Fe
  have BF:=zkm;try dsimp only at BF
  refine xb (λ_ _ h_=>qF (n:=1) (cs:= [.int .u8 32]) ([32]:List UInt8) h_ W5 HE V V V zf V zb V (λq hq w h=>Flat.inner _ _) (λq hq b hb=>(Flat.on _ _ hb).elim) V V) V λv24=>xb (λ_ _ h_=>yu (r:=1) (rm:=0) (s:=PB) (m:=(⟨v24,[32]⟩:Ls UInt8)) h_ W5 HE V V V V V V V (λw h=>(h.own 0 V)) (λb hb=>qt (h_.sh.ok _ (zy (i:=0) V)) hb) (λq hq b hb=>⟨q,hq,hb⟩) V V V inferInstance (show (PB.l.length+([32]).length)*1<=140737488355328/\PB.l.length+([32]).length<=140737488355328 from (by first|omega|(simp only [yY,xY];omega)|(rw [BF,yX,gj];simp only [yY,xY];omega))) V V) V λv25=>dY 2 G5 V (aO 1 V) V<|nK Va<|gL<|zn (yl _ 1 zp V<|oM 1 V<|.nl)<|nN<|λMW MG Ko=>zH ⟨_,?_,(k+1),PB.l++([32]),v25,?_,?_,?_,Ko.wN ⟨V,V,V,V,trivial⟩ [2,1,3] V,V⟩
  · rw [Ie];first|omega|(simp only [qf];omega)
  · omega
  · exact CR za O2 zc
  · (rw [yX,BF,yX,gj];simp only [yY,xY];omega)
 refine gX<|hK kz<|gL<|zn (qw 0 G5 V V<|.nl)<|xb (λ_ _ h_=>qF (n:=1) (cs:= [.int .u8 59]) ([59]:List UInt8) h_ W5 HE V V V zf V zb V (λq hq w h=>Flat.inner _ _) (λq hq b hb=>(Flat.on _ _ hb).elim) V V) V λv28=>xb (λ_ _ h_=>yu (r:=2) (rm:=0) (s:=(⟨vb,bl⟩:Ls UInt8)) (m:=(⟨v28,[59]⟩:Ls UInt8)) h_ W5 HE V V V V V V V (λw h=>(h.own 0 V)) (λb hb=>qt (h_.sh.ok _ (zy (i:=0) V)) hb) (λq hq b hb=>⟨q,hq,hb⟩) V V V inferInstance (show (bl.length+([59]).length)*1<=140737488355328/\bl.length+([59]).length<=140737488355328 from (by first|omega|(simp only [yY,xY];omega)|(rw [BF,yX,gj];simp only [yY,xY];omega))) V V) V λpY=>dY 1 G5 V (aO 2 V) V<|nN<|λa31 dM ZW=>?_
 try simp only [Exit.then,Exit.inBlock,if_true]
 refine qj (fn:=Tryz.f141) V ZW<|⟨V,⟨pY,bl++([59])⟩,NA za O2,(ZW.sh.zY [1,2,3] V)⟩
theorem fv (K:Nat->Prop)(gb:Nat)(bs:Ls UInt8)(g0:Nat)(words owner:Ls Int)(W:World)(hS:Sh K W W [.zM gb 204 [bs.v],.own 5 bs,.zx g0 182 [words.v,owner.v],.at_ words,.at_ owner])(ZU:words.l.length<=64)(Vr:owner.l.length<=4)(hRw:vB words.l)(hRo:vB owner.l)(aY:bs.l.length<=5000000000000):
    zP Tryz.prog 206 [.pointer (some ⟨g0,0,none⟩),.func (.func 141) #[] #[.pointer (some ⟨gb,0,none⟩)]] W (λv w' =>v= .tuple #[]/\∃JN:Ls UInt8,JN.l=bs.l++ZC ([words.l,owner.l].flatMap vG)/\JN.l.length<=bs.l.length+5000/\Sh K W w' [.zM gb 204 [JN.v],.own 5 JN,.zx g0 182 [words.v,owner.v],.at_ words,.at_ owner]):=by
 refine gen Tryz.func206 Tryz.ntmps206 hS V λjP z7=>gG z7<|sK λ_ kz=>zn (oM 2 V<|jA kW V<|w7 2 zV V V<|.nl)<|gO [0,1,3,2,4] V<|λa17 By jk=>?_;clear z7
 have Ds:=jk.sh.yT (Lp:= [_,_,_])
 refine zL (zD jk VD V V V V V (Vf _ gb bs words _ Ds zc (by show bs.l.length+66*words.l.length<=9000000000000;first|omega|(simp only [yY,xY];omega)))) (zg V _) ?_
 rintro HS Hx ⟨_,⟨rfl,PC,T7,HK⟩,DF⟩
 have TT:=congrArg List.length T7;rw [yX,gj] at TT;have T1:=Qi (l:=words.l) zc
 try dsimp only at TT T1
 try simp only [yY,xY] at T1
 change Sh _ _ _ [.zM gb 204 [PC.v],.own 5 PC,.at_ words] at HK
 have jc:St _ K W HS Hx _ [_,_,_,_,_]:=⟨DF,jk.sh.VF (Lp:= [_,_,_]) HK⟩
 clear DF HK
 clear jk
 refine gG jc<|nK kz<|gL<|zn (oM 2 V<|jA Zp V<|w7 3 zV V V<|.nl)<|gO [0,1,4,2,3] V<|λa24 dN wJ=>?_;clear jc
 have Dq:=wJ.sh.yT (Lp:= [_,_,_])
 refine zL (zD wJ VD V V V V V (Vf _ gb PC owner _ Dq zc (by show PC.l.length+66*owner.l.length<=9000000000000;first|omega|(simp only [yY,xY];omega)))) (zg V _) ?_
 rintro a25 tw ⟨_,⟨rfl,Aj,T6,HJ⟩,DD⟩
 have TR:=congrArg List.length T6;rw [yX,gj] at TR;have T0:=Qi (l:=owner.l) zc
 try dsimp only at TR T0
 try simp only [yY,xY] at T0
 change Sh _ _ _ [.zM gb 204 [Aj.v],.own 5 Aj,.at_ owner] at HJ
 have Wu:St _ K W a25 tw _ [_,_,_,_,_]:=⟨DD,wJ.sh.VF (Lp:= [_,_,_]) HJ⟩
 clear DD HJ
 clear wJ
 refine gG Wu<|nN<|λa26 lX Y0=>?_;clear Wu
 try simp only [Exit.then,Exit.inBlock,if_true]
 refine qj (fn:=Tryz.f206) V Y0<|⟨V,⟨Aj.v,Aj.l⟩,?_,?_,(Y0.sh.zY [0,1,4,3,2] V)⟩
 ·show Aj.l=_
  rw [T6,T7];simp only [kF,JR,Qd,k6,xi]
 ·show Aj.l.length<=_
  omega
theorem Cm (K:Nat->Prop)(gb:Nat)(bs:Ls UInt8)(g1 g0:Nat)(words owner:Ls Int)(wait:Ls (Ls Wt))(W:World)(hS:Sh K W W [.zM gb 204 [bs.v],.own 5 bs,.zx g0 182 [words.v,owner.v],.at_ words,.at_ owner,.zx g1 185 [.pointer (some ⟨g0,0,none⟩),wait.v],.at_ wait])(ZU:words.l.length<=64)(Vr:owner.l.length<=4)(hRw:vB words.l)(hRo:vB owner.l)(aY:bs.l.length<=4000000000000)(hwc:wait.l.length<=4)(BU:∀t,t<wait.l.length->(nth wait.l t).l.length<=3)(hRq:∀t,t<wait.l.length->Mw (nth wait.l t).l):
    zP Tryz.prog 215 [.pointer (some ⟨g1,0,none⟩),.func (.func 141) #[] #[.pointer (some ⟨gb,0,none⟩)]] W (λv w' =>v= .tuple #[]/\∃JN:Ls UInt8,JN.l=bs.l++ZC (([words.l,owner.l]++Nk (wait.l.map (·.l))).flatMap vG)/\JN.l.length<=bs.l.length+9000/\Sh K W w' [.zM gb 204 [JN.v],.own 5 JN,.zx g0 182 [words.v,owner.v],.at_ words,.at_ owner,.zx g1 185 [.pointer (some ⟨g0,0,none⟩),wait.v],.at_ wait]):=by
 refine gen Tryz.func215 Tryz.ntmps215 hS V λjP z7=>gG z7<|sK λ_ kz=>zn (oM 1 V<|jA YC V<|w7 5 W4 V V<|oM 1 V<|.nl)<|gM 5 V (λ_ _ h_=>gQ h_ L5 V (fv _ gb bs g0 words owner _ (mY 5 h_ V) ZU Vr hRw hRo za)) V<|?_;clear z7
 rintro _ _ A0 ⟨rfl,PD,zkq,zup,Fh⟩
 refine oQ Fh V<|gU<|nK kz<|sK λ_ Xp=>y4 (aA 6 V) λB3=>zn (oM 1 V<|jA yE V<|w7 5 jf V V<|wk j7 (aA 6 V) V<|oM 1 V<|.nl)<|nK Xp<|gB<|λa17 By jk=>?_;clear Fh
 refine qE (λm a w=>∃(t:Nat) (bl:List UInt8) (vb:Value),(t<=wait.l.length)/\(bl=PD.l++ZC ((Nk ((wait.l.take t).map (·.l))).flatMap vG))/\(bl.length<=PD.l.length+700*t)/\St 44 K W a w [(1,.func (.func 141) #[] #[.pointer (some ⟨gb,0,none⟩)]),(18,wait.v),(19,.int .i64 ((wait.l.length:Nat):Int)),(20,.int .i64 ((t:Nat):Int))] [.zM gb 204 [vb],.own 5 (⟨vb,bl⟩:Ls UInt8),.zx g0 182 [words.v,owner.v],.at_ words,.at_ owner,.zx g1 185 [.pointer (some ⟨g0,0,none⟩),wait.v],.at_ wait]/\m=wait.l.length-t) ⟨_,0,PD.l,PD.v,za,(by simp [Nk,ZC]),za,jk.nf ⟨V,V,V,V,trivial⟩,V⟩ ?_
 clear jk
 rintro m16 BK Hy ⟨t,bl,vb,ht,hbo,hbq,w9,HM⟩
 refine gG w9<|sG (xk _ _ V<|.nl)<|gK λ_ Va=>gcd V (λwQ Ki=>?_) λwQ Ki=>?_;clear w9
 ·skip
  refine gS<|hK Va<|gK λ_ cH=>gB<|sG (jo j7 yM (aA 6 V) _ zp V<|Z1 ((nth wait.l t).v) yM (aA 6 V) zp V<|oM 1 V<|.nl)<|gK λ_ V6=>sK λ_ Ke=>y4 (λw h=>((h.at 6 V).nth t (show t<wait.l.length from za))) λ(zc5:((nth wait.l t).l).length<=140737488355328)=>zn (oM 1 V<|wk (n:=((nth wait.l t).l).length) jz (λw h=>((h.at 6 V).nth t (show t<wait.l.length from za))) V<|oM 1 V<|.nl)<|nK Ke<|gB<|?_
  have hq3:=BU t za
  intro MW MG Ko
  refine qE (λm a w=>∃(k:Nat) (MU:List UInt8) (vb2:Value),(k<=(nth wait.l t).l.length)/\(MU=bl++ZC ((((nth wait.l t).l.take k).map Bw).flatMap vG))/\(MU.length<=bl.length+200*k)/\St 44 K W a w [(1,.func (.func 141) #[] #[.pointer (some ⟨gb,0,none⟩)]),(18,wait.v),(19,.int .i64 ((wait.l.length:Nat):Int)),(20,.int .i64 ((t:Nat):Int)),(24,(nth wait.l t).v),(25,.int .i64 ((((nth wait.l t).l).length:Nat):Int)),(26,.int .i64 ((k:Nat):Int))] [.zM gb 204 [vb2],.own 5 (⟨vb2,MU⟩:Ls UInt8),.zx g0 182 [words.v,owner.v],.at_ words,.at_ owner,.zx g1 185 [.pointer (some ⟨g0,0,none⟩),wait.v],.at_ wait]/\m=(nth wait.l t).l.length-k) ⟨_,0,bl,vb,za,(by simp [ZC]),za,Ko.nf ⟨V,V,V,V,V,V,V,trivial⟩,V⟩ ?_
  clear Ko
  rintro m26 a26 lX ⟨k,MU,vb2,hk,uP,hbj,Y0,zi6⟩
  refine gG Y0<|sG (xk _ _ V<|.nl)<|gK λ_ k29=>gcd V (λll n9=>?_) λll n9=>?_;clear Y0
  ·skip
   refine gS<|hK k29<|gK λ_ lY=>gB<|sK λ_ sb=>zn (jo jz xZ (λw h=>((h.at 6 V).nth t (show t<wait.l.length from za))) _ zp V<|Xz [.bool ((nth ((nth wait.l t).l) k).lock),.int .i64 ((nth ((nth wait.l t).l) k).wh),.int .i64 ((nth ((nth wait.l t).l) k).qk)] xZ (λw h=>((h.at 6 V).nth t (show t<wait.l.length from za))) zp V<|.nl)<|Q2 xZ V λb33=>YK 0 xZ V V V<|nK sb<|sG (oM 1 V<|.nl)<|?_
   have hxr:=hRq t za _ (qb (nth wait.l t).l k za)
   refine gK λ_ ia=>sG (qB DS V<|qw 0 w5 V V<|.nl)<|Xl V (λzsj=>?_) λzsj=>?_
   ·skip
    refine gL<|zn (oM 1 V<|.nl)<|nK ia<|gL<|zn (oM 2 V<|qB Vv V<|qw 0 zj V V<|qB DR V<|qw 0 zj V V<|.nl)<|xb (λ_ _ h_=>qF (n:=3) (cs:= [.int .i64 1,.int .i64 ((nth ((nth wait.l t).l) k).wh),.int .i64 ((nth ((nth wait.l t).l) k).qk)]) ([1,(nth ((nth wait.l t).l) k).wh,(nth ((nth wait.l t).l) k).qk]:List Int) h_ zt zj V V V zf V zb V (λq hq w h=>Flat.inner _ _) (λq hq b hb=>(Flat.on _ _ hb).elim) V V) V λv39=>λa41 w41 sF=>?_
    have YO:St _ _ _ _ _ _ _:=⟨sF.fr,sF.sh.share 0 V⟩
    clear sF
    have WM:=YO.zY (L' := [_,_,_,_,_,_,_,_,_]) [2,3,0,1,4,5,6,7,8] V
    have n4:=WM.sh.yT (Lp:= [_,_,_])
    refine zL (zD WM VD V V V V V (Vf _ gb (⟨vb2,MU⟩:Ls UInt8) (⟨v39,[1,(nth ((nth wait.l t).l) k).wh,(nth ((nth wait.l t).l) k).qk]⟩:Ls Int) _ n4 (vB.row hxr (by unfold gy;omega)) (by show MU.length+66*([1,(nth ((nth wait.l t).l) k).wh,(nth ((nth wait.l t).l) k).qk]).length<=9000000000000;first|omega|(simp only [yY,xY];omega)))) (zg V _) ?_
    rintro a44 tu ⟨_,⟨rfl,Py,zkk,Kh⟩,DB⟩
    have TO:=congrArg List.length zkk;rw [yX,gj] at TO;have TX:=Qi (l:= [1,(nth ((nth wait.l t).l) k).wh,(nth ((nth wait.l t).l) k).qk]) (vB.row hxr (by unfold gy;omega))
    try dsimp only at TO TX
    try simp only [yY,xY] at TX
    change Sh _ _ _ [.zM gb 204 [Py.v],.own 5 Py,.at_ (⟨v39,[1,(nth ((nth wait.l t).l) k).wh,(nth ((nth wait.l t).l) k).qk]⟩:Ls Int)] at Kh
    have Rj:St _ K W a44 tu _ [_,_,_,_,_,_,_,_,_]:=⟨DB,WM.sh.VF (Lp:= [_,_,_]) Kh⟩
    clear DB Kh
    clear WM
    refine gG Rj<|nK lY<|gL<|zn (yl _ 1 zp V<|oM 1 V<|.nl)<|nN<|λa45 w45 dV=>zH ⟨_,?_,(k+1),Py.l,Py.v,?_,?_,?_,dV.wN ⟨V,V,V,V,V,V,V,trivial⟩ [0,1,4,5,6,7,8] V,V⟩;clear Rj
    · rw [zi6];first|omega|(simp only [qf];omega)
    · omega
    · exact eP za uP zc (by unfold Bw;first|rw [if_pos zc]|rw [if_neg (by simp [*])])
    · first|omega|(simp only [yY,xY] at*;omega)
   refine gS<|hK ia<|gL<|zn (oM 2 V<|qB Vv V<|qw 0 zj V V<|qB DR V<|qw 0 zj V V<|.nl)<|xb (λ_ _ h_=>qF (n:=3) (cs:= [.int .i64 0,.int .i64 ((nth ((nth wait.l t).l) k).wh),.int .i64 ((nth ((nth wait.l t).l) k).qk)]) ([0,(nth ((nth wait.l t).l) k).wh,(nth ((nth wait.l t).l) k).qk]:List Int) h_ zt zj V V V zf V zb V (λq hq w h=>Flat.inner _ _) (λq hq b hb=>(Flat.on _ _ hb).elim) V V) V λv46=>λAo tt Yy=>?_
   have Ws:St _ _ _ _ _ _ _:=⟨Yy.fr,Yy.sh.share 0 V⟩
   clear Yy
   have U7:=Ws.zY (L' := [_,_,_,_,_,_,_,_,_]) [2,3,0,1,4,5,6,7,8] V
   have cT:=U7.sh.yT (Lp:= [_,_,_])
   refine zL (zD U7 VD V V V V V (Vf _ gb (⟨vb2,MU⟩:Ls UInt8) (⟨v46,[0,(nth ((nth wait.l t).l) k).wh,(nth ((nth wait.l t).l) k).qk]⟩:Ls Int) _ cT (vB.row hxr (by unfold gy;omega)) (by show MU.length+66*([0,(nth ((nth wait.l t).l) k).wh,(nth ((nth wait.l t).l) k).qk]).length<=9000000000000;first|omega|(simp only [yY,xY];omega)))) (zg V _) ?_
   rintro a51 MC ⟨_,⟨rfl,Px,zki,zce⟩,zjQ⟩
   have TN:=congrArg List.length zki;rw [yX,gj] at TN;have TW:=Qi (l:= [0,(nth ((nth wait.l t).l) k).wh,(nth ((nth wait.l t).l) k).qk]) (vB.row hxr (by unfold gy;omega))
   try dsimp only at TN TW
   try simp only [yY,xY] at TW
   change Sh _ _ _ [.zM gb 204 [Px.v],.own 5 Px,.at_ (⟨v46,[0,(nth ((nth wait.l t).l) k).wh,(nth ((nth wait.l t).l) k).qk]⟩:Ls Int)] at zce
   have YZ:St _ K W a51 MC _ [_,_,_,_,_,_,_,_,_]:=⟨zjQ,U7.sh.VF (Lp:= [_,_,_]) zce⟩
   clear zjQ zce
   clear U7
   refine gG YZ<|nK lY<|gL<|zn (yl _ 1 zp V<|oM 1 V<|.nl)<|nN<|λMV MB G0=>zH ⟨_,?_,(k+1),Px.l,Px.v,?_,?_,?_,G0.wN ⟨V,V,V,V,V,V,V,trivial⟩ [0,1,4,5,6,7,8] V,V⟩;clear YZ
   · rw [zi6];first|omega|(simp only [qf];omega)
   · omega
   · exact eP za uP zc (by unfold Bw;first|rw [if_pos zc]|rw [if_neg (by simp [*])])
   · first|omega|(simp only [yY,xY] at*;omega)
  refine gX<|hK V6<|gL<|zn (oM 1 V<|.nl)<|λa55 P6 GZ=>?_
  have DL:=GZ.nil (α:=Int) 3
  clear GZ
  have KE:St _ _ _ _ _ _ _:=⟨DL.fr,DL.sh.share 0 V⟩
  clear DL
  have DK:=KE.zY (L' := [_,_,_,_,_,_,_,_]) [1,2,0,3,4,5,6,7] V
  have FB:=DK.sh.yT (Lp:= [_,_,_])
  refine zL (zD DK VD V V V V V (Vf _ gb (⟨vb2,MU⟩:Ls UInt8) (⟨.slice none 0 0,[]⟩:Ls Int) _ FB vB.nil (by show MU.length+66*([]).length<=9000000000000;first|omega|(simp only [yY,xY];omega)))) (zg V _) ?_
  rintro a59 w59 ⟨_,⟨rfl,Pw,zkh,zcd⟩,zjM⟩
  have TL:=congrArg List.length zkh;rw [yX,gj] at TL;have TU:=Qi (l:= []) vB.nil
  try dsimp only at TL TU
  try simp only [yY,xY] at TU
  change Sh _ _ _ [.zM gb 204 [Pw.v],.own 5 Pw,.at_ (⟨.slice none 0 0,[]⟩:Ls Int)] at zcd
  have Rh:St _ K W a59 w59 _ [_,_,_,_,_,_,_,_]:=⟨zjM,DK.sh.VF (Lp:= [_,_,_]) zcd⟩
  clear zjM zcd
  clear DK
  refine gG Rh<|nK cH<|gL<|zn (yl _ 1 zp V<|oM 1 V<|.nl)<|nN<|λa60 w60 HQ=>zH ⟨_,?_,(t+1),Pw.l,Pw.v,?_,?_,?_,HQ.wN ⟨V,V,V,V,trivial⟩ [0,1,3,4,5,6,7] V,V⟩;clear Rh
  · rw [HM];first|omega|(simp only [qf];omega)
  · omega
  · exact No za za hbo uP zc
  · first|omega|(simp only [xY] at*;omega)
 refine gX<|λa61 P4 me=>?_
 try simp only [Exit.then,Exit.inBlock,if_true]
 refine qj (fn:=Tryz.f215) V me<|⟨V,⟨vb,bl⟩,?_,?_,me.sh⟩
 ·show bl=_
  rw [hbo,show t=wait.l.length from za,Y9,zkq,XR,Qd,xi]
 ·show bl.length<=_
  omega
theorem CY (g0:Nat)(words owner:Ls Int)(W:World)(hB:xB W g0 182 #[words.v,owner.v])(hw:words.At W)(ho:owner.At W)(ZU:words.l.length<=64)(Vr:owner.l.length<=4):
    zP Tryz.prog 198 [.pointer (some ⟨g0,0,none⟩)] W (λv w' =>∃(g:Nat) (zB zA:Ls Int),v= .iface 123 (.pointer (some ⟨g,0,none⟩))/\zB.l=words.l/\zA.l=owner.l/\qM W w' [.zM g 182 [zB.v,zA.v],.own 3 zB,.own 3 zA]):=by
 refine gen Tryz.func198 Tryz.ntmps198 (qM.ext (by intro A hA;simp only [z6,qd,or_false] at hA;rcases hA with rfl|rfl|rfl;exact hB;exact hw;exact ho) (by intro A hA b hb;simp only [z6,qd,or_false] at hA;rcases hA with rfl|rfl|rfl<;>exact hb):Sh (λ_=>False) W W [.zx g0 182 [words.v,owner.v],.at_ words,.at_ owner]) V λjP z7=>gG z7<|sG (oM 1 V<|.nl)<|gK λ_ j1=>gF [0] V<|rC [4,9,11] V<|pR [0,1,2,3,5,6,7,8] V (oM 1 V<|jA kW V<|w7 0 zV V V<|oM 1 V<|jA Zp V<|w7 0 zV V V<|.nl) V<|pC (λ_ _ h_=>gQ h_ Hk V (Qv words _ (h_.sh.at 1 V) (by first|omega|(simp only [qf];omega)))) V<|?_;clear z7
 rintro _ _ A0 ⟨s13,rfl,Fh⟩
 refine pWk Fh V<|pR [5,6,7,8] V (oM 1 V<|jA Zp V<|w7 1 zV V V<|.nl) V<|pC (λ_ _ h_=>gQ h_ Hk V (Qv owner _ (h_.sh.at 3 V) (by first|omega|(simp only [qf];omega)))) V<|?_;clear Fh
 rintro _ _ BN ⟨Wi,rfl,Gg⟩
 refine pWk Gg V<|pR [10] V (oV (xW (cs:= [s13.v,Wi.v]) V V (λw h=>by obtain ⟨A16,n16,c16,(He:Wi.v=_)⟩:=((h.own 0 V)).form;rw [He];obtain ⟨A15,n15,c15,(GH:s13.v=_)⟩:=((h.own 1 V)).form;rw [GH];kernel_rfl)) V<|.nl) V<|pX (λ_ _ h_=>ai (cs:= [s13.v,Wi.v]) h_ V V V V V) V λb17=>pE [12,13] V (oV (Rn.same (H3 (T:=123) Tryz.underlying123 V V) V) V<|oM 1 V<|.nl) V<|hK j1<|gR<|λHS Hx jc=>?_;clear Gg
 refine zu (fn:=Tryz.f198) (t:=2) V jc V ?_
 exact ⟨b17,⟨s13.v,words.l⟩,⟨Wi.v,owner.l⟩,V,V,V,(jc.sh.zY [0,2,1] V)⟩
theorem Ck (g1 g0:Nat)(words owner:Ls Int)(wait:Ls (Ls Wt))(W:World)(hB:xB W g1 185 #[.pointer (some ⟨g0,0,none⟩),wait.v])(hq:wait.At W)(hM:xB W g0 182 #[words.v,owner.v])(hw:words.At W)(ho:owner.At W)(ZU:words.l.length<=64)(Vr:owner.l.length<=4)(hwc:wait.l.length<=4)(BU:∀t,t<wait.l.length->(nth wait.l t).l.length<=3):
    zP Tryz.prog 217 [.pointer (some ⟨g1,0,none⟩)] W (λv w' =>∃(gt g:Nat) (zB zA:Ls Int) (q:Ls (Ls Wt)),v= .pointer (some ⟨gt,0,none⟩)/\zB.l=words.l/\zA.l=owner.l/\(wO gt g).qs q=wait.l.map (·.l)/\qM W w' (km 182 3 (wO gt g) zB zA q)):=by
 refine gen Tryz.func217 Tryz.ntmps217 (qM.ext (by intro A hA;simp only [z6,qd,or_false] at hA;rcases hA with rfl|rfl|rfl|rfl|rfl;exact hB;exact hq;exact hM;exact hw;exact ho) (by intro A hA b hb;simp only [z6,qd,or_false] at hA;rcases hA with rfl|rfl|rfl|rfl|rfl<;>exact hb):Sh (λ_=>False) W W [.zx g1 185 [.pointer (some ⟨g0,0,none⟩),wait.v],.at_ wait,.zx g0 182 [words.v,owner.v],.at_ words,.at_ owner]) V λjP z7=>gG z7<|sG (oM 1 V<|.nl)<|sK λ_ j1=>zn (oM 1 V<|jA YC V<|w7 0 W4 V V<|jA kW V<|w7 2 zV V V<|oV (xW (cs:= [(.slice none 0 0),words.v,.int .i64 0,.int .i64 0]) V V (λw h=>by obtain ⟨A13,n13,c13,(XX:words.v=_)⟩:=((h.at 3 V)).form;rw [XX];kernel_rfl)) V<|.nl)<|gC (λ_ _ h_=>gQ h_ ta V (cu words 0 (.slice none 0 0) 0 _ (h_.sh.at 3 V) za za)) V<|?_;clear z7
 rintro _ _ BN ⟨g14,Ed,zoB,rfl,ziN,ztX,Gg⟩
 refine dZ Gg V<|λee xd=>?_;clear Gg
 refine gG xd<|zn (oV (q8 (cs:= [.pointer (some ⟨g14,0,none⟩),(.slice none 0 0)]) V V zb) V<|.nl)<|XV V V λAJ=>zn (oM 1 V<|.nl)<|nK j1<|gK λ_ nC=>rC [11,14] V<|pR [0,1,2,3,4,5,6,7,8,9,10] V (oM 1 V<|yb 0 YC W4 V V<|oM 1 V<|jA YC V<|w7 4 W4 V V<|jA Zp V<|w7 6 zV V V<|.nl) V<|pC (λ_ _ h_=>gQ h_ Hk V (Qv owner _ (h_.sh.at 8 V) (by first|omega|(simp only [qf];omega)))) V<|?_;clear xd
 rintro _ _ By ⟨s17,rfl,Ff⟩
 refine pWk Ff V<|pR [0,1,2,3,12,13] V (oM 1 V<|yb 1 YC W4 V V<|jA Zp V<|.nl) V<|pS (λ_ _ h_=>j3 (i:=2) (vs:= [s17.v]) (YR:= [Ed.v,s17.v]) h_ zV V V V V V (y7 ((h_.sh.own 0 V)).one) V (zr ((h_.sh.own 0 V)).one qx) (y5 V) V) V<|pE [] V (.nl) V<|hK nC<|gF [0,3] V<|gK λ_ Va=>sK λ_ K7=>y4 (aA 6 V) λzrn=>zn (oM 1 V<|jA yE V<|w7 5 jf V V<|wk j7 (aA 6 V) V<|oM 1 V<|.nl)<|nK K7<|gB<|λa24 dN wJ=>?_;clear Ff
 have kq:St _ _ _ _ _ _ _:=⟨wJ.fr,Sh.zbr (α:=Wt) (IE:=266) (E:=267) wJ.sh⟩
 clear wJ
 refine qE (λm a w=>∃(t:Nat) (M:List (Ls Wt)) (vm:Value),(t<=wait.l.length)/\(M.map (·.l)=(wait.l.take t).map (·.l))/\(M.length=t)/\St 53 (λ_=>False) W a w [(3,.pointer (some ⟨AJ,0,none⟩)),(34,wait.v),(35,.int .i64 ((wait.l.length:Nat):Int)),(36,.int .i64 ((t:Nat):Int))] [.own 3 (⟨s17.v,owner.l⟩:Ls Int),.zM AJ 185 [.pointer (some ⟨g14,0,none⟩),vm],.zM g14 182 [Ed.v,s17.v],.own 3 Ed,.own 3 zoB,.zx g1 185 [.pointer (some ⟨g0,0,none⟩),wait.v],.at_ wait,.zx g0 182 [words.v,owner.v],.at_ words,.at_ owner,.x5 (jU (.own 266) 267 vm M)]/\m=wait.l.length-t) ⟨_,0,[],(.slice none 0 0),za,(V),(V),kq.wN ⟨V,V,V,V,trivial⟩ [1,2,3,4,5,6,7,8,9,10,0] V,V⟩ ?_
 clear kq
 rintro m22 a22 eI ⟨t,M,vm,ht,hM9,hMn,V8,zq6⟩
 refine gG V8<|sG (xk _ _ V<|.nl)<|gK λ_ De=>gcd V (λdb FH=>?_) λdb FH=>?_;clear V8
 ·skip
  refine gS<|hK De<|gK λ_ K6=>gB<|sG (jo j7 yM (aA 6 V) _ zp V<|Z1 ((nth wait.l t).v) yM (aA 6 V) zp V<|oM 1 V<|.nl)<|rC [6,7,8,11] V<|pR [0,1,2,3,4,5] V (oM 2 V<|yb 1 yE jf V V<|oM 1 V<|.nl) V<|pC (λ_ _ h_=>gQ h_ L3 V (lJ (nth wait.l t) _ ((h_.sh.at 6 V).nth t (show t<wait.l.length from za)) (by have:=BU t za;omega))) V<|?_
  rintro _ _ ak ⟨s30,rfl,Yt⟩
  refine pWk Yt V<|pR [0,1,2,3,4] V (oM 2 V<|yb 2 yE jf V V<|.nl) V<|pX (λ_ _ h_=>qF (n:=1) (cs:= [s30.v]) ([⟨s30.v⟩]:List RV) h_ j7 yM V V V zf V (by obtain ⟨A31,n31,c31,(e31:s30.v=_)⟩:=((h_.sh.own 0 V)).form;rw [e31];kernel_rfl) V (λ_ _ _ _=>trivial) (λq hq b hb=>(Flat.on _ _ hb).elim) V V) V λv32=>pR [0,1,2,3,4] V (oM 2 V<|yb 3 yE jf V V<|.nl) V<|pO [12,1,0,2,3,4,5,6,7,8,9,10,11] V<|pX (λ_ _ h_=>AT h_ j7 yM V V V V V (show (M.length+1)*24<=140737488355328/\M.length+1<=140737488355328 from zp) V V) V λv34=>pR [0,9,10] V (oM 1 V<|jA yE V<|.nl) V<|pS (λ_ _ h_=>j3 (i:=2) (vs:= [v34]) (YR:= [.pointer (some ⟨g14,0,none⟩),v34]) h_ jf V V V V V (y7 ((h_.sh.QL 0 V)).one) V (zr ((h_.sh.QL 0 V)).one qx) (y5 V) V) V<|pE [] V (.nl) V<|hK K6<|gL<|zn (yl _ 1 zp V<|oM 1 V<|.nl)<|nN<|λpy lV QJ=>?_;clear Yt
  refine zH ⟨_,?_,(t+1),M++ [(⟨s30.v,(nth wait.l t).l⟩:Ls Wt)],v34,?_,?_,?_,QJ.wN ⟨V,V,V,V,trivial⟩ [1,2,3,4,5,6,7,8,9,10,0] V,V⟩
  · rw [zq6];first|omega|(simp only [qf];omega)
  · omega
  · rw [zS _ _ za,yi,yi,hM9];rfl
  · (rw [yX];simp only [yY,xY];omega)
 refine gX<|hK Va<|sG (oM 2 V<|.nl)<|gR<|λa38 w38 dW=>zu (fn:=Tryz.f217) (t:=2) V dW V ?_
 exact ⟨AJ,g14,⟨Ed.v,Ed.l⟩,⟨s17.v,owner.l⟩,⟨vm,M⟩,V,ziN,V,(by show M.map (·.l)=wait.l.map (·.l);rw [hM9,show t=wait.l.length from za,Y9]),Yn (q:=⟨vm,M⟩) (dW.sh.zY [1,10,2,3,0] V)⟩
theorem CV (g2 g1 g0:Nat)(words owner:Ls Int)(wait:Ls (Ls Wt))(W:World)(hL:xB W g2 159 #[.pointer (some ⟨g1,0,none⟩)])(hB:xB W g1 185 #[.pointer (some ⟨g0,0,none⟩),wait.v])(hq:wait.At W)(hM:xB W g0 182 #[words.v,owner.v])(hw:words.At W)(ho:owner.At W)(ZU:words.l.length<=64)(Vr:owner.l.length<=4)(hwc:wait.l.length<=4)(BU:∀t,t<wait.l.length->(nth wait.l t).l.length<=3):
    zP Tryz.prog 222 [.pointer (some ⟨g2,0,none⟩)] W (λv w' =>∃(gl gt g:Nat) (zB zA:Ls Int) (q:Ls (Ls Wt)),v= .iface 157 (.pointer (some ⟨gl,0,none⟩))/\zB.l=words.l/\zA.l=owner.l/\(ky gl gt g).qs q=wait.l.map (·.l)/\qM W w' (km 182 3 (ky gl gt g) zB zA q)):=by
 refine gen Tryz.func222 Tryz.ntmps222 (qM.ext (by intro A hA;simp only [z6,qd,or_false] at hA;rcases hA with rfl|rfl|rfl|rfl|rfl|rfl;exact hL;exact hB;exact hq;exact hM;exact hw;exact ho) (by intro A hA b hb;simp only [z6,qd,or_false] at hA;rcases hA with rfl|rfl|rfl|rfl|rfl|rfl<;>exact hb):Sh (λ_=>False) W W [.zx g2 159 [.pointer (some ⟨g1,0,none⟩)],.zx g1 185 [.pointer (some ⟨g0,0,none⟩),wait.v],.at_ wait,.zx g0 182 [words.v,owner.v],.at_ words,.at_ owner]) V λjP z7=>gG z7<|sG (oM 1 V<|.nl)<|sK λ_ j1=>zn (oM 1 V<|jA DT V<|w7 0 mH V V<|.nl)<|λee BN xd=>zL (zD xd zd5 V V V V V (Ck g1 g0 words owner wait _ (xd.sh.zx 1 V) (xd.sh.at 2 V) (xd.sh.zx 3 V) (xd.sh.at 4 V) (xd.sh.at 5 V) ZU Vr hwc BU)) (zg V _) ?_;clear z7
 rintro HT Hz ⟨_,⟨zlo,g15,zos,zoA,q15,rfl,ziM,ziW,zp1,Gf⟩,Gm⟩
 have xr:=(⟨Gm,xd.sh.call Gf (by intro A hA b hb;simp only [km,z6,qd,or_false] at hA;first|(subst hA;exact Flat.qh hb)|(rcases hA with rfl|rfl|rfl|rfl<;>first|exact (hb:False).elim|exact Flat.qh hb|exact (Z3 hb).elim))⟩:St 11 (λ_=>False) W HT Hz _ _)
 clear Gm Gf
 clear xd
 refine gG xr<|zn (oV (q8 (cs:= [.pointer (some ⟨zlo,0,none⟩)]) V V zb) V<|.nl)<|XV V V λb16=>zn (oV (Rn.same (H3 (T:=157) Tryz.underlying157 V V) V) V<|oM 1 V<|.nl)<|nK j1<|gR<|λa17 By jk=>zu (fn:=Tryz.f222) (t:=2) V jk V ?_;clear xr
 exact ⟨b16,zlo,g15,zos,zoA,q15,V,ziM,ziW,zp1,ZS (jk.sh.zY [1,2,3,4,0] V)⟩
theorem N7 {IE E:TypeId}{v:Value}{M:List (Ls Wt)}{w:World}{b:Nat}(h:(zZ.x5 (jU (.own IE) E v M)).ok w)(hb:(⟨v,M⟩:Ls (Ls Wt)).on b):(zZ.x5 (jU (.own IE) E v M)).fp b:=by
 rcases hb with ⟨h0,hb⟩|⟨i,hi,hb⟩
 ·refine ⟨_,xx ..,?_⟩
  have h1:(⟨v,Yc M⟩:Ls RV).on b:= .inl ⟨by show 0<(Yc M).length;rw [xG];exact h0,hb⟩
  exact (qt (h.1 _ (xx ..)) h1).elim id λh9=>Flat.qh h9
 ·have hm:zZ.own IE (nth M i)∈jU (.own IE) E v M:=xe _ (List.mem_map.2 ⟨_,qb _ _ hi,V⟩)
  exact ⟨_,hm,(VU (nth M i) w (h.1 _ hm)).2 b hb⟩
theorem N3 {g1 g0:Nat}{q:Ls (Ls Wt)}{w:World}{b:Nat}(h:((wO g1 g0).X q).ok w)(hb:q.on b):((wO g1 g0).X q).fp b:=
 ⟨_,xe _ (xx ..),N7 (h.1 _ (xe _ (xx ..))) hb⟩
theorem N5 {g2 g1 g0:Nat}{q:Ls (Ls Wt)}{w:World}(h:((ky g2 g1 g0).X q).ok w):((wO g1 g0).X q).ok w:=
 ⟨λA hA=>h.1 A (xe _ hA),(List.pairwise_cons.1 h.2.1).2,λA hA=>h.2.2 A (xe _ hA)⟩
theorem r3 {g2 g1 g0:Nat}{q:Ls (Ls Wt)}{b:Nat}(h:((wO g1 g0).X q).fp b):((ky g2 g1 g0).X q).fp b:=by
 obtain ⟨A,hA,hb⟩:=h
 exact ⟨A,xe _ hA,hb⟩
def FP :gN:=⟨Nat,Kc,123,0,λ_=> [],λq=>∀l∈q,l= [],0,(0:Nat)⟩
def FL :gN:=⟨Nat×Nat×Nat,λi=>ky i.1 i.2.1 i.2.2,157,2,Nk,λ_=>True,(0,0,0),(default:Ls (Ls Wt))⟩
theorem zaw :YH Tryz.prog 182 3 204 5 141 FP where
 ok i:=N4 i
 hT _:=rfl
 hm _:=rfl
 tq:=zaO
 qQ i q l hl:=(List.mem_replicate.1 (show l∈List.replicate q [] from hl)).2
 copy w i words owner q h ZU Vr _ _:=⟨198,⟨i,0,none⟩,zb,zeh,by
  refine zP.mono (CY i words owner w h.zM h.wa h.oa ZU Vr) ?_
  rintro v w' ⟨g',zB,zA,rfl,h1,h2,hs⟩
  exact ⟨g',zB,zA,q,V,h1,h2,V,hs.emp.zY (L' := [.zM g' 182 [zB.v,zA.v],.own 3 zB,.own 3 zA,zZ.emp]) [1,2,3,0] V⟩⟩
 tell K W i words owner q gb bs hS ZU Vr hqc hq3 hRw hRo hRq aY:=⟨206,⟨i,0,none⟩,zb,L5,by
  have h2:Sh K W W ([.zM gb 204 [bs.v],.own 5 bs,.zx i 182 [words.v,owner.v],.at_ words,.at_ owner]++ [.ro [zZ.emp]]):=hS
  refine zP.mono (fv _ gb bs i words owner W h2.yT ZU Vr hRw hRo za) ?_
  rintro v w' ⟨rfl,JN,e,hn,hs⟩
  exact ⟨V,JN,e,za,h2.xP hs (by
   intro C hC b hb
   simp only [z6,qd,or_false] at hC
   rcases hC with rfl|rfl|rfl|rfl|rfl
   ·exact (hb:False).elim
   ·exact Flat.qh hb
   all_goals exact .inl ⟨_,by simp,.inr hb⟩)⟩⟩
theorem Oa {g2 g1 g0:Nat}{q:Ls (Ls Wt)}{w:World}(h:((ky g2 g1 g0).X q).ok w):(loadVar 125 ⟨g2,0,none⟩).run Tryz.prog w= .ok (.pointer (some ⟨g1,0,none⟩)) w:=Zl (h.1 _ (xx ..))
theorem zmd :YH Tryz.prog 182 3 204 5 141 FL where
 ok i:=N6 i.1 i.2.1 i.2.2
 hT _:=rfl
 hm _:=rfl
 tq:=zaN
 qQ _ _:=trivial
 copy w i words owner q h ZU Vr hqc hq3:=⟨222,⟨i.1,0,none⟩,zb,zd3,by
  obtain ⟨hB,hq⟩:=kx h.P9.x
  have zck:q.l.length<=4:=by have h9:(q.l.map (·.l)).length<=4:=hqc;rwa [yw] at h9
  refine zP.mono (CV i.1 i.2.1 i.2.2 words owner q w h.Ak hB hq h.zM h.wa h.oa ZU Vr zck (λt ht=>hq3 _ (List.mem_map.2 ⟨_,qb _ _ ht,V⟩))) ?_
  rintro v w' ⟨gl,gt,g,zB,zA,q',rfl,h1,h2,h3,hs⟩
  exact ⟨(gl,gt,g),zB,zA,q',V,h1,h2,h3,hs⟩⟩
 tell K W i words owner q gb bs hS ZU Vr hqc hq3 hRw hRo hRq aY:=⟨215,⟨i.2.1,0,none⟩,kl (xt:=125) zb zb (Oa (hS.ok (.ro [(ky i.1 i.2.1 i.2.2).X q]) (zy (i:=5) V) _ (List.mem_singleton.2 V))),zd6,by
  have hx:((ky i.1 i.2.1 i.2.2).X q).ok W:=hS.ok (.ro [(ky i.1 i.2.1 i.2.2).X q]) (zy (i:=5) V) _ (List.mem_singleton.2 V)
  have hxt:((wO i.2.1 i.2.2).X q).ok W:=N5 hx
  obtain ⟨hB,hq⟩:=kx hxt
  have h1:=(hS.Y7 (A:= .at_ q) hq (λb hb=>hb) (λb hb=>⟨.ro [(ky i.1 i.2.1 i.2.2).X q],zy (i:=5) V,_,List.mem_singleton.2 V,.inl (r3 (N3 hxt hb))⟩)).Y7 (A:= .zx i.2.1 185 [.pointer (some ⟨i.2.2,0,none⟩),q.v]) hB (λb hb=>hb) (λb hb=>⟨.ro [(ky i.1 i.2.1 i.2.2).X q],zy (i:=6) V,_,List.mem_singleton.2 V,.inl (r3 ⟨_,xx ..,hb⟩)⟩)
  have h2:Sh K W W ([.zM gb 204 [bs.v],.own 5 bs,.zx i.2.2 182 [words.v,owner.v],.at_ words,.at_ owner,.zx i.2.1 185 [.pointer (some ⟨i.2.2,0,none⟩),q.v],.at_ q]++ [.ro [(ky i.1 i.2.1 i.2.2).X q]]):=h1.zY [2,3,4,5,6,0,1,7] V
  have hl:∀t,t<q.l.length->(nth q.l t).l∈(ky i.1 i.2.1 i.2.2).qs q:=λt ht=>List.mem_map.2 ⟨_,qb _ _ ht,V⟩
  have zck:q.l.length<=4:=by have h9:(q.l.map (·.l)).length<=4:=hqc;rwa [yw] at h9
  refine zP.mono (Cm _ gb bs i.2.1 i.2.2 words owner q W h2.yT ZU Vr hRw hRo za zck (λt ht=>hq3 _ (hl t ht)) (λt ht=>hRq _ (hl t ht))) ?_
  rintro v w' ⟨rfl,JN,e,hn,hs⟩
  refine ⟨V,JN,e,za,(h2.xP hs (by
   intro C hC b hb
   simp only [z6,qd,or_false] at hC
   rcases hC with rfl|rfl|rfl|rfl|rfl|rfl|rfl
   ·exact (hb:False).elim
   ·exact Flat.qh hb
   all_goals exact .inl ⟨_,by simp,.inr hb⟩)).zY [0,1,2,3,4,7] V⟩⟩
structure Mz {F:gN}(x:yz F):Prop where
 rl:x.rows.length<=4
 pc:∀t,t<x.rows.length->gy (nth x.rows t).pc
 ze:∀t,t<x.rows.length->vB (nth x.rows t).ze.l
 rn:∀t,t<x.rows.length->(nth x.rows t).ze.l.length<=200
 pr:vB x.zd.l
 pn:x.zd.l.length<=100000
 wl:x.words.l.length<=64
 ol:x.owner.l.length<=4
 ql:x.qs.length<=4
 q3:∀l∈x.qs,l.length<=3
 Rw:vB x.words.l
 Ro:vB x.owner.l
 Rq:∀l∈x.qs,Mw l
theorem vB.one {n:Int}(h:gy n):vB [n]:=λx hx=>by
 obtain rfl:x=n:=by simpa using hx
 exact h
theorem EE {l:List Th}{t:Nat}{b c d:List UInt8}(h:t<l.length)(hb:b=ZC (((l.take t).flatMap λy=> [[y.pc],y.ze]).flatMap vG)){p:Int}{r:List Int}(hc:c=b++ZC (vG [p]))(hd:d=c++ZC (vG r))(hp:p=(nth l t).pc)(hr:r=(nth l t).ze):d=ZC (((l.take (t+1)).flatMap λy=> [[y.pc],y.ze]).flatMap vG):=by
 rw [hd,hc,hb,zS _ _ h,hp,hr]
 simp only [XR,Qd,kF,JR,k6,xi]
theorem Of {F:gN}{x:yz F}{t:Nat}{b c d:List UInt8}(ht:t=x.rows.length)(hb:b=ZC (((x.st.zW.take t).flatMap λy=> [[y.pc],y.ze]).flatMap vG))(hw:x.st.zW.map Th.wait=x.qs)(hc:c=b++ZC ((F.Cj x.i x.words x.owner x.q).flatMap vG))(hd:d=c++ZC (vG x.zd.l)):d=ZC (BT F.tq x.st):=by
 rw [hd,hc,hb,ht,<-yz.Cs,Y9]
 unfold BT r6 gN.Cj
 rw [hw]
 simp only [XR,Qd,kF,JR,k6,xi,JP,QQ]
 rfl
theorem Od {F:gN}{s:yc}{l:List UInt8}(h:l=ZC (BT F.tq s)):0<l.length:=by
 rw [h,gj]
 unfold BT r6
 simp only [XR,kF,JR,yX]
 have:0<(vG s.words).length:=by unfold vG;simp
 omega
theorem mW {F:gN}{x:yz F}{t:Nat}(h:t<x.rows.length):(nth x.st.zW t).pc=(nth x.rows t).pc/\(nth x.st.zW t).ze=(nth x.rows t).ze.l:=by
 unfold yz.st
 rw [K1 h]
 exact ⟨V,V⟩
theorem KU {F:gN}{x:yz F}(h:x.qs.length=x.rows.length):x.st.zW.map Th.wait=x.qs:=by
 unfold yz.st Ql
 rw [List.map_map]
 refine gi _ _ (by simp [h]) λi hi=>?_
 have wm:i<x.rows.length:=by simpa using hi
 rw [zI _ _ _ (by simpa using wm),Ug wm]
 rfl
theorem bq {rows M:List q6}{t:Nat}(hM:M.length=t)(ht:t<rows.length):nth (M.map q6.toQ++(rows.drop t).map q6.toQ) t=(nth rows t).toQ:=by
 have e:rows.drop t=nth rows t::rows.drop (t+1):=by rw [qq _ _ ht];exact JV ht
 rw [e]
 subst hM
 simp [nth,List.getD]
theorem N1 {α:Type}{l m:List α}{k:Nat}{a b:α}(h:k=l.length):(l++a::m).set k b=l++b::m:=by subst h;simp
theorem Ag {rows M:List q6}{t:Nat}(hM:M.length=t)(ht:t<rows.length)(s:Ls Int):(M.map q6.toQ++(rows.drop t).map q6.toQ).set t (⟨(nth (M.map q6.toQ++(rows.drop t).map q6.toQ) t).pc,s.v⟩:jn)=(M++ [(⟨(nth rows t).pc,s⟩:q6)]).map q6.toQ++(rows.drop (t+1)).map q6.toQ:=by
 rw [bq hM ht]
 have e:rows.drop t=nth rows t::rows.drop (t+1):=by rw [qq _ _ ht];exact JV ht
 rw [e,xA,yi,xi]
 rw [show (M.map q6.toQ++(nth rows t).toQ::(rows.drop (t+1)).map q6.toQ).set t (⟨(nth rows t).toQ.pc,s.v⟩:jn)=M.map q6.toQ++(⟨(nth rows t).toQ.pc,s.v⟩:jn)::(rows.drop (t+1)).map q6.toQ from N1 (by simp [hM])]
 rfl
theorem nq {rows Zb:List q6}{qs:List (List Wt)}{words owner zd:List Int}(h:Zb.map (λr=>(r.pc,r.ze.l))=rows.map (λr=>(r.pc,r.ze.l))):Ql Zb qs words owner zd=Ql rows qs words owner zd:=by
 have hl:Zb.length=rows.length:=by simpa using congrArg List.length h
 unfold Ql
 rw [hl]
 congr 1
 refine bG λt ht=>?_
 have Ut:t<rows.length:=by simpa using ht
 have e:∀(l:List q6),t<l.length->(l.map λr=>(r.pc,r.ze.l))[t]? =some ((nth l t).pc,(nth l t).ze.l):=λl h9=>by
  rw [Ht,QS h9,qq _ _ h9];rfl
 have h2:(Zb.map λr=>(r.pc,r.ze.l))[t]? =(rows.map λr=>(r.pc,r.ze.l))[t]? :=by rw [h]
 rw [e _ za,e _ Ut] at h2
 obtain ⟨e1,e2⟩:=Prod.mk.inj (qA h2)
 rw [e1,e2]
theorem NQ {l:List jn}(h:∀r∈l,r.rv.oneCell' =true){q:Nat}(hq:q<l.length){j:Nat}(hj:j<zz.sz jn):(zz.cell (nth l q) j).oneCell' =true:=by
 rcases j with _|_|j
 ·rfl
 ·exact h _ (qb _ _ hq)
 ·exact absurd hj (by show¬(j+1+1<2);omega)
theorem Sw (F:gN)(x:yz F)(W:World)(hF:YH Tryz.prog 182 3 204 5 141 F)(hX:x.Rd W)(hk:Mz x)(BU:x.qs.length=x.rows.length):
    zP Tryz.prog 101 [.pointer (some ⟨x.g,0,none⟩)] W (λv w' =>v= .string (JY F.tq x.st)/\qM W w' []):=by
 have Wk:=hk.rl
 have zpT:(x.rows.map q6.toQ).length=x.rows.length:=yw _
 have hkp:=hk.pn
 refine gen Tryz.func101 Tryz.ntmps101 (qM.ext (by intro A hA;simp only [z6,qd,or_false] at hA;rcases hA with rfl|rfl|rfl|rfl|rfl|rfl|rfl|rfl;exact hX.zM;exact hX.zl;exact hX.row;exact hX.zd;exact hX.mem.zM;exact hX.mem.wa;exact hX.mem.oa;exact (λA hA=>by obtain rfl:=List.mem_singleton.1 hA;exact hX.mem.x)) (by intro A hA b hb;simp only [z6,qd,or_false] at hA;rcases hA with rfl|rfl|rfl|rfl|rfl|rfl|rfl|rfl<;>exact hb):Sh (λ_=>False) W W [.zx x.g 173 [.iface (F.mem x.i).T (.pointer (some (F.mem x.i).u)),.pointer (some ⟨x.gp,0,none⟩),x.vt,x.zd.v,.bool false],.at_ (⟨x.vt,x.rows.map q6.toQ⟩:Ls jn),.KR x.rows,.at_ x.zd,.zx (F.mem x.i).g0 182 [x.words.v,x.owner.v],.at_ x.words,.at_ x.owner,.ro [(F.mem x.i).X x.q]]) V λjP z7=>gG z7<|sG (oM 1 V<|.nl)<|sK λ_ j1=>Q2 G5 V λgk=>nK j1<|sG (oV (W7 V V V) V<|oM 1 V<|.nl)<|gK λ_ Xe=>sK λ_ nC=>y4 (aA 2 V) λ(zro:(x.rows.map q6.toQ).length<=140737488355328)=>zn (oM 1 V<|jA xM V<|w7 1 wb V V<|wk (n:=(x.rows.map q6.toQ).length) wL (aA 2 V) V<|oM 1 V<|.nl)<|nK nC<|gB<|λa20 mw wV=>?_;clear z7
 have XU:=wV.nil (α:=UInt8) 5
 clear wV
 refine qE (λm a w=>∃(t:Nat) (bl:List UInt8) (vb:Value),(t<=x.rows.length)/\(bl=ZC (((x.st.zW.take t).flatMap λy=> [[y.pc],y.ze]).flatMap vG))/\(bl.length<=20000*t)/\St 41 (λ_=>False) W a w [(0,.pointer (some ⟨x.g,0,none⟩)),(3,.pointer (some ⟨gk,0,none⟩)),(4,.func (.func 141) #[] #[.pointer (some ⟨gk,0,none⟩)]),(11,x.vt),(12,.int .i64 (((x.rows.map q6.toQ).length:Nat):Int)),(13,.int .i64 ((t:Nat):Int))] [.zM gk 204 [vb],.zx x.g 173 [.iface (F.mem x.i).T (.pointer (some (F.mem x.i).u)),.pointer (some ⟨x.gp,0,none⟩),x.vt,x.zd.v,.bool false],.at_ (⟨x.vt,x.rows.map q6.toQ⟩:Ls jn),.KR x.rows,.at_ x.zd,.zx (F.mem x.i).g0 182 [x.words.v,x.owner.v],.at_ x.words,.at_ x.owner,.ro [(F.mem x.i).X x.q],.own 5 (⟨vb,bl⟩:Ls UInt8)]/\m=x.rows.length-t) ⟨_,0,[],(.slice none 0 0),za,(V),(by simp),XU.wN ⟨V,V,V,V,V,V,trivial⟩ [1,2,3,4,5,6,7,8,9,0] V,V⟩ ?_
 clear XU
 rintro m18 HS Hx ⟨t,bl,vb,ht,O2,aY,jc,uM⟩
 refine gG jc<|sG (xk _ _ V<|.nl)<|gK λ_ J9=>gcd V (λUy Dq=>?_) λUy Dq=>?_;clear jc
 ·skip
  refine gS<|hK J9<|gK λ_ Ke=>gB<|sK λ_ Re=>zn (jo wL kI (aA 2 V) _ (show t<(x.rows.map q6.toQ).length from zp) V<|oV (Rn.same (CN (s:=(⟨x.vt,x.rows.map q6.toQ⟩:Ls jn)) (i:=t) (vs:= [.int .i64 ((nth (x.rows.map q6.toQ) t).pc),((nth (x.rows.map q6.toQ) t).rv)]) kI V V V (λw h=>(h.at 2 V)) (show t<(x.rows.map q6.toQ).length from zp) (y5 V) V) (by rw [show ((nth (x.rows.map q6.toQ) t).rv)=(nth x.rows t).ze.v from (by rw [QD za];rfl)])) V<|.nl)<|Q2 kI V λb26=>gE (λ_ _ h_=>j3 (i:=0) (vs:= [.int .i64 ((nth (x.rows.map q6.toQ) t).pc),(nth x.rows t).ze.v]) (YR:= [.int .i64 ((nth (x.rows.map q6.toQ) t).pc),(nth x.rows t).ze.v]) h_ kI V V V V V V V (zr V (zr ((mO h_.sh 4 V t (show t<x.rows.length from zp))).one qx)) (y5 V) V) V<|nK Re<|sK λ_ K6=>zn (oM 1 V<|qB Qq V<|qw 0 zj V V<|.nl)<|xb (λ_ _ h_=>qF (n:=1) (cs:= [.int .i64 ((nth (x.rows.map q6.toQ) t).pc)]) ([(nth (x.rows.map q6.toQ) t).pc]:List Int) h_ zt zj V V V zf V zb V (λq hq w h=>Flat.inner _ _) (λq hq b hb=>(Flat.on _ _ hb).elim) V V) V λpY=>λa31 dM ZW=>?_
  have Qp:St _ _ _ _ _ _ _:=⟨ZW.fr,ZW.sh.share 0 V⟩
  clear ZW
  have JJ:=Qp.zY (L' := [_,_,_,_,_,_,_,_,_,_,_,_]) [2,11,0,1,3,4,5,6,7,8,9,10] V
  have cX:=JJ.sh.yT (Lp:= [_,_,_])
  refine zL (zD JJ VD V V V V V (Vf _ gk (⟨vb,bl⟩:Ls UInt8) (⟨pY,[(nth (x.rows.map q6.toQ) t).pc]⟩:Ls Int) _ cX (by rw [QD za];exact vB.one (hk.pc t za)) (by show bl.length+66*([(nth (x.rows.map q6.toQ) t).pc]).length<=9000000000000;first|omega|(simp only [yY,xY];omega)))) (zg V _) ?_
  rintro pz mu ⟨_,⟨rfl,PA,T5,nR⟩,IM⟩
  have TQ:=congrArg List.length T5;rw [yX,gj] at TQ;have TZ:=Qi (l:= [(nth (x.rows.map q6.toQ) t).pc]) (by rw [QD za];exact vB.one (hk.pc t za))
  try dsimp only at TQ TZ
  try simp only [yY,xY] at TZ
  change Sh _ _ _ [.zM gk 204 [PA.v],.own 5 PA,.at_ (⟨pY,[(nth (x.rows.map q6.toQ) t).pc]⟩:Ls Int)] at nR
  have YA:St _ (λ_=>False) W pz mu _ [_,_,_,_,_,_,_,_,_,_,_,_]:=⟨IM,JJ.sh.VF (Lp:= [_,_,_]) nR⟩
  clear IM nR
  clear JJ
  refine gG YA<|nK K6<|?_;clear YA
  have hkr:=hk.rn t za
  refine gL<|zn (oM 1 V<|qB XL V<|qw 3 zV V V<|.nl)<|λpy lV QJ=>?_
  have Yz:=QJ.Y7 (A:= .at_ ((nth x.rows t).ze)) (mO QJ.sh 6 V t za) (λb hb=>hb) (λb hb=>⟨_,zy (i:=6) V,_,qb _ _ za,hb⟩)
  clear QJ
  have KF:=Yz.zY (L' := [_,_,_,_,_,_,_,_,_,_,_,_,_]) [1,2,0,3,4,5,6,7,8,9,10,11,12] V
  have zqA:=KF.sh.yT (Lp:= [_,_,_])
  refine zL (zD KF VD V V V V V (Vf _ gk PA ((nth x.rows t).ze) _ zqA (hk.ze t za) (by show PA.l.length+66*((nth x.rows t).ze.l).length<=9000000000000;first|omega|(simp only [yY,xY];omega)))) (zg V _) ?_
  rintro a39 pV ⟨_,⟨rfl,Pz,T4,cS⟩,zjW⟩
  have TP:=congrArg List.length T4;rw [yX,gj] at TP;have TY:=Qi (l:=(nth x.rows t).ze.l) (hk.ze t za)
  try dsimp only at TP TY
  try simp only [yY,xY] at TY
  change Sh _ _ _ [.zM gk 204 [Pz.v],.own 5 Pz,.at_ ((nth x.rows t).ze)] at cS
  have QC:St _ (λ_=>False) W a39 pV _ [_,_,_,_,_,_,_,_,_,_,_,_,_]:=⟨zjW,KF.sh.VF (Lp:= [_,_,_]) cS⟩
  clear zjW cS
  clear KF
  refine gG QC<|nK Ke<|gL<|zn (yl _ 1 zp V<|oM 1 V<|.nl)<|nN<|?_;clear QC
  have F8:=EE (by rw [yz.Cs];omega) O2 T5 T4 (by rw [(mW za).1,QD za];rfl) (mW za).2.symm
  intro a40 mr YO
  refine zH ⟨_,?_,(t+1),Pz.l,Pz.v,?_,?_,?_,YO.wN ⟨V,V,V,V,V,V,trivial⟩ [0,5,6,7,8,9,10,11,12,1] V,V⟩
  · rw [uM];first|omega|(simp only [qf];omega)
  · omega
  · exact F8
  · first|omega|(simp only [yY,xY] at*;omega)
 refine gX<|hK Xe<|sK λ_ hU=>zn (oM 1 V<|jA yU V<|w7 1 kc V V<|oM 1 V<|.nl)<|gO [0,9,5,6,7,8,1,2,3,4] V<|λPO M8 Ws=>?_
 have zqy:=Ws.sh.yT (Lp:= [_,_,_,_,_,_])
 refine zL (ZL Ws V V V V V (hF.tell _ _ x.i x.words x.owner x.q gk (⟨vb,bl⟩:Ls UInt8) zqy hk.wl hk.ol hk.ql hk.q3 hk.Rw hk.Ro hk.Rq (by show bl.length<=_;omega))) (zg V _) ?_
 rintro Ao tt ⟨_,⟨rfl,zlC,zkj,zkg,zhD⟩,zjR⟩
 try dsimp only at zkg
 have Yy:St _ (λ_=>False) W Ao tt _ [_,_,_,_,_,_,_,_,_,_]:=⟨zjR,Ws.sh.VF (Lp:= [_,_,_,_,_,_]) zhD⟩
 clear zjR zhD
 clear Ws
 refine gG Yy<|nK hU<|sK λ_ EK=>zn (oM 2 V<|jA wA V<|w7 6 zV V V<|.nl)<|gO [0,1,9,2,3,4,5,6,7,8] V<|λa55 P6 GZ=>?_;clear Yy
 have nZ:=GZ.sh.yT (Lp:= [_,_,_])
 refine zL (zD GZ VD V V V V V (Vf _ gk zlC x.zd _ nZ hk.pr (by show zlC.l.length+66*x.zd.l.length<=9000000000000;first|omega|(simp only [yY,xY];omega)))) (zg V _) ?_
 rintro a56 P5 ⟨_,⟨rfl,LW,T3,uH⟩,zjN⟩
 have TM:=congrArg List.length T3;rw [yX,gj] at TM;have TV:=Qi (l:=x.zd.l) hk.pr
 try dsimp only at TM TV
 try simp only [yY,xY] at TV
 change Sh _ _ _ [.zM gk 204 [LW.v],.own 5 LW,.at_ x.zd] at uH
 have KE:St _ (λ_=>False) W a56 P5 _ [_,_,_,_,_,_,_,_,_,_]:=⟨zjN,GZ.sh.VF (Lp:= [_,_,_]) uH⟩
 clear zjN uH
 clear GZ
 refine gG KE<|nK EK<|?_;clear KE
 have hke:=Of (show t=x.rows.length from za) O2 (KU BU) zkj T3
 refine sG (qw 0 G5 V V<|oV (Nz (s:=LW) Tryz.underlying204 Tryz.underlying5 Tryz.underlying9 V V (λw h=>(h.own 1 V)) (show 0<LW.l.length from (Od hke))) V<|oM 1 V<|.nl)<|gR<|λa58 w58 MT=>zu (fn:=Tryz.f101) (t:=2) V MT V<|⟨?_,(MT.sh.zY [] V)⟩
 rw [show LW.l=_ from hke];rfl
theorem LP (x:Ls jn)(W:World)(hx:x.At W)(hl:x.l.length<=100000)(oh:∀r∈x.l,r.rv.oneCell' =true):
    zP Tryz.prog 154 [x.v] W (λv w' =>∃s:Ls jn,v=s.v/\qM W w' [.own 189 (⟨s.v,x.l⟩:Ls jn)]):=by
 refine gen Tryz.func154 Tryz.ntmps154 (qM.ext1 hx:Sh (λ_=>False) W W [.at_ x]) V λjP z7=>gG z7<|sG (oM 1 V<|.nl)<|gK λ_ j1=>sG (oM 1 V<|oV (cj (s:=x) wL V V V (λw h=>(h.at 0 V))) V<|.nl)<|?_;clear z7
 refine Xl V (λZo=>?_) λZo=>?_
 ·skip
  refine sG (oM 1 V<|.nl)<|gR<|uT<|λBK Hy w9=>zu (fn:=Tryz.f154) (t:=2) V w9 V<|⟨⟨.slice none 0 0,[]⟩,V,?_⟩
  rw [R8 hx zc]
  exact (w9.sh.nil (α:=jn) 189).zY (L' := [_]) [0] V
 refine gS<|hK j1<|sK λ_ Us=>xb (λ_ _ h_=>Xc (α:=jn) h_ wL kI V V V) V λNh=>zn (oM 1 V<|.nl)<|xb (λ_ _ h_=>RC (r:=0) (rm:=1) (s:=(⟨Nh,[]⟩:Ls jn)) (m:=x) h_ wL kI V V V V V V V (λw h=>(h.at 1 V)) (λb hb=> .inr hb) (λq hq b hb=> .inr ⟨q,hq,hb⟩) V V V (λw h q hq j hj=>NQ oh hq hj) (show (([]).length+x.l.length)*32<=140737488355328/\([]).length+x.l.length<=140737488355328 from zp) V V) V λmB=>zn (oM 1 V<|.nl)<|nK Us<|gR<|λa20 mw wV=>zu (fn:=Tryz.f154) (t:=2) V wV V<|⟨⟨mB,[]⟩,V,?_⟩
 exact (wV.sh.zY [0] V)
theorem Cx (F:gN)(x:yz F)(W:World)(hF:YH Tryz.prog 182 3 204 5 141 F)(hX:x.Rd W)(hk:Mz x):
    zP Tryz.prog 143 [.pointer (some ⟨x.g,0,none⟩)] W (λv w' =>∃y:yz F,v= .pointer (some ⟨y.g,0,none⟩)/\y.gp=x.gp/\y.rows.length=x.rows.length/\y.st=x.st/\y.qs=x.qs/\qM W w' y.A):=by
 have Wk:=hk.rl
 have zpT:(x.rows.map q6.toQ).length=x.rows.length:=yw _
 have hkp:=hk.pn
 have oh:∀r∈x.rows.map q6.toQ,r.rv.oneCell' =true:=λr hr=>by
    obtain ⟨y,hy,rfl⟩:=List.mem_map.1 hr
    exact (hX.row y hy).one
 refine gen Tryz.func143 Tryz.ntmps143 (qM.ext (by intro A hA;simp only [z6,qd,or_false] at hA;rcases hA with rfl|rfl|rfl|rfl|rfl|rfl|rfl|rfl;exact hX.zM;exact hX.zl;exact hX.row;exact hX.zd;exact hX.mem.zM;exact hX.mem.wa;exact hX.mem.oa;exact (λA hA=>by obtain rfl:=List.mem_singleton.1 hA;exact hX.mem.x)) (by intro A hA b hb;simp only [z6,qd,or_false] at hA;rcases hA with rfl|rfl|rfl|rfl|rfl|rfl|rfl|rfl<;>exact hb):Sh (λ_=>False) W W [.zx x.g 173 [.iface (F.mem x.i).T (.pointer (some (F.mem x.i).u)),.pointer (some ⟨x.gp,0,none⟩),x.vt,x.zd.v,.bool false],.at_ (⟨x.vt,x.rows.map q6.toQ⟩:Ls jn),.KR x.rows,.at_ x.zd,.zx (F.mem x.i).g0 182 [x.words.v,x.owner.v],.at_ x.words,.at_ x.owner,.ro [(F.mem x.i).X x.q]]) V λjP z7=>gG z7<|sG (oM 1 V<|.nl)<|sK λ_ j1=>zn (oM 1 V<|cz V<|oV (rq (vs:= [.iface (F.mem x.i).T (.pointer (some (F.mem x.i).u)),.pointer (some ⟨x.gp,0,none⟩),x.vt,x.zd.v,.bool false]) mF V V (λw h=>h.zx 0 V) V V) V<|.nl)<|Q2 mF V λgk=>gE (λ_ _ h_=>j3 (i:=0) (vs:= [.iface (F.mem x.i).T (.pointer (some (F.mem x.i).u)),.pointer (some ⟨x.gp,0,none⟩),x.vt,x.zd.v,.bool false]) (YR:= [.iface (F.mem x.i).T (.pointer (some (F.mem x.i).u)),.pointer (some ⟨x.gp,0,none⟩),x.vt,x.zd.v,.bool false]) h_ mF V V V V V V V (zr V (zr V (zr ((h_.sh.at 2 V)).one (zr ((h_.sh.at 4 V)).one (zr V qx))))) (y5 V) V) V<|nK j1<|gK λ_ Xe=>gF [0,2,3,5,6,7] V<|λa17 By jk=>Wz ((λΦ Ψ S a w=>(S 4=false/\S 9=false/\S 11=false/\S 13=false/\kH 45 S Φ Ψ a/\Sh (λ_=>False) W w [.zM gk 173 [.iface (F.mem x.i).T (.pointer (some (F.mem x.i).u)),.pointer (some ⟨x.gp,0,none⟩),x.vt,x.zd.v,.bool false],.zx x.g 173 [.iface (F.mem x.i).T (.pointer (some (F.mem x.i).u)),.pointer (some ⟨x.gp,0,none⟩),x.vt,x.zd.v,.bool false],.at_ (⟨x.vt,x.rows.map q6.toQ⟩:Ls jn),.KR x.rows,.at_ x.zd,.zx (F.mem x.i).g0 182 [x.words.v,x.owner.v],.at_ x.words,.at_ x.owner,.ro [(F.mem x.i).X x.q]])\/(S 4=true/\S 9=false/\S 11=false/\S 13=false/\∃(qv:F.ι) (qW:Ls Int) (qX:Ls Int) (xH:(F.mem qv).σ),(qW.l=x.words.l)/\(qX.l=x.owner.l)/\((F.mem qv).qs xH=(F.mem x.i).qs x.q)/\kH 45 S Φ (Ψ++ [(4,12,.iface (F.mem qv).T (.pointer (some (F.mem qv).u)))]) a/\Sh (λ_=>False) W w [.zM (F.mem qv).g0 182 [qW.v,qX.v],.own 3 qW,.own 3 qX,(F.mem qv).X xH,.zM gk 173 [.iface (F.mem x.i).T (.pointer (some (F.mem x.i).u)),.pointer (some ⟨x.gp,0,none⟩),x.vt,x.zd.v,.bool false],.zx x.g 173 [.iface (F.mem x.i).T (.pointer (some (F.mem x.i).u)),.pointer (some ⟨x.gp,0,none⟩),x.vt,x.zd.v,.bool false],.at_ (⟨x.vt,x.rows.map q6.toQ⟩:Ls jn),.KR x.rows,.at_ x.zd,.zx (F.mem x.i).g0 182 [x.words.v,x.owner.v],.at_ x.words,.at_ x.owner,.ro [(F.mem x.i).X x.q]])\/(S 4=true/\S 9=true/\S 11=false/\S 13=false/\∃(qv:F.ι) (qW:Ls Int) (qX:Ls Int) (xH:(F.mem qv).σ) (jS:Ls Int),(qW.l=x.words.l)/\(qX.l=x.owner.l)/\((F.mem qv).qs xH=(F.mem x.i).qs x.q)/\kH 45 S Φ (Ψ++ [(4,12,.iface (F.mem qv).T (.pointer (some (F.mem qv).u))),(9,17,jS.v),(10,18,.pointer (some ⟨gk,0,none⟩))]) a/\Sh (λ_=>False) W w [.own 3 (⟨jS.v,x.zd.l⟩:Ls Int),.zM (F.mem qv).g0 182 [qW.v,qX.v],.own 3 qW,.own 3 qX,(F.mem qv).X xH,.zM gk 173 [.iface (F.mem x.i).T (.pointer (some (F.mem x.i).u)),.pointer (some ⟨x.gp,0,none⟩),x.vt,x.zd.v,.bool false],.zx x.g 173 [.iface (F.mem x.i).T (.pointer (some (F.mem x.i).u)),.pointer (some ⟨x.gp,0,none⟩),x.vt,x.zd.v,.bool false],.at_ (⟨x.vt,x.rows.map q6.toQ⟩:Ls jn),.KR x.rows,.at_ x.zd,.zx (F.mem x.i).g0 182 [x.words.v,x.owner.v],.at_ x.words,.at_ x.owner,.ro [(F.mem x.i).X x.q]])\/(S 4=true/\S 9=true/\S 11=true/\S 13=false/\∃(qv:F.ι) (qW:Ls Int) (qX:Ls Int) (xH:(F.mem qv).σ) (jS:Ls Int),(qW.l=x.words.l)/\(qX.l=x.owner.l)/\((F.mem qv).qs xH=(F.mem x.i).qs x.q)/\kH 45 S Φ (Ψ++ [(4,12,.iface (F.mem qv).T (.pointer (some (F.mem qv).u))),(9,17,jS.v),(10,18,.pointer (some ⟨gk,0,none⟩)),(12,19,.pointer (some ⟨gk,3,none⟩))]) a/\Sh (λ_=>False) W w [.own 3 (⟨jS.v,x.zd.l⟩:Ls Int),.zM (F.mem qv).g0 182 [qW.v,qX.v],.own 3 qW,.own 3 qX,(F.mem qv).X xH,.zM gk 173 [.iface (F.mem qv).T (.pointer (some (F.mem qv).u)),.pointer (some ⟨x.gp,0,none⟩),x.vt,x.zd.v,.bool false],.zx x.g 173 [.iface (F.mem x.i).T (.pointer (some (F.mem x.i).u)),.pointer (some ⟨x.gp,0,none⟩),x.vt,x.zd.v,.bool false],.at_ (⟨x.vt,x.rows.map q6.toQ⟩:Ls jn),.KR x.rows,.at_ x.zd,.zx (F.mem x.i).g0 182 [x.words.v,x.owner.v],.at_ x.words,.at_ x.owner,.ro [(F.mem x.i).X x.q]])\/(S 4=true/\S 9=true/\S 11=true/\S 13=true/\∃(qv:F.ι) (qW:Ls Int) (qX:Ls Int) (xH:(F.mem qv).σ) (jS:Ls Int),(qW.l=x.words.l)/\(qX.l=x.owner.l)/\((F.mem qv).qs xH=(F.mem x.i).qs x.q)/\kH 45 S Φ (Ψ++ [(4,12,.iface (F.mem qv).T (.pointer (some (F.mem qv).u))),(9,17,jS.v),(10,18,.pointer (some ⟨gk,0,none⟩)),(12,19,.pointer (some ⟨gk,3,none⟩))]) a/\Sh (λ_=>False) W w [.own 3 (⟨jS.v,x.zd.l⟩:Ls Int),.zM (F.mem qv).g0 182 [qW.v,qX.v],.own 3 qW,.own 3 qX,(F.mem qv).X xH,.zM gk 173 [.iface (F.mem qv).T (.pointer (some (F.mem qv).u)),.pointer (some ⟨x.gp,0,none⟩),x.vt,jS.v,.bool false],.zx x.g 173 [.iface (F.mem x.i).T (.pointer (some (F.mem x.i).u)),.pointer (some ⟨x.gp,0,none⟩),x.vt,x.zd.v,.bool false],.at_ (⟨x.vt,x.rows.map q6.toQ⟩:Ls jn),.KR x.rows,.at_ x.zd,.zx (F.mem x.i).g0 182 [x.words.v,x.owner.v],.at_ x.words,.at_ x.owner,.ro [(F.mem x.i).X x.q]])) [(0,.pointer (some ⟨x.g,0,none⟩)),(2,.pointer none),(3,.pointer (some ⟨gk,0,none⟩)),(5,.pointer (some ⟨x.g,0,none⟩)),(6,.pointer (some ⟨x.g,0,none⟩)),(7,.agg #[.iface (F.mem x.i).T (.pointer (some (F.mem x.i).u)),.pointer (some ⟨x.gp,0,none⟩),x.vt,x.zd.v,.bool false])] [(0,8,.pointer (some ⟨x.g,0,none⟩)),(1,9,.pointer (some ⟨x.g,0,none⟩)),(2,10,.pointer (some ⟨x.g,0,none⟩)),(3,11,.iface (F.mem x.i).T (.pointer (some (F.mem x.i).u))),(5,13,.pointer (some ⟨x.g,0,none⟩)),(6,14,.pointer (some ⟨x.g,0,none⟩)),(7,15,.pointer (some ⟨x.g,3,none⟩)),(8,16,x.zd.v)]) zb zb (Or.inl (⟨V,V,V,V,kH.start jk.fr,jk.sh.drew⟩)) ?_ ?_;clear z7
 ·intro S i o ho qn qg zX a w hI
  clear jk
  rcases i with _|_|_|_|_|_|_|_|_|_|_|_|_|_|i
  ·obtain rfl:_=o:=qA ho
   rcases hI with ⟨j5,qD,jd,j6,φ,ς⟩|⟨j5,_⟩|⟨j5,_⟩|⟨j5,_⟩|⟨j5,_⟩
   ·exact sq φ φ.yv ς (zG V V) 0 V V V V V V λa hg=>Or.inl (⟨un V j5,un V qD,un V jd,un V j6,hg,ς⟩)
   ·exact zh (cA qg 4 0 V j5) qn
   ·exact zh (cA qg 4 0 V j5) qn
   ·exact zh (cA qg 4 0 V j5) qn
   ·exact zh (cA qg 4 0 V j5) qn
  ·obtain rfl:_=o:=qA ho
   have BE:S 0=true:=zK zX 0 V V
   rcases hI with ⟨j5,qD,jd,j6,φ,ς⟩|⟨j5,_⟩|⟨j5,_⟩|⟨j5,_⟩|⟨j5,_⟩
   ·exact sq φ (Fr.cons φ.yv (φ.at_ 0 0 8 _ V BE)) ς (jC V V) 1 V V V V V V λa hg=>Or.inl (⟨un V j5,un V qD,un V jd,un V j6,hg,ς⟩)
   ·exact zh (cA qg 4 1 V j5) qn
   ·exact zh (cA qg 4 1 V j5) qn
   ·exact zh (cA qg 4 1 V j5) qn
   ·exact zh (cA qg 4 1 V j5) qn
  ·obtain rfl:_=o:=qA ho
   have Wo:S 1=true:=zK zX 0 V V
   rcases hI with ⟨j5,qD,jd,j6,φ,ς⟩|⟨j5,_⟩|⟨j5,_⟩|⟨j5,_⟩|⟨j5,_⟩
   ·exact sq φ (Fr.cons φ.yv (φ.at_ 1 1 9 _ V Wo)) ς (zT (r:=0) yU V V V) 2 V V V V V V λa hg=>Or.inl (⟨un V j5,un V qD,un V jd,un V j6,hg,ς⟩)
   ·exact zh (cA qg 4 2 V j5) qn
   ·exact zh (cA qg 4 2 V j5) qn
   ·exact zh (cA qg 4 2 V j5) qn
   ·exact zh (cA qg 4 2 V j5) qn
  ·obtain rfl:_=o:=qA ho
   have QI:S 2=true:=zK zX 0 V V
   rcases hI with ⟨j5,qD,jd,j6,φ,ς⟩|⟨j5,_⟩|⟨j5,_⟩|⟨j5,_⟩|⟨j5,_⟩
   ·exact sq φ (Fr.cons φ.yv (φ.at_ 2 2 10 _ V QI)) ς (kh kc V V (λw h=>h.zx 1 V) V) 3 V V V V V V λa hg=>Or.inl (⟨un V j5,un V qD,un V jd,un V j6,hg,ς⟩)
   ·exact zh (cA qg 4 3 V j5) qn
   ·exact zh (cA qg 4 3 V j5) qn
   ·exact zh (cA qg 4 3 V j5) qn
   ·exact zh (cA qg 4 3 V j5) qn
  ·obtain rfl:_=o:=qA ho
   have Wn:S 3=true:=zK zX 0 V V
   rcases hI with ⟨j5,qD,jd,j6,φ,ς⟩|⟨j5,_⟩|⟨j5,_⟩|⟨j5,_⟩|⟨j5,_⟩
   ·have hs:=St.mk (Fr.cons φ.yv (φ.at_ 3 3 11 _ V Wn)) ς
    refine yG (ZL hs V V V V V (hF.copy _ x.i x.words x.owner x.q ⟨hs.sh.zx 5 V,hs.sh.at 6 V,hs.sh.at 7 V,(hs.sh.ok _ (zy (i:=8) V)) _ (List.mem_singleton.2 V)⟩ hk.wl hk.ol hk.ql hk.q3)) (zg V _) ?_
    rintro a23 tx ⟨_,⟨i23,zoq,zoy,q23,rfl,ziK,ziU,zpZ,Fe⟩,zjZ⟩ ⟨v0,zpI⟩
    have kq:=(⟨zjZ,hs.sh.call Fe (by intro A hA b hb;simp only [km,z6,qd,or_false] at hA;first|(subst hA;exact Flat.qh hb)|(rcases hA with rfl|rfl|rfl|rfl<;>first|exact (hb:False).elim|exact Flat.qh hb|exact ((hF.ok _).mh _ _ hb).elim))⟩:St 45 (λ_=>False) W a23 tx _ _)
    clear zjZ Fe
    exact Or.inr (Or.inl (⟨qV _ _,un V qD,un V jd,un V j6,i23,zoq,zoy,q23,ziK,ziU,zpZ,φ.wU qg qn [0,1,2,3,4,5,6,7] zb zb zpI kq.fr.defers (kq.fr.at_ 12 _ V) 8 V V V V,(kq.sh.zY [0,1,2,3,4,5,6,7,8,9,10,11,12] V)⟩))
   ·exact zh j5 qn
   ·exact zh j5 qn
   ·exact zh j5 qn
   ·exact zh j5 qn
  ·obtain rfl:_=o:=qA ho
   rcases hI with ⟨j5,qD,jd,j6,φ,ς⟩|⟨j5,qD,jd,j6,qv,qW,qX,xH,xS,xT,jW,φ,ς⟩|⟨_,qD,_⟩|⟨_,qD,_⟩|⟨_,qD,_⟩
   ·exact sq φ φ.yv ς (zG V V) 4 V V V V V V λa hg=>Or.inl (⟨un V j5,un V qD,un V jd,un V j6,hg,ς⟩)
   ·exact sq φ φ.yv ς (zG V V) 4 V V V V V V λa hg=>Or.inr (Or.inl (⟨un V j5,un V qD,un V jd,un V j6,qv,qW,qX,xH,xS,xT,jW,hg,ς⟩))
   ·exact zh (cA qg 9 5 V qD) qn
   ·exact zh (cA qg 9 5 V qD) qn
   ·exact zh (cA qg 9 5 V qD) qn
  ·obtain rfl:_=o:=qA ho
   have Kk:S 5=true:=zK zX 0 V V
   rcases hI with ⟨j5,qD,jd,j6,φ,ς⟩|⟨j5,qD,jd,j6,qv,qW,qX,xH,xS,xT,jW,φ,ς⟩|⟨_,qD,_⟩|⟨_,qD,_⟩|⟨_,qD,_⟩
   ·exact sq φ (Fr.cons φ.yv (φ.at_ 4 5 13 _ V Kk)) ς (jC V V) 5 V V V V V V λa hg=>Or.inl (⟨un V j5,un V qD,un V jd,un V j6,hg,ς⟩)
   ·exact sq φ (Fr.cons φ.yv (φ.at_ 4 5 13 _ V Kk)) ς (jC V V) 5 V V V V V V λa hg=>Or.inr (Or.inl (⟨un V j5,un V qD,un V jd,un V j6,qv,qW,qX,xH,xS,xT,jW,hg,ς⟩))
   ·exact zh (cA qg 9 6 V qD) qn
   ·exact zh (cA qg 9 6 V qD) qn
   ·exact zh (cA qg 9 6 V qD) qn
  ·obtain rfl:_=o:=qA ho
   have Uw:S 6=true:=zK zX 0 V V
   rcases hI with ⟨j5,qD,jd,j6,φ,ς⟩|⟨j5,qD,jd,j6,qv,qW,qX,xH,xS,xT,jW,φ,ς⟩|⟨_,qD,_⟩|⟨_,qD,_⟩|⟨_,qD,_⟩
   ·exact sq φ (Fr.cons φ.yv (φ.at_ 5 6 14 _ V Uw)) ς (zT (r:=3) wA V V V) 6 V V V V V V λa hg=>Or.inl (⟨un V j5,un V qD,un V jd,un V j6,hg,ς⟩)
   ·exact sq φ (Fr.cons φ.yv (φ.at_ 5 6 14 _ V Uw)) ς (zT (r:=3) wA V V V) 6 V V V V V V λa hg=>Or.inr (Or.inl (⟨un V j5,un V qD,un V jd,un V j6,qv,qW,qX,xH,xS,xT,jW,hg,ς⟩))
   ·exact zh (cA qg 9 7 V qD) qn
   ·exact zh (cA qg 9 7 V qD) qn
   ·exact zh (cA qg 9 7 V qD) qn
  ·obtain rfl:_=o:=qA ho
   have Gn:S 7=true:=zK zX 0 V V
   rcases hI with ⟨j5,qD,jd,j6,φ,ς⟩|⟨j5,qD,jd,j6,qv,qW,qX,xH,xS,xT,jW,φ,ς⟩|⟨_,qD,_⟩|⟨_,qD,_⟩|⟨_,qD,_⟩
   ·exact sq φ (Fr.cons φ.yv (φ.at_ 6 7 15 _ V Gn)) ς (kh zV V V (λw h=>h.zx 1 V) V) 7 V V V V V V λa hg=>Or.inl (⟨un V j5,un V qD,un V jd,un V j6,hg,ς⟩)
   ·exact sq φ (Fr.cons φ.yv (φ.at_ 6 7 15 _ V Gn)) ς (kh zV V V (λw h=>h.zx 5 V) V) 7 V V V V V V λa hg=>Or.inr (Or.inl (⟨un V j5,un V qD,un V jd,un V j6,qv,qW,qX,xH,xS,xT,jW,hg,ς⟩))
   ·exact zh (cA qg 9 8 V qD) qn
   ·exact zh (cA qg 9 8 V qD) qn
   ·exact zh (cA qg 9 8 V qD) qn
  ·obtain rfl:_=o:=qA ho
   have AF:S 8=true:=zK zX 0 V V
   have XG:S 4=true:=zK zX 1 V V
   rcases hI with ⟨j5,_⟩|⟨j5,qD,jd,j6,qv,qW,qX,xH,xS,xT,jW,φ,ς⟩|⟨_,qD,_⟩|⟨_,qD,_⟩|⟨_,qD,_⟩
   ·exact zh XG j5
   ·have hs:=St.mk (Fr.cons φ.yv (φ.at_ 7 8 16 _ V AF)) ς
    refine yG (zD hs Hk V V V V V (Qv x.zd _ (hs.sh.at 8 V) (by first|omega|(simp only [qf];omega)))) (zg V _) ?_
    rintro a32 MF ⟨_,⟨s32,rfl,Fc⟩,zjY⟩ ⟨v0,zpF⟩
    have JJ:=(⟨zjY,hs.sh.call Fc (by intro A hA b hb;simp only [km,z6,qd,or_false] at hA;first|(subst hA;exact Flat.qh hb)|(rcases hA with rfl|rfl|rfl|rfl<;>first|exact (hb:False).elim|exact Flat.qh hb|exact ((hF.ok _).mh _ _ hb).elim))⟩:St 45 (λ_=>False) W a32 MF _ _)
    clear zjY Fc
    exact Or.inr (Or.inr (Or.inl (⟨un V j5,qV _ _,un V jd,un V j6,qv,qW,qX,xH,s32,xS,xT,jW,φ.wU qg qn [0,1,2,3,4,5,6,7,8] zb zb zpF JJ.fr.defers (JJ.fr.at_ 17 _ V) 9 V V V V,(JJ.sh.zY [0,1,2,3,4,5,6,7,8,9,10,11,12,13] V)⟩)))
   ·exact zh qD qn
   ·exact zh qD qn
   ·exact zh qD qn
  ·obtain rfl:_=o:=qA ho
   have XG:S 4=true:=zK zX 4 V V
   have lg:S 9=true:=zK zX 9 V V
   rcases hI with ⟨j5,_⟩|⟨_,qD,_⟩|⟨j5,qD,jd,j6,qv,qW,qX,xH,jS,xS,xT,jW,φ,ς⟩|⟨_,_,jd,_⟩|⟨_,_,jd,_⟩
   ·exact zh XG j5
   ·exact zh lg qD
   ·exact sq φ φ.yv ς (zT (r:=0) yU V V V) 10 V V V V V V λa hg=>Or.inr (Or.inr (Or.inl (⟨un V j5,un V qD,un V jd,un V j6,qv,qW,qX,xH,jS,xS,xT,jW,hg,ς⟩)))
   ·exact zh (cA qg 11 10 V jd) qn
   ·exact zh (cA qg 11 10 V jd) qn
  ·obtain rfl:_=o:=qA ho
   have IU:S 10=true:=zK zX 0 V V
   have XG:S 4=true:=zK zX 1 V V
   have lg:S 9=true:=zK zX 2 V V
   rcases hI with ⟨j5,_⟩|⟨_,qD,_⟩|⟨j5,qD,jd,j6,qv,qW,qX,xH,jS,xS,xT,jW,φ,ς⟩|⟨_,_,jd,_⟩|⟨_,_,jd,_⟩
   ·exact zh XG j5
   ·exact zh lg qD
   ·have hs:=St.mk (Fr.cons (Fr.cons φ.yv (φ.at_ 8 4 12 _ V XG)) (φ.at_ 10 10 18 _ V IU)) ς
    refine yG (j3 (i:=5) (vs:= [.iface (F.mem qv).T (.pointer (some (F.mem qv).u))]) (YR:= [.iface (F.mem qv).T (.pointer (some (F.mem qv).u)),.pointer (some ⟨x.gp,0,none⟩),x.vt,x.zd.v,.bool false]) hs kc V V V V V V V (zr V qx) (y5 V) V) (zg V _) ?_
    rintro pz mu YA ⟨v0,zpD⟩
    exact Or.inr (Or.inr (Or.inr (Or.inl (⟨un V j5,un V qD,qV _ _,un V j6,qv,qW,qX,xH,jS,xS,xT,jW,φ.aK qg qn [0,1,2,3,4,5,6,7,8,9,10] zb zb zpD YA.fr.defers V,(YA.sh.zY [0,1,2,3,4,5,6,7,8,9,10,11,12,13] V)⟩))))
   ·exact zh jd qn
   ·exact zh jd qn
  ·obtain rfl:_=o:=qA ho
   have XG:S 4=true:=zK zX 4 V V
   have lg:S 9=true:=zK zX 9 V V
   have oD:S 11=true:=zK zX 11 V V
   rcases hI with ⟨j5,_⟩|⟨_,qD,_⟩|⟨_,_,jd,_⟩|⟨j5,qD,jd,j6,qv,qW,qX,xH,jS,xS,xT,jW,φ,ς⟩|⟨_,_,_,j6,_⟩
   ·exact zh XG j5
   ·exact zh lg qD
   ·exact zh oD jd
   ·exact sq φ φ.yv ς (zT (r:=3) wA V V V) 11 V V V V V V λa hg=>Or.inr (Or.inr (Or.inr (Or.inl (⟨un V j5,un V qD,un V jd,un V j6,qv,qW,qX,xH,jS,xS,xT,jW,hg,ς⟩))))
   ·exact zh (cA qg 13 12 V j6) qn
  ·obtain rfl:_=o:=qA ho
   have lh:S 12=true:=zK zX 0 V V
   have lg:S 9=true:=zK zX 1 V V
   have oD:S 11=true:=zK zX 2 V V
   have XG:S 4=true:=zK zX 7 V V
   rcases hI with ⟨j5,_⟩|⟨_,qD,_⟩|⟨_,_,jd,_⟩|⟨j5,qD,jd,j6,qv,qW,qX,xH,jS,xS,xT,jW,φ,ς⟩|⟨_,_,_,j6,_⟩
   ·exact zh XG j5
   ·exact zh lg qD
   ·exact zh oD jd
   ·have hs:=St.mk (Fr.cons (Fr.cons φ.yv (φ.at_ 9 9 17 _ V lg)) (φ.at_ 11 12 19 _ V lh)) ς
    refine yG (j3 (i:=5) (vs:= [jS.v]) (YR:= [.iface (F.mem qv).T (.pointer (some (F.mem qv).u)),.pointer (some ⟨x.gp,0,none⟩),x.vt,jS.v,.bool false]) hs zV V V V V V (y7 ((hs.sh.own 0 V)).one) V (zr ((hs.sh.own 0 V)).one qx) (y5 V) V) (zg V _) ?_
    rintro py lV QJ ⟨v0,nM⟩
    exact Or.inr (Or.inr (Or.inr (Or.inr (⟨un V j5,un V qD,un V jd,qV _ _,qv,qW,qX,xH,jS,xS,xT,jW,φ.aK qg qn [0,1,2,3,4,5,6,7,8,9,10,11] zb zb nM QJ.fr.defers V,(QJ.sh.zY [0,1,2,3,4,5,6,7,8,9,10,11,12,13] V)⟩))))
   ·exact zh j6 qn
  · simp at ho
 intro S zO a w hI
 clear jk
 rcases hI with ⟨j5,qD,jd,j6,φ,ς⟩|⟨j5,qD,jd,j6,qv,qW,qX,xH,xS,xT,jW,φ,ς⟩|⟨j5,qD,jd,j6,qv,qW,qX,xH,jS,xS,xT,jW,φ,ς⟩|⟨j5,qD,jd,j6,qv,qW,qX,xH,jS,xS,xT,jW,φ,ς⟩|⟨j5,qD,jd,j6,qv,qW,qX,xH,jS,xS,xT,jW,φ,ς⟩
 · exact zh (zO 4 zf) j5
 · exact zh (zO 9 zf) qD
 · exact zh (zO 11 zf) jd
 · exact zh (zO 13 zf) j6
 have KF:St 45 (λ_=>False) W a w _ _:=⟨φ.yv,ς⟩
 clear zO φ ς j5 qD jd j6
 refine gG KF<|hK Xe<|sK λ_ dP=>zn (oM 1 V<|jA xM V<|w7 6 wb V V<|.nl)<|λa40 mr YO=>zL (zD YO zel V V V V V (LP (⟨x.vt,x.rows.map q6.toQ⟩:Ls jn) _ (YO.sh.at 7 V) (by first|omega|(simp only [qf];omega)) oh)) (zg V _) ?_;clear KF
 rintro a41 w41 ⟨_,⟨s41,rfl,zhJ⟩,zjV⟩
 have sF:=(⟨zjV,YO.sh.call zhJ (by intro A hA b hb;simp only [km,z6,qd,or_false] at hA;first|(subst hA;exact Flat.qh hb)|(rcases hA with rfl|rfl|rfl|rfl<;>first|exact (hb:False).elim|exact Flat.qh hb|exact ((hF.ok _).mh _ _ hb).elim))⟩:St 45 (λ_=>False) W a41 w41 _ _)
 clear zjV zhJ
 clear YO
 refine gG sF<|zn (qB xM V<|.nl)<|dY 6 wb V (aO 0 V) V<|nK dP<|gK λ_ k43=>sK λ_ nB=>y4 (aO 0 V) λ(zrh:(x.rows.map q6.toQ).length<=140737488355328)=>zn (qB xM V<|qw 6 wb V V<|wk (n:=(x.rows.map q6.toQ).length) wL (aO 0 V) V<|oM 1 V<|.nl)<|nK nB<|gB<|λAo tt Yy=>?_;clear sF
 have Ws:=Yy.zaj 3
 clear Yy
 have U7:=Ws.Jb (i:=1) (l' :=([]:List q6).map q6.toQ++(x.rows.drop 0).map q6.toQ) V (by simp)
 clear Ws
 refine qE (λm a w=>∃(t:Nat) (M:List q6) (vt:Value),(t<=x.rows.length)/\(M.length=t)/\(M.map (λr=>(r.pc,r.ze.l))=(x.rows.take t).map (λr=>(r.pc,r.ze.l)))/\St 45 (λ_=>False) W a w [(3,.pointer (some ⟨gk,0,none⟩)),(28,.int .i64 (((x.rows.map q6.toQ).length:Nat):Int)),(29,.int .i64 ((t:Nat):Int))] [.own 189 (⟨vt,(M.map q6.toQ++(x.rows.drop t).map q6.toQ)⟩:Ls jn),.own 3 (⟨jS.v,x.zd.l⟩:Ls Int),.zM (F.mem qv).g0 182 [qW.v,qX.v],.own 3 qW,.own 3 qX,(F.mem qv).X xH,.zM gk 173 [.iface (F.mem qv).T (.pointer (some (F.mem qv).u)),.pointer (some ⟨x.gp,0,none⟩),vt,jS.v,.bool false],.zx x.g 173 [.iface (F.mem x.i).T (.pointer (some (F.mem x.i).u)),.pointer (some ⟨x.gp,0,none⟩),x.vt,x.zd.v,.bool false],.at_ (⟨x.vt,x.rows.map q6.toQ⟩:Ls jn),.KR x.rows,.at_ x.zd,.zx (F.mem x.i).g0 182 [x.words.v,x.owner.v],.at_ x.words,.at_ x.owner,.ro [(F.mem x.i).X x.q],.x5 (kg 3 M)]/\m=x.rows.length-t) ⟨_,0,[],_,za,(V),(V),U7.wN ⟨V,V,V,trivial⟩ [1,2,3,4,5,6,7,8,9,10,11,12,13,14,15,0] V,V⟩ ?_
 clear U7
 rintro m46 a46 w46 ⟨t,M,vt,ht,hMl,hM9,B9,zq0⟩
 have hln:(M.map q6.toQ++(x.rows.drop t).map q6.toQ).length=x.rows.length:=by rw [yX,yw,yw,v7];omega
 refine gG B9<|sG (xk _ _ V<|.nl)<|gK λ_ EJ=>gcd V (λXi n3=>?_) λXi n3=>?_;clear B9
 ·skip
  refine gS<|hK EJ<|gK λ_ MI=>gB<|sG (oM 2 V<|.nl)<|gF [3,4,28,29,30,31] V<|λa56 P5 KE=>Wz ((λΦ Ψ S a w=>(S 9=false/\S 12=false/\kH 45 S Φ Ψ a/\Sh (λ_=>False) W w [.own 189 (⟨vt,(M.map q6.toQ++(x.rows.drop t).map q6.toQ)⟩:Ls jn),.own 3 (⟨jS.v,x.zd.l⟩:Ls Int),.zM (F.mem qv).g0 182 [qW.v,qX.v],.own 3 qW,.own 3 qX,(F.mem qv).X xH,.zM gk 173 [.iface (F.mem qv).T (.pointer (some (F.mem qv).u)),.pointer (some ⟨x.gp,0,none⟩),vt,jS.v,.bool false],.zx x.g 173 [.iface (F.mem x.i).T (.pointer (some (F.mem x.i).u)),.pointer (some ⟨x.gp,0,none⟩),x.vt,x.zd.v,.bool false],.at_ (⟨x.vt,x.rows.map q6.toQ⟩:Ls jn),.KR x.rows,.at_ x.zd,.zx (F.mem x.i).g0 182 [x.words.v,x.owner.v],.at_ x.words,.at_ x.owner,.ro [(F.mem x.i).X x.q],.x5 (kg 3 M)])\/(S 9=true/\S 12=false/\∃(wq:Ls Int),kH 45 S Φ (Ψ++ [(9,41,wq.v),(10,42,.pointer (some (ja vt 2 t 0))),(11,43,.pointer (some (ja vt 2 t 1)))]) a/\Sh (λ_=>False) W w [.own 3 (⟨wq.v,(nth x.rows t).ze.l⟩:Ls Int),.own 189 (⟨vt,(M.map q6.toQ++(x.rows.drop t).map q6.toQ)⟩:Ls jn),.own 3 (⟨jS.v,x.zd.l⟩:Ls Int),.zM (F.mem qv).g0 182 [qW.v,qX.v],.own 3 qW,.own 3 qX,(F.mem qv).X xH,.zM gk 173 [.iface (F.mem qv).T (.pointer (some (F.mem qv).u)),.pointer (some ⟨x.gp,0,none⟩),vt,jS.v,.bool false],.zx x.g 173 [.iface (F.mem x.i).T (.pointer (some (F.mem x.i).u)),.pointer (some ⟨x.gp,0,none⟩),x.vt,x.zd.v,.bool false],.at_ (⟨x.vt,x.rows.map q6.toQ⟩:Ls jn),.KR x.rows,.at_ x.zd,.zx (F.mem x.i).g0 182 [x.words.v,x.owner.v],.at_ x.words,.at_ x.owner,.ro [(F.mem x.i).X x.q],.x5 (kg 3 M)])\/(S 9=true/\S 12=true/\∃(wq:Ls Int),kH 45 S Φ (Ψ++ [(9,41,wq.v),(10,42,.pointer (some (ja vt 2 t 0))),(11,43,.pointer (some (ja vt 2 t 1)))]) a/\Sh (λ_=>False) W w [.own 3 (⟨wq.v,(nth x.rows t).ze.l⟩:Ls Int),.own 189 (⟨vt,(M.map q6.toQ++(x.rows.drop t).map q6.toQ).set t ({ nth (M.map q6.toQ++(x.rows.drop t).map q6.toQ) t with rv:=wq.v })⟩:Ls jn),.own 3 (⟨jS.v,x.zd.l⟩:Ls Int),.zM (F.mem qv).g0 182 [qW.v,qX.v],.own 3 qW,.own 3 qX,(F.mem qv).X xH,.zM gk 173 [.iface (F.mem qv).T (.pointer (some (F.mem qv).u)),.pointer (some ⟨x.gp,0,none⟩),vt,jS.v,.bool false],.zx x.g 173 [.iface (F.mem x.i).T (.pointer (some (F.mem x.i).u)),.pointer (some ⟨x.gp,0,none⟩),x.vt,x.zd.v,.bool false],.at_ (⟨x.vt,x.rows.map q6.toQ⟩:Ls jn),.KR x.rows,.at_ x.zd,.zx (F.mem x.i).g0 182 [x.words.v,x.owner.v],.at_ x.words,.at_ x.owner,.ro [(F.mem x.i).X x.q],.x5 (kg 3 M)])) [(3,.pointer (some ⟨gk,0,none⟩)),(4,.int .i64 ((t:Nat):Int)),(28,.int .i64 (((x.rows.map q6.toQ).length:Nat):Int)),(29,.int .i64 ((t:Nat):Int)),(30,.bool (decide (t<(x.rows.map q6.toQ).length))),(31,.int .i64 ((t:Nat):Int))] [(0,32,.pointer (some ⟨gk,2,none⟩)),(1,33,vt),(2,34,.int .i64 ((t:Nat):Int)),(3,35,.pointer (some ⟨gk,2,none⟩)),(4,36,vt),(5,37,.int .i64 ((t:Nat):Int)),(6,38,.pointer (some (ja vt 2 t 0))),(7,39,.pointer (some (ja vt 2 t 1))),(8,40,(nth x.rows t).ze.v)]) zb zb (Or.inl (⟨V,V,kH.start KE.fr,KE.sh.drew⟩)) ?_ ?_
  ·intro S i o ho qn qg zX a w hI
   clear KE
   rcases i with _|_|_|_|_|_|_|_|_|_|_|_|_|i
   ·obtain rfl:_=o:=qA ho
    rcases hI with ⟨qD,zQ,φ,ς⟩|⟨qD,zQ,wq,φ,ς⟩|⟨_,zQ,_⟩
    ·exact sq φ φ.yv ς (zT (r:=2) xM V V V) 0 V V V V V V λa hg=>Or.inl (⟨un V qD,un V zQ,hg,ς⟩)
    ·exact sq φ φ.yv ς (zT (r:=2) xM V V V) 0 V V V V V V λa hg=>Or.inr (Or.inl (⟨un V qD,un V zQ,wq,hg,ς⟩))
    ·exact zh (cA qg 12 0 V zQ) qn
   ·obtain rfl:_=o:=qA ho
    have BE:S 0=true:=zK zX 0 V V
    rcases hI with ⟨qD,zQ,φ,ς⟩|⟨qD,zQ,wq,φ,ς⟩|⟨_,zQ,_⟩
    ·exact sq φ (Fr.cons φ.yv (φ.at_ 0 0 32 _ V BE)) ς (xV (i:=6) wb V V V V) 1 V V V V V V λa hg=>Or.inl (⟨un V qD,un V zQ,hg,ς⟩)
    ·exact sq φ (Fr.cons φ.yv (φ.at_ 0 0 32 _ V BE)) ς (xV (i:=7) wb V V V V) 1 V V V V V V λa hg=>Or.inr (Or.inl (⟨un V qD,un V zQ,wq,hg,ς⟩))
    ·exact zh (cA qg 12 1 V zQ) qn
   ·obtain rfl:_=o:=qA ho
    rcases hI with ⟨qD,zQ,φ,ς⟩|⟨qD,zQ,wq,φ,ς⟩|⟨_,zQ,_⟩
    ·exact sq φ φ.yv ς (zG V V) 2 V V V V V V λa hg=>Or.inl (⟨un V qD,un V zQ,hg,ς⟩)
    ·exact sq φ φ.yv ς (zG V V) 2 V V V V V V λa hg=>Or.inr (Or.inl (⟨un V qD,un V zQ,wq,hg,ς⟩))
    ·exact zh (cA qg 12 2 V zQ) qn
   ·obtain rfl:_=o:=qA ho
    rcases hI with ⟨qD,zQ,φ,ς⟩|⟨qD,_⟩|⟨qD,_⟩
    ·exact sq φ φ.yv ς (zT (r:=2) xM V V V) 3 V V V V V V λa hg=>Or.inl (⟨un V qD,un V zQ,hg,ς⟩)
    ·exact zh (cA qg 9 3 V qD) qn
    ·exact zh (cA qg 9 3 V qD) qn
   ·obtain rfl:_=o:=qA ho
    have Wn:S 3=true:=zK zX 0 V V
    rcases hI with ⟨qD,zQ,φ,ς⟩|⟨qD,_⟩|⟨qD,_⟩
    ·exact sq φ (Fr.cons φ.yv (φ.at_ 3 3 35 _ V Wn)) ς (xV (i:=6) wb V V V V) 4 V V V V V V λa hg=>Or.inl (⟨un V qD,un V zQ,hg,ς⟩)
    ·exact zh (cA qg 9 4 V qD) qn
    ·exact zh (cA qg 9 4 V qD) qn
   ·obtain rfl:_=o:=qA ho
    rcases hI with ⟨qD,zQ,φ,ς⟩|⟨qD,_⟩|⟨qD,_⟩
    ·exact sq φ φ.yv ς (zG V V) 5 V V V V V V λa hg=>Or.inl (⟨un V qD,un V zQ,hg,ς⟩)
    ·exact zh (cA qg 9 5 V qD) qn
    ·exact zh (cA qg 9 5 V qD) qn
   ·obtain rfl:_=o:=qA ho
    have XG:S 4=true:=zK zX 0 V V
    have Kk:S 5=true:=zK zX 1 V V
    rcases hI with ⟨qD,zQ,φ,ς⟩|⟨qD,_⟩|⟨qD,_⟩
    ·exact sq φ (Fr.cons (Fr.cons φ.yv (φ.at_ 4 4 36 _ V XG)) (φ.at_ 5 5 37 _ V Kk)) ς (gD (s:=(⟨vt,(M.map q6.toQ++(x.rows.drop t).map q6.toQ)⟩:Ls jn)) (q:=t) wL kI V V V (λw h=>(h.own 0 V)) (show t<(M.map q6.toQ++(x.rows.drop t).map q6.toQ).length from (by first|omega|(simp only [qf];omega)))) 6 V V V V V V λa hg=>Or.inl (⟨un V qD,un V zQ,hg,ς⟩)
    ·exact zh (cA qg 9 6 V qD) qn
    ·exact zh (cA qg 9 6 V qD) qn
   ·obtain rfl:_=o:=qA ho
    have Uw:S 6=true:=zK zX 0 V V
    rcases hI with ⟨qD,zQ,φ,ς⟩|⟨qD,_⟩|⟨qD,_⟩
    ·exact sq φ (Fr.cons φ.yv (φ.at_ 6 6 38 _ V Uw)) ς (jT (r:=1) XL V V V) 7 V V V V V V λa hg=>Or.inl (⟨un V qD,un V zQ,hg,ς⟩)
    ·exact zh (cA qg 9 7 V qD) qn
    ·exact zh (cA qg 9 7 V qD) qn
   ·obtain rfl:_=o:=qA ho
    have Gn:S 7=true:=zK zX 0 V V
    rcases hI with ⟨qD,zQ,φ,ς⟩|⟨qD,_⟩|⟨qD,_⟩
    ·exact sq φ (Fr.cons φ.yv (φ.at_ 7 7 39 _ V Gn)) ς (Rn.same (x6 (s:=(⟨vt,(M.map q6.toQ++(x.rows.drop t).map q6.toQ)⟩:Ls jn)) (i:=t) (v:=((nth (M.map q6.toQ++(x.rows.drop t).map q6.toQ) t).rv)) zV V V V (λw h=>(h.own 0 V)) (show t<(M.map q6.toQ++(x.rows.drop t).map q6.toQ).length from (by first|omega|(simp only [qf];omega))) (y5 V) V) (by rw [bq hMl za];rfl)) 8 V V V V V V λa hg=>Or.inl (⟨un V qD,un V zQ,hg,ς⟩)
    ·exact zh (cA qg 9 8 V qD) qn
    ·exact zh (cA qg 9 8 V qD) qn
   ·obtain rfl:_=o:=qA ho
    have AF:S 8=true:=zK zX 0 V V
    rcases hI with ⟨qD,zQ,φ,ς⟩|⟨qD,_⟩|⟨qD,_⟩
    ·have hs:=St.mk (Fr.cons φ.yv (φ.at_ 8 8 40 _ V AF)) ς
     refine yG (zD hs Hk V V V V V (Qv ((nth x.rows t).ze) _ (mO hs.sh 9 V t (show t<x.rows.length from za)) (by have:=hk.rn t za;omega))) (zg V _) ?_
     rintro a70 w70 ⟨_,⟨s70,rfl,zhw⟩,zjJ⟩ ⟨v0,zpt⟩
     have BH:=(⟨zjJ,hs.sh.call zhw (by intro A hA b hb;simp only [km,z6,qd,or_false] at hA;first|(subst hA;exact Flat.qh hb)|(rcases hA with rfl|rfl|rfl|rfl<;>first|exact (hb:False).elim|exact Flat.qh hb|exact ((hF.ok _).mh _ _ hb).elim))⟩:St 45 (λ_=>False) W a70 w70 _ _)
     clear zjJ zhw
     exact Or.inr (Or.inl (⟨qV _ _,un V zQ,s70,φ.wU qg qn [0,1,2,3,4,5,6,7,8] zb zb zpt BH.fr.defers (BH.fr.at_ 41 _ V) 9 V V V V,(BH.sh.zY [0,1,2,3,4,5,6,7,8,9,10,11,12,13,14,15,16] V)⟩))
    ·exact zh qD qn
    ·exact zh qD qn
   ·obtain rfl:_=o:=qA ho
    have Wo:S 1=true:=zK zX 0 V V
    have QI:S 2=true:=zK zX 1 V V
    have lg:S 9=true:=zK zX 11 V V
    rcases hI with ⟨qD,_⟩|⟨qD,zQ,wq,φ,ς⟩|⟨_,zQ,_⟩
    ·exact zh lg qD
    ·exact sq φ (Fr.cons (Fr.cons φ.yv (φ.at_ 1 1 33 _ V Wo)) (φ.at_ 2 2 34 _ V QI)) ς (gD (s:=(⟨vt,(M.map q6.toQ++(x.rows.drop t).map q6.toQ)⟩:Ls jn)) (q:=t) wL kI V V V (λw h=>(h.own 1 V)) (show t<(M.map q6.toQ++(x.rows.drop t).map q6.toQ).length from (by first|omega|(simp only [qf];omega)))) 10 V V V V V V λa hg=>Or.inr (Or.inl (⟨un V qD,un V zQ,wq,hg,ς⟩))
    ·exact zh (cA qg 12 10 V zQ) qn
   ·obtain rfl:_=o:=qA ho
    have IU:S 10=true:=zK zX 0 V V
    have lg:S 9=true:=zK zX 10 V V
    rcases hI with ⟨qD,_⟩|⟨qD,zQ,wq,φ,ς⟩|⟨_,zQ,_⟩
    ·exact zh lg qD
    ·exact sq φ (Fr.cons φ.yv (φ.at_ 10 10 42 _ V IU)) ς (jT (r:=1) XL V V V) 11 V V V V V V λa hg=>Or.inr (Or.inl (⟨un V qD,un V zQ,wq,hg,ς⟩))
    ·exact zh (cA qg 12 11 V zQ) qn
   ·obtain rfl:_=o:=qA ho
    have oD:S 11=true:=zK zX 0 V V
    have lg:S 9=true:=zK zX 1 V V
    rcases hI with ⟨qD,_⟩|⟨qD,zQ,wq,φ,ς⟩|⟨_,zQ,_⟩
    ·exact zh lg qD
    ·have hs:=St.mk (Fr.cons (Fr.cons φ.yv (φ.at_ 9 9 41 _ V lg)) (φ.at_ 11 11 43 _ V oD)) ς
     refine yG (ei (r:=1) (i:=t) (j:=1) (x' :=({ nth (M.map q6.toQ++(x.rows.drop t).map q6.toQ) t with rv:=wq.v } :jn)) hs zV V V V V V (show t<(M.map q6.toQ++(x.rows.drop t).map q6.toQ).length from (by first|omega|(simp only [qf];omega))) (y5 V) V (y7 ((hs.sh.own 0 V)).one) ((hs.sh.own 0 V)).one (by intro q hq;rcases q with _|_|q<;>first|rfl|omega|exact absurd hq (by show¬(q+2<2);omega)) (λw h=>Flat.inner _ _) (λb hb=>(Flat.on _ _ hb).elim)) (zg V _) ?_
     rintro a73 w73 h73 ⟨v0,zps⟩
     exact Or.inr (Or.inr (⟨un V qD,qV _ _,wq,φ.aK qg qn [0,1,2,3,4,5,6,7,8,9,10,11] zb zb zps h73.fr.defers V,(h73.sh.zY [0,1,2,3,4,5,6,7,8,9,10,11,12,13,14,15,16] V)⟩))
    ·exact zh zQ qn
   · simp at ho
  intro S zO a w hI
  clear KE
  rcases hI with ⟨qD,zQ,φ,ς⟩|⟨qD,zQ,wq,φ,ς⟩|⟨qD,zQ,wq,φ,ς⟩
  · exact zh (zO 9 zf) qD
  · exact zh (zO 12 zf) zQ
  have h74:St 45 (λ_=>False) W a w _ _:=⟨φ.yv,ς⟩
  clear zO φ ς qD zQ
  refine gG h74<|hK MI<|gL<|zn (yl _ 1 zp V<|oM 1 V<|.nl)<|nN<|gO [0,16,1,2,3,4,5,6,7,8,9,10,11,12,13,14,15] V<|λa77 w77 O5=>?_;clear h74
  have h76:=O5.sJ (x:=(⟨(nth x.rows t).pc,(⟨wq.v,(nth x.rows t).ze.l⟩:Ls Int)⟩:q6))
  clear O5
  have O4:=h76.Jb (i:=1) (l' :=(M++ [(⟨(nth x.rows t).pc,(⟨wq.v,(nth x.rows t).ze.l⟩:Ls Int)⟩:q6)]).map q6.toQ++(x.rows.drop (t+1)).map q6.toQ) V (Ag (rows:=x.rows) hMl za (⟨wq.v,(nth x.rows t).ze.l⟩:Ls Int))
  clear h76
  refine zH ⟨_,?_,(t+1),(M++ [(⟨(nth x.rows t).pc,(⟨wq.v,(nth x.rows t).ze.l⟩:Ls Int)⟩:q6)]),vt,?_,?_,?_,O4.wN ⟨V,V,V,trivial⟩ [1,2,3,4,5,6,7,8,9,10,11,12,13,14,15,0] V,V⟩
  · rw [zq0];first|omega|(simp only [qf];omega)
  · omega
  · simp [hMl]
  · rw [zS _ _ za,yi,yi,hM9];rfl
 refine gX<|hK k43<|sG (oM 1 V<|.nl)<|gR<|λa80 w80 aZ=>zu (fn:=Tryz.f143) (t:=2) V aZ V ?_
 have AH:=aZ.Jb (i:=0) (l' :=M.map q6.toQ) V (by rw [show t=x.rows.length from za,List.drop_length];simp)
 clear aZ
 refine ⟨⟨x.gp,qv,xH,gk,vt,M,(⟨jS.v,x.zd.l⟩:Ls Int),qW,qX⟩,V,V,by rw [hMl];show t=x.rows.length;omega,?_,jW,(AH.sh.zY [6,0,15,1,2,3,4,5] V)⟩
 show Ql M ((F.mem qv).qs xH) qW.l qX.l x.zd.l=Ql x.rows _ _ _ _
 rw [xS,xT,jW]
 exact nq (by rw [hM9,show t=x.rows.length from za,Y9])
def mvT (p:Pg)(m:Int)(s:yc)(v:Mv):TS:=stepT p m s v.th.toNat (v.st+1).toNat
def QP (p:Pg)(m:Int)(s:yc)(v:Mv):List xR:=if (mvT p m s v).zq=true then [⟨1,[],(mvT p m s v).zd⟩] else []
def QK (p:Pg)(m:Int)(s:yc)(v:Mv):List yc:=if (mvT p m s v).zq=true then [] else [s.yt v.th.toNat (mvT p m s v)]
def Yp (p:Pg)(m:Int)(s:yc):List xR:=
 if ended p s=true then [⟨0,s.words,s.zd⟩] else if (vF p m s).length=0 then [⟨2,s.words,s.zd⟩] else (vF p m s).flatMap (QP p m s)
def QM (p:Pg)(m:Int)(s:yc):List yc:=if ended p s=true then [] else (vF p m s).flatMap (QK p m s)
section
variable {p:Pg}{m:Int}{s:yc}
theorem ZR {v:Mv} :v∈vF p m s↔∃t k,t<p.code.length/\xp m (nth p.code t) (s.view t) k=true/\v=⟨(t:Int),(k:Int)-1⟩:=by
 unfold vF
 rw [List.mem_flatMap]
 constructor
 ·rintro ⟨t,ht,h⟩
  obtain ⟨k,hk,e⟩:=En h
  exact ⟨t,k,by simpa using ht,hk,e⟩
 ·rintro ⟨t,k,ht,hk,rfl⟩
  refine ⟨t,by simpa using ht,?_⟩
  unfold uj
  rw [GQ]
  rcases kj hk with ⟨rfl,h1,h2⟩|⟨h1,h2,h3⟩
  ·left
   have:vT (nth p.code t) (s.view t)=true:=by unfold vT;simp [h1,h2]
   rw [if_pos this];simp
  ·right
   refine List.mem_map.2 ⟨k-1,List.mem_filter.2 ⟨by simp;omega,h3⟩,?_⟩
   congr 1
   omega
theorem Uj (t k:Nat):mvT p m s ⟨(t:Int),(k:Int)-1⟩=stepT p m s t k:=by
 unfold mvT
 show stepT p m s ((t:Int).toNat) (((k:Int)-1+1).toNat)=_
 rw [UL,show (k:Int)-1+1=(k:Int) from za,UL]
theorem Da :(vF p m s).length=0↔Xo p m s:=by
 constructor
 ·intro h t k ht
  cases hk:xp m (nth p.code t) (s.view t) k with
  |false=>rfl
  |true=>
   have:=ZR.2 ⟨t,k,ht,hk,V⟩
   rw [JW h] at this
   cases this
 ·intro h
  rw [List.length_eq_zero_iff,List.eq_nil_iff_forall_not_mem]
  intro v hv
  obtain ⟨t,k,ht,hk,_⟩:=ZR.1 hv
  rw [h t k ht] at hk
  cases hk
theorem Ew {S:List yc}{E:List xR}(hE:∀o∈Yp p m s,o∈E)(hS:∀x∈QM p m s,x∈S):k7 p m S E s:=by
 unfold Yp at hE
 unfold QM at hS
 refine ⟨λhe=>?_,λhe hs=>?_,λt k ht hk=>?_⟩
 ·rw [if_pos he] at hE;exact hE _ (by simp)
 ·rw [if_neg (by rw [he];decide),if_pos (Da.2 hs)] at hE;exact hE _ (by simp)
 ·have hv:=ZR.2 ⟨t,k,ht,hk,V⟩
  have he:ended p s=false:=by
   cases he:ended p s with
   |false=>rfl
   |true=>rw [lG he t k ht] at hk;cases hk
  have hl:¬(vF p m s).length=0:=λh=>by rw [JW h] at hv;cases hv
  rw [if_neg (by rw [he];decide),if_neg hl] at hE
  rw [if_neg (by rw [he];decide)] at hS
  unfold wj
  split
  ·rename_i hf
   refine hE _ (List.mem_flatMap.2 ⟨_,hv,?_⟩)
   unfold QP
   rw [Uj,if_pos hf]
   simp
  ·rename_i hf
   refine hS _ (List.mem_flatMap.2 ⟨_,hv,?_⟩)
   unfold QK
   rw [Uj,if_neg hf]
   simp
theorem ur (hr:Reach p m s){o:xR}(ho:o∈Yp p m s):jq p m o:=by
 unfold Yp at ho
 split at ho
 ·rename_i he
  obtain rfl:o=_:=by simpa using ho
  exact .done hr he
 ·rename_i he
  have he' :ended p s=false:=by simpa using he
  split at ho
  ·rename_i hl
   obtain rfl:o=_:=by simpa using ho
   exact .stuck hr he' (Da.1 hl)
  ·obtain ⟨v,hv,ho⟩:=List.mem_flatMap.1 ho
   obtain ⟨t,k,ht,hk,rfl⟩:=ZR.1 hv
   unfold QP at ho
   rw [Uj] at ho
   split at ho
   ·rename_i hf
    obtain rfl:o=_:=by simpa using ho
    exact .zq hr ht hk hf
   ·cases ho
theorem nv (hr:Reach p m s){x:yc}(hx:x∈QM p m s):Reach p m x/\x.zd.length<=s.zd.length+2:=by
 unfold QM at hx
 split at hx
 ·cases hx
 ·obtain ⟨v,hv,hx⟩:=List.mem_flatMap.1 hx
  obtain ⟨t,k,ht,hk,rfl⟩:=ZR.1 hv
  unfold QK at hx
  rw [Uj] at hx
  split at hx
  ·cases hx
  ·rename_i hf
   obtain rfl:x=_:=by simpa using hx
   have hf' :(stepT p m s t k).zq=false:=by simpa using hf
   refine ⟨.step hr ht hk hf',?_⟩
   exact D7 m t (nth p.code t) k (s.view t)
theorem Kp {α β:Type}{f:α->List β}{c:Nat} :∀ {l:List α},(∀x∈l,(f x).length<=c)->(l.flatMap f).length<=c*l.length
 | [],_=>by simp
 |x::l,h=>by
  have h1:=h x (by simp)
  have h2:=Kp (l:=l) (f:=f) (c:=c) λy hy=>h y (by simp [hy])
  rw [kF,yX,yY,Nat.mul_add]
  omega
theorem u7 (v:Mv):(QP p m s v).length<=1:=by unfold QP;split<;>simp
theorem ui (v:Mv):(QK p m s v).length<=1:=by unfold QK;split<;>simp
structure BI (p:Pg)(m:Int)(S:List yc)(F:yc->Prop)(E:List xR):Prop where
 start:yr p∈S
 reach:∀s∈S,Reach p m s
 nd:S.Nodup
 pr:∀s∈S,s.zd.length<=2*S.length
 sound:∀o∈E,jq p m o
 done:∀s∈S,F s\/k7 p m S E s
variable {S:List yc}{F F' :yc->Prop}{E E' :List xR}
theorem BI.first (s:yc)(hs:s=yr p):BI p m [s] (λx=>x=s) []:=by
 subst hs
 refine ⟨by simp,λx hx=>?_,by simp,λx hx=>?_,λo ho=>(by cases ho),λx hx=> .inl (by simpa using hx)⟩
 ·obtain rfl:x=yr p:=by simpa using hx
  exact .start
 ·obtain rfl:x=yr p:=by simpa using hx
  exact wX _
theorem BI.add (h:BI p m S F E){x:yc}(hr:Reach p m x)(hx:x∉S)(hp:x.zd.length<=2*(S.length+1)):BI p m (S++ [x]) (λy=>F y\/y=x) E:=by
 refine ⟨by simp [h.start],λy hy=>?_,?_,λy hy=>?_,h.sound,λy hy=>?_⟩
 ·rcases List.mem_append.1 hy with hy|hy
  ·exact h.reach y hy
  ·obtain rfl:y=x:=by simpa using hy
   exact hr
 ·rw [List.nodup_append]
  exact ⟨h.nd,by simp,λy hy z hz e=>by
   obtain rfl:z=x:=by simpa using hz
   exact hx (e▸hy)⟩
 ·rw [yX]
  show _<=2*(S.length+1)
  rcases List.mem_append.1 hy with hy|hy
  ·have:=h.pr y hy;omega
  ·obtain rfl:y=x:=by simpa using hy
   exact hp
 ·rcases List.mem_append.1 hy with hy|hy
  ·rcases h.done y hy with h1|h1
   ·exact .inl (.inl h1)
   ·exact .inr (h1.mono (λz hz=>by simp [hz]) λ_ h=>h)
  ·exact .inl (.inr (by simpa using hy))
theorem BI.outs (h:BI p m S F E)(hs:∀o∈E',jq p m o)(hE:∀o∈E,o∈E'):BI p m S F E' :=
 ⟨h.start,h.reach,h.nd,h.pr,hs,λs hs=>(h.done s hs).imp_right λh1=>h1.mono (λ_ h=>h) hE⟩
theorem BI.mono (h:BI p m S F E)(hF:∀s∈S,F s->F' s\/k7 p m S E s):BI p m S F' E:=
 ⟨h.start,h.reach,h.nd,h.pr,h.sound,λs hs=>(h.done s hs).elim (hF s hs) .inr⟩
theorem BI.zF (h:BI p m S F E)(hF:∀s∈S,¬F s):∀s,s∈S↔Reach p m s:=by
 intro s
 refine ⟨h.reach s,λhs=>?_⟩
 induction hs with
 |start=>exact h.start
 | @step s t k hr ht hk hf ih=>
  have:=((h.done s ih).resolve_left (hF s ih)).Zi t k ht hk
  unfold wj at this
  rw [if_neg (by rw [hf];decide)] at this
  exact this
theorem BI.all (h:BI p m S F E)(hF:∀s∈S,¬F s):∀o,o∈E↔jq p m o:=by
 intro o
 refine ⟨h.sound o,λho=>?_⟩
 have zO:=h.zF hF
 have hex:∀s,Reach p m s->k7 p m S E s:=λs hs=>(h.done s ((zO s).2 hs)).resolve_left (hF s ((zO s).2 hs))
 cases ho with
 |done hr he=>exact (hex _ hr).done he
 |stuck hr he hst=>exact (hex _ hr).stuck he hst
 |zq hr ht hk hf=>
  have:=(hex _ hr).Zi _ _ ht hk
  unfold wj at this
  rwa [if_pos hf] at this
theorem BI.x5 (h:BI p m S F E)(hl:4000<S.length):pK p m:=⟨S,h.nd,h.reach,hl⟩
theorem BI.small (h:BI p m S F E)(hF:∀s∈S,¬F s)(hl:S.length<=4000):¬pK p m:=by
 rintro ⟨T,h1,h2,h3⟩
 have:=VX h1 λs hs=>(h.zF hF s).2 (h2 s hs)
 omega
end
structure PX {F:gN}(code:Ls (Ls Ins))(zi:Ls Int)(Lk R:Nat)(x:yz F):Prop where
 reach:Reach (ya code zi Lk R) F.m x.st
 rl:x.rows.length=code.l.length
 ql:x.qs.length=code.l.length
 pn:x.zd.l.length<=90000
section
variable {F:gN}{code:Ls (Ls Ins)}{zi:Ls Int}{Lk R:Nat}{x:yz F}
theorem KV {t:Nat}(h:t<x.rows.length):x.st.view t=⟨(nth x.rows t).pc,(nth x.rows t).ze.l,nth x.qs t,x.words.l,x.owner.l,x.zd.l,false⟩:=V0 h
theorem PX.key (zR:yJ (ya code zi Lk R))(hR:pH (ya code zi Lk R))(h:PX code zi Lk R x):Mz x:=by
 obtain ⟨iL,qg,aV,gv,hR2⟩:=ga zR
 have hf:=ZN zR h.reach h.rl
 have zdm:=rN zR
 have hr:=h.reach.r64 hR (by rw [x8];omega)
 have hv:∀t,t<x.rows.length->UH ⟨(nth x.rows t).pc,(nth x.rows t).ze.l,nth x.qs t,x.words.l,x.owner.l,x.zd.l,false⟩:=λt ht=>by
  have:=hr t
  rwa [KV ht] at this
 have h0:0<x.rows.length:=by rw [h.rl];omega
 have hq:∀l∈x.qs,∃t,t<x.rows.length/\l=nth x.qs t:=λl hl=>by
  obtain ⟨t,ht,e⟩:=List.mem_iff_getElem.1 hl
  exact ⟨t,by rw [h.rl,<-h.ql];exact ht,by rw [qq _ _ ht];exact e.symm⟩
 refine ⟨by rw [h.rl];exact qg,λt ht=>?_,λt ht=>(hv t ht).ze,λt ht=>?_,(hv 0 h0).zd,by have:=h.pn;omega,by have:=hf.ZU;omega,by have:=hf.Vr;omega,by rw [h.ql];exact qg,λl hl=>?_,(hv 0 h0).words,(hv 0 h0).owner,λl hl=>?_⟩
 ·have h1:=hf.JZ t (by rw [<-h.rl];exact ht)
  have h2:=zdm t (by rw [<-h.rl];exact ht)
  rw [QD ht] at h1
  obtain ⟨h3,h4⟩:=h1
  change 0<=(nth x.rows t).pc at h3
  change (nth x.rows t).pc<=_ at h4
  unfold gy
  omega
 ·have:=hf.Uu t (by rw [<-h.rl];exact ht)
  omega
 ·obtain ⟨t,ht,rfl⟩:=hq l hl
  exact hf.Dh t (by rw [<-h.rl];exact ht)
 ·obtain ⟨t,ht,rfl⟩:=hq l hl
  exact (hv t ht).wait
end
theorem Sh.mZ {α:Type}[zz α][Flat α]{W w:World}{L:List zZ}{E:TypeId}{s:Ls α}(h:Sh (λ_=>False) W w L)(i:Nat)(hi:L[i]? =some (.own E s)):∀b,s.on b->W.heap.size<=b:=λb hb=>by
 have hm:=zy hi
 rcases qt (h.ok _ hm) hb with h1|h1
 ·exact (h.Zj _ hm b h1).resolve_left id
 ·exact Flat.qh h1
def yz.B {F:gN}(x:yz F)(zq:Bool):List zZ:=
  [.zM x.g 173 [.iface (F.mem x.i).T (.pointer (some (F.mem x.i).u)),.pointer (some ⟨x.gp,0,none⟩),x.vt,x.zd.v,.bool zq],.own 189 (⟨x.vt,x.rows.map q6.toQ⟩:Ls jn),.x5 (kg 3 x.rows),.own 3 x.zd,
   .zM (F.mem x.i).g0 182 [x.words.v,x.owner.v],.own 3 x.words,.own 3 x.owner,(F.mem x.i).X x.q]
theorem Db {m:Int}{code:Ls (Ls Ins)}{zl:List jn}{qs:List (List Wt)}{owner:List Int}(Dh:∀t,t<code.l.length->(nth qs t).length<=3)(n:Nat)(hn:n<=code.l.length):(Ym m code zl qs owner n).length<=4*n:=by
 induction n with
 |zero=>simp [Ym]
 |succ n ih=>
  rw [Vl,yX]
  have h1:=ih za
  have h2:=Dh n za
  have h3:=Eg (m:=m) (code:=code) (zl:=zl) (q:=qs) (owner:=owner) (t:=n)
  omega
section
variable {p:Pg}{m:Int}{s:yc}
theorem ny (he:ended p s=true):Yp p m s= [⟨0,s.words,s.zd⟩]/\QM p m s= []:=by
 unfold Yp QM
 rw [if_pos he,if_pos he]
 exact ⟨V,V⟩
theorem nu (he:ended p s=false)(hl:(vF p m s).length=0):Yp p m s= [⟨2,s.words,s.zd⟩]/\QM p m s= []:=by
 unfold Yp QM
 have hn:¬ended p s=true:=by rw [he];decide
 rw [if_neg hn,if_pos hl,if_neg hn,JW hl]
 exact ⟨V,V⟩
theorem Ob (he:ended p s=false)(hl:¬(vF p m s).length=0):Yp p m s=(vF p m s).flatMap (QP p m s)/\QM p m s=(vF p m s).flatMap (QK p m s):=by
 unfold Yp QM
 have hn:¬ended p s=true:=by rw [he];decide
 rw [if_neg hn,if_neg hl,if_neg hn]
 exact ⟨V,V⟩
theorem zbv {l:List Mv}{k t j:Nat}(hk:k<l.length)(e:nth l k=⟨(t:Int),(j:Int)-1⟩)(hf:(stepT p m s t j).zq=true):(l.take (k+1)).flatMap (QP p m s)=(l.take k).flatMap (QP p m s)++ [⟨1,[],(stepT p m s t j).zd⟩]/\(l.take (k+1)).flatMap (QK p m s)=(l.take k).flatMap (QK p m s):=by
 rw [zS _ _ hk,XR,XR,e]
 simp only [kF,JR,k6]
 unfold QP QK
 rw [Uj,if_pos hf,if_pos hf]
 exact ⟨V,k6 _⟩
theorem zbw {l:List Mv}{k t j:Nat}(hk:k<l.length)(e:nth l k=⟨(t:Int),(j:Int)-1⟩)(hf:(stepT p m s t j).zq=false):(l.take (k+1)).flatMap (QP p m s)=(l.take k).flatMap (QP p m s)/\(l.take (k+1)).flatMap (QK p m s)=(l.take k).flatMap (QK p m s)++ [s.yt t (stepT p m s t j)]:=by
 rw [zS _ _ hk,XR,XR,e]
 simp only [kF,JR,k6]
 unfold QP QK
 rw [Uj,if_neg (by rw [hf];decide),if_neg (by rw [hf];decide)]
 exact ⟨k6 _,by rw [UL]⟩
end
theorem zbq {b:Nat}(h:(⟨.slice none 0 0,[]⟩:Ls Int).on b):False:=by
 rcases h with ⟨h,_⟩|⟨_,h,_⟩<;>exact absurd h (by simp)
theorem AL {F:gN}(hF:YH Tryz.prog 182 3 204 5 141 F)(x:yz F)(code:Ls (Ls Ins))(zi:Ls Int)(Lk R:Nat)(pw:Value)(W:World)(hX:x.Rd W)(hP:xB W x.gp 25 #[code.v,pw,.int .i64 ((Lk:Nat):Int),.int .i64 ((R:Nat):Int)])(qY:code.At W)(zR:yJ (ya code zi Lk R))(h:PX code zi Lk R x):
  zP Tryz.prog 121 [.pointer (some ⟨x.g,0,none⟩)] W (λv w' =>∃s:Ls Mv,v=s.v/\s.l=vF (ya code zi Lk R) F.m x.st/\s.l.length<=16/\qM W w' [.own 179 s]):=by
 have hf:=ZN zR h.reach h.rl
 have hM:=hF.ok x.i
 have Wk:=h.rl
 refine zP.mono (CX (F.mem x.i) x.g x.gp code ⟨x.vt,x.rows.map q6.toQ⟩ x.words x.owner x.q pw x.zd.v Lk R false W hM hX.zM hP qY hX.zl hX.mem h.ql hf.Dh (by show (x.rows.map q6.toQ).length=_;rw [yw];exact Wk) hf.JZ hf.gv hf.Vs (ga zR).2.1) ?_
 rintro v w' ⟨s,rfl,e,hs⟩
 refine ⟨s,V,?_,(by rw [e];have h9:=Db (m:=(F.mem x.i).m) (zl:=x.rows.map q6.toQ) (owner:=x.owner.l) hf.Dh _ (qC _);have h8:=(ga zR).2.1;have h7:(Ym (F.mem x.i).m code (x.rows.map q6.toQ) x.qs x.owner.l code.l.length).length<=16:=za;exact h7),hs⟩
 rw [e,hF.hm]
 exact aM (zd:=x.zd.l) (words:=x.words.l) Wk
theorem AM {F:gN}(hF:YH Tryz.prog 182 3 204 5 141 F)(x:yz F)(code:Ls (Ls Ins))(zi:Ls Int)(Lk R:Nat)(pw:Value)(W:World)(hX:x.Rd W)(hP:xB W x.gp 25 #[code.v,pw,.int .i64 ((Lk:Nat):Int),.int .i64 ((R:Nat):Int)])(qY:code.At W)(zR:yJ (ya code zi Lk R))(h:PX code zi Lk R x):
  zP Tryz.prog 122 [.pointer (some ⟨x.g,0,none⟩)] W (λv w' =>v= .bool (ended (ya code zi Lk R) x.st)/\qM W w' []):=by
 have hf:=ZN zR h.reach h.rl
 have hM:=hF.ok x.i
 have Wk:=h.rl
 refine zP.mono (C0 (F.mem x.i) x.g x.gp code ⟨x.vt,x.rows.map q6.toQ⟩ x.words x.owner x.q pw x.zd.v Lk R false W hM hX.zM hP qY hX.zl hX.mem h.ql hf.Dh (by show (x.rows.map q6.toQ).length=_;rw [yw];exact Wk) hf.JZ (ga zR).2.1) ?_
 rintro v w' ⟨rfl,hs⟩
 refine ⟨?_,hs⟩
 congr 1
 exact Aa Wk
theorem ef {F:gN}(hF:YH Tryz.prog 182 3 204 5 141 F)(x:yz F)(code:Ls (Ls Ins))(zi:Ls Int)(Lk R:Nat)(pw:Value)(W:World)(hX:x.Rd W)(hP:xB W x.gp 25 #[code.v,pw,.int .i64 ((Lk:Nat):Int),.int .i64 ((R:Nat):Int)])(qY:code.At W)(zR:yJ (ya code zi Lk R))(h:PX code zi Lk R x):
  zP Tryz.prog 120 [.pointer (some ⟨x.g,0,none⟩)] W (λv w' =>∃s:Ls Int,v=s.v/\s.l=x.words.l/\qM W w' [.own 3 s]):=by
 have hf:=ZN zR h.reach h.rl
 have h1:=hf.ZU
 have h2:=(ga zR).2.2.1
 exact CQ (F.mem x.i) x.g x.gp code ⟨x.vt,x.rows.map q6.toQ⟩ x.words x.owner x.q pw x.zd.v Lk R false W (hF.ok x.i) hX.zM hP qY hX.zl hX.mem za
theorem zfF {F:gN}(hF:YH Tryz.prog 182 3 204 5 141 F)(K:Nat->Prop)(y:yz F)(code:Ls (Ls Ins))(zi:Ls Int)(Lk R:Nat)(pw:Value)(t k:Nat)(gp:Nat)(W:World)(hg:y.gp=gp)(hS:Sh K W W (y.B false++ [.zx gp 25 [code.v,pw,.int .i64 ((Lk:Nat):Int),.int .i64 ((R:Nat):Int)],.at_ code]))(zR:yJ (ya code zi Lk R))(h:PX code zi Lk R y)(ht:t<code.l.length)(Xf:xp F.m (nth (ya code zi Lk R).code t) (y.st.view t) k=true):
  zP Tryz.prog 123 [.pointer (some ⟨y.g,0,none⟩),.agg #[.int .i64 ((t:Nat):Int),.int .i64 (((k:Nat):Int)-1)]] W (λv w' =>v= .tuple #[]/\∃(y' :yz F) (zq:Bool),y'.g=y.g/\y'.gp=gp/\y'.rows.length=code.l.length/\y'.qs.length=code.l.length/\
   zq=(stepT (ya code zi Lk R) F.m y.st t k).zq/\y'.zd.l=(stepT (ya code zi Lk R) F.m y.st t k).zd/\y'.st=y.st.yt t (stepT (ya code zi Lk R) F.m y.st t k)/\Sh K W w' (y'.B zq++ [.zx gp 25 [code.v,pw,.int .i64 ((Lk:Nat):Int),.int .i64 ((R:Nat):Int)],.at_ code])):=by
 subst hg
 obtain ⟨iL,qg,aV,zq8,hR2⟩:=ga zR
 have hf:=ZN zR h.reach h.rl
 have zdm:=rN zR t ht
 have hM:=hF.ok y.i
 have uF:t<y.rows.length:=by rw [h.rl];exact ht
 have si:t<y.qs.length:=by rw [h.ql];exact ht
 have JZ:=hf.JZ t ht
 rw [QD uF] at JZ
 have hm:=hF.hm y.i
 rw [jj ht,KV uF] at Xf
 have Is:k=0->GV (nth y.rows t).ze.l.length y.words.l.length y.owner.l.length (zo (nth code.l t).l (nth y.rows t).pc):=λss=>by
  rw [hf.Uu t ht,hf.ZU,hf.Vr]
  exact nD zR ht JZ.1 (tg Xf ss).1
 have h1:Sh K W W (NC (F.mem y.i) y.g y.gp [code.v,pw,.int .i64 ((Lk:Nat):Int),.int .i64 ((R:Nat):Int)] y.vt y.rows y.zd y.words y.owner y.q false code):=hS.zY [0,8,1,2,3,4,5,6,7,9] V
 refine zP.mono (C1 K (F.mem y.i) y.g y.gp code y.vt y.rows y.zd y.words y.owner y.q pw Lk R false t k W hM h1 uF za si (hf.Dh t ht) (hf.nH t ht) hf.Vs ht JZ za (by rw [hm];exact Xf) (by have:=h.pn;omega) (hf.Df t ht) Is) ?_
 rintro v w' ⟨rfl,Zb,zB,zA,qT,q',vX,x,z,hz,rfl,e1,e2,e3,e4,e5,e6,e7,hs⟩
 have hz' :z=stepT (ya code zi Lk R) F.m y.st t k:=by
  unfold stepT
  rw [hz,hm,jj ht,KV uF]
  rfl
 refine ⟨V,⟨y.gp,y.i,q',y.g,y.vt,y.rows.set t x,qT,zB,zA⟩,vX,V,V,by show (y.rows.set t x).length=_;rw [XP];exact h.rl,?_,by rw [<-hz'];exact e7,by rw [<-hz'];exact e6,?_,hs.zY [0,2,3,4,5,6,7,8,1,9] V⟩
 ·show ((F.mem y.i).qs q').length=_
  rw [e3,XP];exact h.ql
 ·rw [<-hz']
  show Ql (y.rows.set t x) ((F.mem y.i).qs q') zB.l zA.l qT.l=_
  rw [e3,e4,e5,e6]
  exact Ef uF si e1 e2
theorem zbx (F:gN)(x:yz F)(code:Ls (Ls Ins))(zi:Ls Int)(Lk R:Nat)(pw:Value)(W:World)(hF:YH Tryz.prog 182 3 204 5 141 F)(hX:x.Rd W)(hP:xB W x.gp 25 #[code.v,pw,.int .i64 ((Lk:Nat):Int),.int .i64 ((R:Nat):Int)])(qY:code.At W)(zR:yJ (ya code zi Lk R))(hR:pH (ya code zi Lk R))(hx:PX code zi Lk R x):
    zP Tryz.prog 102 [.pointer (some ⟨x.g,0,none⟩)] W (λv w' =>∃(os:Ls zC) (ns:Ls (yz F)),v= .agg #[ns.v,os.v]/\os.l.map zC.out=Yp (ya code zi Lk R) F.m x.st/\ns.l.map yz.st=QM (ya code zi Lk R) F.m x.st/\(∀y∈ns.l,y.gp=x.gp/\y.rows.length=code.l.length/\y.qs.length=code.l.length/\∀b,zz.on y b->W.heap.size<=b)/\(∀o∈os.l,∀b,zz.on o b->W.heap.size<=b\/x.zd.on b)/\qM W w' [.own 39 os,.own 85 ns]):=by
 have hk:=hx.key zR hR
 refine gen Tryz.func102 Tryz.ntmps102 (qM.ext (by intro A hA;simp only [z6,qd,or_false] at hA;rcases hA with rfl|rfl|rfl|rfl|rfl|rfl|rfl|rfl|rfl|rfl;exact hX.zM;exact hX.zl;exact hX.row;exact hX.zd;exact hX.mem.zM;exact hX.mem.wa;exact hX.mem.oa;exact (λA hA=>by obtain rfl:=List.mem_singleton.1 hA;exact hX.mem.x);exact hP;exact qY) (by intro A hA b hb;simp only [z6,qd,or_false] at hA;rcases hA with rfl|rfl|rfl|rfl|rfl|rfl|rfl|rfl|rfl|rfl<;>exact hb):Sh (λ_=>False) W W [.zx x.g 173 [.iface (F.mem x.i).T (.pointer (some (F.mem x.i).u)),.pointer (some ⟨x.gp,0,none⟩),x.vt,x.zd.v,.bool false],.at_ (⟨x.vt,x.rows.map q6.toQ⟩:Ls jn),.KR x.rows,.at_ x.zd,.zx (F.mem x.i).g0 182 [x.words.v,x.owner.v],.at_ x.words,.at_ x.owner,.ro [(F.mem x.i).X x.q],.zx x.gp 25 [code.v,pw,.int .i64 ((Lk:Nat):Int),.int .i64 ((R:Nat):Int)],.at_ code]) V λjP z7=>gG z7<|sK λ_ kz=>Q2 Yj V λxX=>nK kz<|sK λ_ gu=>zn (oM 1 V<|.nl)<|λHT Hz xr=>zL (zD xr zeu V V V V V (AL hF x code zi Lk R pw _ ⟨xr.sh.zx 1 V,xr.sh.at 2 V,(λr hr=>(xr.sh.ok (.KR x.rows) (zy (i:=3) V)) r hr),xr.sh.at 4 V,⟨xr.sh.zx 5 V,xr.sh.at 6 V,xr.sh.at 7 V,(xr.sh.ok _ (zy (i:=8) V)) _ (List.mem_singleton.2 V)⟩⟩ (xr.sh.zx 9 V) (xr.sh.at 10 V) zR hx)) (zg V _) ?_;clear z7
 rintro BK Hy ⟨_,⟨ml,rfl,U4,zw2,Ge⟩,IQ⟩
 have w9:=(⟨IQ,xr.sh.call Ge (by intro A hA b hb;simp only [z6,qd,or_false] at hA;first|(subst hA;exact Flat.qh hb)|(rcases hA with rfl|rfl|rfl|rfl|rfl|rfl|rfl|rfl<;>first|exact (hb:False).elim|exact Flat.qh hb|exact YT hb|exact ((hF.ok _).mh _ _ hb).elim))⟩:St 68 (λ_=>False) W BK Hy _ _)
 clear IQ Ge
 clear xr
 refine gG w9<|zn (oM 1 V<|.nl)<|nK gu<|gK λ_ Us=>gB<|sK λ_ JH=>zn (oM 1 V<|.nl)<|λa20 mw wV=>zL (zD wV zet V V V V V (AM hF x code zi Lk R pw _ ⟨wV.sh.zx 2 V,wV.sh.at 3 V,(λr hr=>(wV.sh.ok (.KR x.rows) (zy (i:=4) V)) r hr),wV.sh.at 5 V,⟨wV.sh.zx 6 V,wV.sh.at 7 V,wV.sh.at 8 V,(wV.sh.ok _ (zy (i:=9) V)) _ (List.mem_singleton.2 V)⟩⟩ (wV.sh.zx 10 V) (wV.sh.at 11 V) zR hx)) (zg V _) ?_;clear w9
 rintro a21 Au ⟨_,⟨rfl,zhK⟩,zj0⟩
 have Wv:St 68 (λ_=>False) W a21 Au _ _:=⟨zj0,wV.sh.jv zhK⟩
 clear zj0 zhK
 clear wV
 refine gG Wv<|zn (oM 1 V<|.nl)<|nK JH<|?_;clear Wv
 refine Xl V (λGp=>?_) λGp=>?_
 ·skip
  refine gK λ_ V6=>gF [0,2,3,8,9,10,11,12] V<|λa25 tw Wu=>Wz ((λΦ Ψ S a w=>(S 1=false/\S 7=false/\S 9=false/\kH 68 S Φ Ψ a/\Sh (λ_=>False) W w [.own 179 ml,.zM xX 153 [(.slice none 0 0),(.slice none 0 0)],.zx x.g 173 [.iface (F.mem x.i).T (.pointer (some (F.mem x.i).u)),.pointer (some ⟨x.gp,0,none⟩),x.vt,x.zd.v,.bool false],.at_ (⟨x.vt,x.rows.map q6.toQ⟩:Ls jn),.KR x.rows,.at_ x.zd,.zx (F.mem x.i).g0 182 [x.words.v,x.owner.v],.at_ x.words,.at_ x.owner,.ro [(F.mem x.i).X x.q],.zx x.gp 25 [code.v,pw,.int .i64 ((Lk:Nat):Int),.int .i64 ((R:Nat):Int)],.at_ code])\/(S 1=true/\S 7=false/\S 9=false/\∃(yn:Ls Int),(yn.l=x.words.l)/\(∀b,yn.on b->W.heap.size<=b)/\kH 68 S Φ (Ψ++ [(1,14,yn.v),(6,19,.agg #[.int .i64 0,yn.v,x.zd.v])]) a/\Sh (λ_=>False) W w [.own 3 yn,.own 179 ml,.zM xX 153 [(.slice none 0 0),(.slice none 0 0)],.zx x.g 173 [.iface (F.mem x.i).T (.pointer (some (F.mem x.i).u)),.pointer (some ⟨x.gp,0,none⟩),x.vt,x.zd.v,.bool false],.at_ (⟨x.vt,x.rows.map q6.toQ⟩:Ls jn),.KR x.rows,.at_ x.zd,.zx (F.mem x.i).g0 182 [x.words.v,x.owner.v],.at_ x.words,.at_ x.owner,.ro [(F.mem x.i).X x.q],.zx x.gp 25 [code.v,pw,.int .i64 ((Lk:Nat):Int),.int .i64 ((R:Nat):Int)],.at_ code])\/(S 1=true/\S 7=true/\S 9=false/\∃(yn:Ls Int) (gY:Value),(yn.l=x.words.l)/\(∀b,yn.on b->W.heap.size<=b)/\kH 68 S Φ (Ψ++ [(1,14,yn.v),(6,19,.agg #[.int .i64 0,yn.v,x.zd.v]),(7,20,gY),(8,21,.agg #[(.slice none 0 0),gY])]) a/\Sh (λ_=>False) W w [.own 39 (⟨gY,[(⟨0,yn,x.zd⟩:zC)]⟩:Ls zC),.at_ yn,.own 179 ml,.zM xX 153 [(.slice none 0 0),(.slice none 0 0)],.zx x.g 173 [.iface (F.mem x.i).T (.pointer (some (F.mem x.i).u)),.pointer (some ⟨x.gp,0,none⟩),x.vt,x.zd.v,.bool false],.at_ (⟨x.vt,x.rows.map q6.toQ⟩:Ls jn),.KR x.rows,.at_ x.zd,.zx (F.mem x.i).g0 182 [x.words.v,x.owner.v],.at_ x.words,.at_ x.owner,.ro [(F.mem x.i).X x.q],.zx x.gp 25 [code.v,pw,.int .i64 ((Lk:Nat):Int),.int .i64 ((R:Nat):Int)],.at_ code])\/(S 1=true/\S 7=true/\S 9=true/\∃(yn:Ls Int) (gY:Value),(yn.l=x.words.l)/\(∀b,yn.on b->W.heap.size<=b)/\kH 68 S Φ (Ψ++ [(1,14,yn.v),(6,19,.agg #[.int .i64 0,yn.v,x.zd.v]),(7,20,gY),(8,21,.agg #[(.slice none 0 0),gY])]) a/\Sh (λ_=>False) W w [.own 39 (⟨gY,[(⟨0,yn,x.zd⟩:zC)]⟩:Ls zC),.at_ yn,.own 179 ml,.zM xX 153 [(.slice none 0 0),gY],.zx x.g 173 [.iface (F.mem x.i).T (.pointer (some (F.mem x.i).u)),.pointer (some ⟨x.gp,0,none⟩),x.vt,x.zd.v,.bool false],.at_ (⟨x.vt,x.rows.map q6.toQ⟩:Ls jn),.KR x.rows,.at_ x.zd,.zx (F.mem x.i).g0 182 [x.words.v,x.owner.v],.at_ x.words,.at_ x.owner,.ro [(F.mem x.i).X x.q],.zx x.gp 25 [code.v,pw,.int .i64 ((Lk:Nat):Int),.int .i64 ((R:Nat):Int)],.at_ code])) [(0,.pointer (some ⟨x.g,0,none⟩)),(2,.pointer (some ⟨xX,0,none⟩)),(3,ml.v),(8,.pointer (some ⟨x.g,0,none⟩)),(9,ml.v),(10,.bool (ended (ya code zi Lk R) x.st)),(11,.pointer (some ⟨x.g,0,none⟩)),(12,.bool (ended (ya code zi Lk R) x.st))] [(0,13,.pointer (some ⟨x.g,0,none⟩)),(2,15,.pointer (some ⟨x.g,0,none⟩)),(3,16,.pointer (some ⟨x.g,0,none⟩)),(4,17,.pointer (some ⟨x.g,3,none⟩)),(5,18,x.zd.v)]) zb zb (Or.inl (⟨V,V,V,kH.start Wu.fr,Wu.sh.drew⟩)) ?_ ?_
  ·intro S i o ho qn qg zX a w hI
   clear Wu
   rcases i with _|_|_|_|_|_|_|_|_|_|i
   ·obtain rfl:_=o:=qA ho
    rcases hI with ⟨yy,yA,qD,φ,ς⟩|⟨yy,_⟩|⟨yy,_⟩|⟨yy,_⟩
    ·exact sq φ φ.yv ς (zG V V) 0 V V V V V V λa hg=>Or.inl (⟨un V yy,un V yA,un V qD,hg,ς⟩)
    ·exact zh (cA qg 1 0 V yy) qn
    ·exact zh (cA qg 1 0 V yy) qn
    ·exact zh (cA qg 1 0 V yy) qn
   ·obtain rfl:_=o:=qA ho
    have BE:S 0=true:=zK zX 0 V V
    rcases hI with ⟨yy,yA,qD,φ,ς⟩|⟨yy,_⟩|⟨yy,_⟩|⟨yy,_⟩
    ·have hs:=St.mk (Fr.cons φ.yv (φ.at_ 0 0 13 _ V BE)) ς
     refine yG (zD hs Mf V V V V V (ef hF x code zi Lk R pw _ ⟨hs.sh.zx 2 V,hs.sh.at 3 V,(λr hr=>(hs.sh.ok (.KR x.rows) (zy (i:=4) V)) r hr),hs.sh.at 5 V,⟨hs.sh.zx 6 V,hs.sh.at 7 V,hs.sh.at 8 V,(hs.sh.ok _ (zy (i:=9) V)) _ (List.mem_singleton.2 V)⟩⟩ (hs.sh.zx 10 V) (hs.sh.at 11 V) zR hx)) (zg V _) ?_
     rintro a38 w38 ⟨_,⟨zfK,rfl,zg1,uI⟩,zjX⟩ ⟨v0,zpB⟩
     have ziz:∀b,zfK.on b->W.heap.size<=b:=λb hb=>vZ hs.sh.J6.size (uI.mZ 0 V b hb)
     have dW:=(⟨zjX,hs.sh.call uI (by intro A hA b hb;simp only [z6,qd,or_false] at hA;first|(subst hA;exact Flat.qh hb)|(rcases hA with rfl|rfl|rfl|rfl|rfl|rfl|rfl|rfl<;>first|exact (hb:False).elim|exact Flat.qh hb|exact YT hb|exact ((hF.ok _).mh _ _ hb).elim))⟩:St 68 (λ_=>False) W a38 w38 _ _)
     clear zjX uI
     exact Or.inr (Or.inl (⟨qV _ _,un V yA,un V qD,zfK,zg1,ziz,φ.wU qg qn [0,1,2,3,4] zb zb zpB dW.fr.defers (dW.fr.at_ 14 _ V) 5 V V V V,(dW.sh.zY [0,1,2,3,4,5,6,7,8,9,10,11,12] V)⟩))
    ·exact zh yy qn
    ·exact zh yy qn
    ·exact zh yy qn
   ·obtain rfl:_=o:=qA ho
    rcases hI with ⟨yy,yA,qD,φ,ς⟩|⟨yy,yA,qD,yn,jJ,jL,φ,ς⟩|⟨_,yA,_⟩|⟨_,yA,_⟩
    ·exact sq φ φ.yv ς (zG V V) 1 V V V V V V λa hg=>Or.inl (⟨un V yy,un V yA,un V qD,hg,ς⟩)
    ·exact sq φ φ.yv ς (zG V V) 1 V V V V V V λa hg=>Or.inr (Or.inl (⟨un V yy,un V yA,un V qD,yn,jJ,jL,hg,ς⟩))
    ·exact zh (cA qg 7 2 V yA) qn
    ·exact zh (cA qg 7 2 V yA) qn
   ·obtain rfl:_=o:=qA ho
    have QI:S 2=true:=zK zX 0 V V
    rcases hI with ⟨yy,yA,qD,φ,ς⟩|⟨yy,yA,qD,yn,jJ,jL,φ,ς⟩|⟨_,yA,_⟩|⟨_,yA,_⟩
    ·exact sq φ (Fr.cons φ.yv (φ.at_ 1 2 15 _ V QI)) ς (jC V V) 2 V V V V V V λa hg=>Or.inl (⟨un V yy,un V yA,un V qD,hg,ς⟩)
    ·exact sq φ (Fr.cons φ.yv (φ.at_ 1 2 15 _ V QI)) ς (jC V V) 2 V V V V V V λa hg=>Or.inr (Or.inl (⟨un V yy,un V yA,un V qD,yn,jJ,jL,hg,ς⟩))
    ·exact zh (cA qg 7 3 V yA) qn
    ·exact zh (cA qg 7 3 V yA) qn
   ·obtain rfl:_=o:=qA ho
    have Wn:S 3=true:=zK zX 0 V V
    rcases hI with ⟨yy,yA,qD,φ,ς⟩|⟨yy,yA,qD,yn,jJ,jL,φ,ς⟩|⟨_,yA,_⟩|⟨_,yA,_⟩
    ·exact sq φ (Fr.cons φ.yv (φ.at_ 2 3 16 _ V Wn)) ς (zT (r:=3) wA V V V) 3 V V V V V V λa hg=>Or.inl (⟨un V yy,un V yA,un V qD,hg,ς⟩)
    ·exact sq φ (Fr.cons φ.yv (φ.at_ 2 3 16 _ V Wn)) ς (zT (r:=3) wA V V V) 3 V V V V V V λa hg=>Or.inr (Or.inl (⟨un V yy,un V yA,un V qD,yn,jJ,jL,hg,ς⟩))
    ·exact zh (cA qg 7 4 V yA) qn
    ·exact zh (cA qg 7 4 V yA) qn
   ·obtain rfl:_=o:=qA ho
    have XG:S 4=true:=zK zX 0 V V
    rcases hI with ⟨yy,yA,qD,φ,ς⟩|⟨yy,yA,qD,yn,jJ,jL,φ,ς⟩|⟨_,yA,_⟩|⟨_,yA,_⟩
    ·exact sq φ (Fr.cons φ.yv (φ.at_ 3 4 17 _ V XG)) ς (kh zV V V (λw h=>h.zx 2 V) V) 4 V V V V V V λa hg=>Or.inl (⟨un V yy,un V yA,un V qD,hg,ς⟩)
    ·exact sq φ (Fr.cons φ.yv (φ.at_ 3 4 17 _ V XG)) ς (kh zV V V (λw h=>h.zx 3 V) V) 4 V V V V V V λa hg=>Or.inr (Or.inl (⟨un V yy,un V yA,un V qD,yn,jJ,jL,hg,ς⟩))
    ·exact zh (cA qg 7 5 V yA) qn
    ·exact zh (cA qg 7 5 V yA) qn
   ·obtain rfl:_=o:=qA ho
    have Wo:S 1=true:=zK zX 0 V V
    have Kk:S 5=true:=zK zX 1 V V
    rcases hI with ⟨yy,_⟩|⟨yy,yA,qD,yn,jJ,jL,φ,ς⟩|⟨_,yA,_⟩|⟨_,yA,_⟩
    ·exact zh Wo yy
    ·exact sq φ (Fr.cons (Fr.cons φ.yv (φ.at_ 5 1 14 _ V Wo)) (φ.at_ 4 5 18 _ V Kk)) ς (xW (cs:= [.int .i64 0,yn.v,x.zd.v]) V V (λw h=>by obtain ⟨A48,n48,c48,(e48:x.zd.v=_)⟩:=((h.at 6 V)).form;rw [e48];obtain ⟨A47,n47,c47,(e47:yn.v=_)⟩:=((h.own 0 V)).form;rw [e47];kernel_rfl)) 6 V V V V V V λa hg=>Or.inr (Or.inl (⟨un V yy,un V yA,un V qD,yn,jJ,jL,hg,ς⟩))
    ·exact zh (cA qg 7 6 V yA) qn
    ·exact zh (cA qg 7 6 V yA) qn
   ·obtain rfl:_=o:=qA ho
    have Uw:S 6=true:=zK zX 0 V V
    rcases hI with ⟨yy,_⟩|⟨yy,yA,qD,yn,jJ,jL,φ,ς⟩|⟨_,yA,_⟩|⟨_,yA,_⟩
    ·exact zh (cA qg 6 1 V Uw) yy
    ·have hs:=St.mk (Fr.cons φ.yv (φ.at_ 6 6 19 _ V Uw)) ς
     have Ri:St _ _ _ _ _ _ _:=⟨hs.fr,hs.sh.share 0 V⟩
     refine yG (qF (n:=1) (cs:= [.int .i64 0,yn.v,x.zd.v]) ([(⟨0,yn,x.zd⟩:zC)]:List zC) Ri xc yD V V V zf V zb V (λq hq w h=>by obtain rfl:q=0:=(by simpa using hq);exact ⟨(h.at 0 V),(h.at 6 V)⟩) (λq hq b hb=>by obtain rfl:q=0:=(by simpa using hq);rcases hb with hb|hb;exact ⟨_,zy (i:=0) V,hb⟩;exact ⟨_,zy (i:=6) V,hb⟩) V V) (zg V _) ?_
     rintro a51 MC ⟨v51,YZ⟩ ⟨v0,zpx⟩
     exact Or.inr (Or.inr (Or.inl (⟨un V yy,qV _ _,un V qD,yn,v51,jJ,jL,φ.wU qg qn [0,1,2,3,4,5,6] zb zb zpx YZ.fr.defers (YZ.fr.at_ 20 _ V) 7 V V V V,(YZ.sh.zY [0,1,2,3,4,5,6,7,8,9,10,11,12,13] V)⟩)))
    ·exact zh yA qn
    ·exact zh yA qn
   ·obtain rfl:_=o:=qA ho
    have Gn:S 7=true:=zK zX 0 V V
    rcases hI with ⟨yy,_⟩|⟨_,yA,_⟩|⟨yy,yA,qD,yn,gY,jJ,jL,φ,ς⟩|⟨_,_,qD,_⟩
    ·exact zh (cA qg 7 1 V Gn) yy
    ·exact zh Gn yA
    ·exact sq φ (Fr.cons φ.yv (φ.at_ 7 7 20 _ V Gn)) ς (xW (cs:= [(.slice none 0 0),gY]) V V (λw h=>by obtain ⟨A52,n52,c52,(e52:gY=_)⟩:=((h.own 0 V)).form;rw [e52];kernel_rfl)) 8 V V V V V V λa hg=>Or.inr (Or.inr (Or.inl (⟨un V yy,un V yA,un V qD,yn,gY,jJ,jL,hg,ς⟩)))
    ·exact zh (cA qg 9 8 V qD) qn
   ·obtain rfl:_=o:=qA ho
    have AF:S 8=true:=zK zX 0 V V
    have Wo:S 1=true:=zK zX 1 V V
    have Gn:S 7=true:=zK zX 9 V V
    rcases hI with ⟨yy,_⟩|⟨_,yA,_⟩|⟨yy,yA,qD,yn,gY,jJ,jL,φ,ς⟩|⟨_,_,qD,_⟩
    ·exact zh Wo yy
    ·exact zh Gn yA
    ·have hs:=St.mk (Fr.cons φ.yv (φ.at_ 8 8 21 _ V AF)) ς
     refine yG (j3 (i:=3) (vs:= [(.slice none 0 0),gY]) (YR:= [(.slice none 0 0),gY]) hs Yj V V V V V V V (zr V (zr ((hs.sh.own 0 V)).one qx)) (y5 V) V) (zg V _) ?_
     rintro a54 w54 DL ⟨v0,zpw⟩
     exact Or.inr (Or.inr (Or.inr (⟨un V yy,un V yA,qV _ _,yn,gY,jJ,jL,φ.aK qg qn [0,1,2,3,4,5,6,7,8] zb zb zpw DL.fr.defers V,(DL.sh.zY [0,1,2,3,4,5,6,7,8,9,10,11,12,13] V)⟩)))
    ·exact zh qD qn
   · simp at ho
  intro S zO a w hI
  clear Wu
  rcases hI with ⟨yy,yA,qD,φ,ς⟩|⟨yy,yA,qD,yn,jJ,jL,φ,ς⟩|⟨yy,yA,qD,yn,gY,jJ,jL,φ,ς⟩|⟨yy,yA,qD,yn,gY,jJ,jL,φ,ς⟩
  · exact zh (zO 1 zf) yy
  · exact zh (zO 7 zf) yA
  · exact zh (zO 9 zf) qD
  have GZ:St 68 (λ_=>False) W a w _ _:=⟨φ.yv,ς⟩
  clear zO φ ς yy yA qD
  refine gG GZ<|hK V6<|gR<|uB<|uT<|λa56 P5 KE=>HW (fn:=Tryz.f102) (t:=2) (i:=3) Yj V KE V V V ?_;clear GZ
  have DK:=KE.nil (α:=yz F) 85
  clear KE
  obtain ⟨Il,Ik⟩:Yp (ya code zi Lk R) F.m x.st=_/\QM (ya code zi Lk R) F.m x.st= []:=ny Gp
  refine ⟨⟨gY,[(⟨0,yn,x.zd⟩:zC)]⟩,⟨.slice none 0 0,[]⟩,V,by rw [Il];simp only [xA,wY,zC.out,jJ];rfl,by rw [Ik];rfl,λy hy=>(by cases hy),λo ho b hb=>?_,(DK.sh.zY [1,0] V)⟩
  obtain rfl:=List.mem_singleton.1 ho
  exact hb.elim (λh=> .inl (jL b h)) (λh=> .inr h)
 refine sK λ_ k58=>y4 (aO 0 V) λzrd=>zn (oM 1 V<|wk X9 (aO 0 V) V<|KX _ 0 V<|oM 1 V<|.nl)<|nK k58<|gcd V (λzds zcy=>?_) λzds zcy=>?_
 ·skip
  refine gK λ_ k61=>gF [0,2,3,8,9,10,11,12,22,23,24,25] V<|λa63 w63 U6=>Wz ((λΦ Ψ S a w=>(S 1=false/\S 7=false/\S 9=false/\kH 68 S Φ Ψ a/\Sh (λ_=>False) W w [.own 179 ml,.zM xX 153 [(.slice none 0 0),(.slice none 0 0)],.zx x.g 173 [.iface (F.mem x.i).T (.pointer (some (F.mem x.i).u)),.pointer (some ⟨x.gp,0,none⟩),x.vt,x.zd.v,.bool false],.at_ (⟨x.vt,x.rows.map q6.toQ⟩:Ls jn),.KR x.rows,.at_ x.zd,.zx (F.mem x.i).g0 182 [x.words.v,x.owner.v],.at_ x.words,.at_ x.owner,.ro [(F.mem x.i).X x.q],.zx x.gp 25 [code.v,pw,.int .i64 ((Lk:Nat):Int),.int .i64 ((R:Nat):Int)],.at_ code])\/(S 1=true/\S 7=false/\S 9=false/\∃(ym:Ls Int),(ym.l=x.words.l)/\(∀b,ym.on b->W.heap.size<=b)/\kH 68 S Φ (Ψ++ [(1,27,ym.v),(6,32,.agg #[.int .i64 2,ym.v,x.zd.v])]) a/\Sh (λ_=>False) W w [.own 3 ym,.own 179 ml,.zM xX 153 [(.slice none 0 0),(.slice none 0 0)],.zx x.g 173 [.iface (F.mem x.i).T (.pointer (some (F.mem x.i).u)),.pointer (some ⟨x.gp,0,none⟩),x.vt,x.zd.v,.bool false],.at_ (⟨x.vt,x.rows.map q6.toQ⟩:Ls jn),.KR x.rows,.at_ x.zd,.zx (F.mem x.i).g0 182 [x.words.v,x.owner.v],.at_ x.words,.at_ x.owner,.ro [(F.mem x.i).X x.q],.zx x.gp 25 [code.v,pw,.int .i64 ((Lk:Nat):Int),.int .i64 ((R:Nat):Int)],.at_ code])\/(S 1=true/\S 7=true/\S 9=false/\∃(ym:Ls Int) (gW:Value),(ym.l=x.words.l)/\(∀b,ym.on b->W.heap.size<=b)/\kH 68 S Φ (Ψ++ [(1,27,ym.v),(6,32,.agg #[.int .i64 2,ym.v,x.zd.v]),(7,33,gW),(8,34,.agg #[(.slice none 0 0),gW])]) a/\Sh (λ_=>False) W w [.own 39 (⟨gW,[(⟨2,ym,x.zd⟩:zC)]⟩:Ls zC),.at_ ym,.own 179 ml,.zM xX 153 [(.slice none 0 0),(.slice none 0 0)],.zx x.g 173 [.iface (F.mem x.i).T (.pointer (some (F.mem x.i).u)),.pointer (some ⟨x.gp,0,none⟩),x.vt,x.zd.v,.bool false],.at_ (⟨x.vt,x.rows.map q6.toQ⟩:Ls jn),.KR x.rows,.at_ x.zd,.zx (F.mem x.i).g0 182 [x.words.v,x.owner.v],.at_ x.words,.at_ x.owner,.ro [(F.mem x.i).X x.q],.zx x.gp 25 [code.v,pw,.int .i64 ((Lk:Nat):Int),.int .i64 ((R:Nat):Int)],.at_ code])\/(S 1=true/\S 7=true/\S 9=true/\∃(ym:Ls Int) (gW:Value),(ym.l=x.words.l)/\(∀b,ym.on b->W.heap.size<=b)/\kH 68 S Φ (Ψ++ [(1,27,ym.v),(6,32,.agg #[.int .i64 2,ym.v,x.zd.v]),(7,33,gW),(8,34,.agg #[(.slice none 0 0),gW])]) a/\Sh (λ_=>False) W w [.own 39 (⟨gW,[(⟨2,ym,x.zd⟩:zC)]⟩:Ls zC),.at_ ym,.own 179 ml,.zM xX 153 [(.slice none 0 0),gW],.zx x.g 173 [.iface (F.mem x.i).T (.pointer (some (F.mem x.i).u)),.pointer (some ⟨x.gp,0,none⟩),x.vt,x.zd.v,.bool false],.at_ (⟨x.vt,x.rows.map q6.toQ⟩:Ls jn),.KR x.rows,.at_ x.zd,.zx (F.mem x.i).g0 182 [x.words.v,x.owner.v],.at_ x.words,.at_ x.owner,.ro [(F.mem x.i).X x.q],.zx x.gp 25 [code.v,pw,.int .i64 ((Lk:Nat):Int),.int .i64 ((R:Nat):Int)],.at_ code])) [(0,.pointer (some ⟨x.g,0,none⟩)),(2,.pointer (some ⟨xX,0,none⟩)),(3,ml.v),(8,.pointer (some ⟨x.g,0,none⟩)),(9,ml.v),(10,.bool (ended (ya code zi Lk R) x.st)),(11,.pointer (some ⟨x.g,0,none⟩)),(12,.bool (ended (ya code zi Lk R) x.st)),(22,.bool (decide (ml.l.length=0))),(23,ml.v),(24,.int .i64 ((ml.l.length:Nat):Int)),(25,.bool (decide (ml.l.length=0)))] [(0,26,.pointer (some ⟨x.g,0,none⟩)),(2,28,.pointer (some ⟨x.g,0,none⟩)),(3,29,.pointer (some ⟨x.g,0,none⟩)),(4,30,.pointer (some ⟨x.g,3,none⟩)),(5,31,x.zd.v)]) zb zb (Or.inl (⟨V,V,V,kH.start U6.fr,U6.sh.drew⟩)) ?_ ?_
  ·intro S i o ho qn qg zX a w hI
   clear U6
   rcases i with _|_|_|_|_|_|_|_|_|_|i
   ·obtain rfl:_=o:=qA ho
    rcases hI with ⟨yy,yA,qD,φ,ς⟩|⟨yy,_⟩|⟨yy,_⟩|⟨yy,_⟩
    ·exact sq φ φ.yv ς (zG V V) 0 V V V V V V λa hg=>Or.inl (⟨un V yy,un V yA,un V qD,hg,ς⟩)
    ·exact zh (cA qg 1 0 V yy) qn
    ·exact zh (cA qg 1 0 V yy) qn
    ·exact zh (cA qg 1 0 V yy) qn
   ·obtain rfl:_=o:=qA ho
    have BE:S 0=true:=zK zX 0 V V
    rcases hI with ⟨yy,yA,qD,φ,ς⟩|⟨yy,_⟩|⟨yy,_⟩|⟨yy,_⟩
    ·have hs:=St.mk (Fr.cons φ.yv (φ.at_ 0 0 26 _ V BE)) ς
     refine yG (zD hs Mf V V V V V (ef hF x code zi Lk R pw _ ⟨hs.sh.zx 2 V,hs.sh.at 3 V,(λr hr=>(hs.sh.ok (.KR x.rows) (zy (i:=4) V)) r hr),hs.sh.at 5 V,⟨hs.sh.zx 6 V,hs.sh.at 7 V,hs.sh.at 8 V,(hs.sh.ok _ (zy (i:=9) V)) _ (List.mem_singleton.2 V)⟩⟩ (hs.sh.zx 10 V) (hs.sh.at 11 V) zR hx)) (zg V _) ?_
     rintro a76 w76 ⟨_,⟨zfJ,rfl,zg0,zcb⟩,zjG⟩ ⟨v0,zpr⟩
     have ziy:∀b,zfJ.on b->W.heap.size<=b:=λb hb=>vZ hs.sh.J6.size (zcb.mZ 0 V b hb)
     have h76:=(⟨zjG,hs.sh.call zcb (by intro A hA b hb;simp only [z6,qd,or_false] at hA;first|(subst hA;exact Flat.qh hb)|(rcases hA with rfl|rfl|rfl|rfl|rfl|rfl|rfl|rfl<;>first|exact (hb:False).elim|exact Flat.qh hb|exact YT hb|exact ((hF.ok _).mh _ _ hb).elim))⟩:St 68 (λ_=>False) W a76 w76 _ _)
     clear zjG zcb
     exact Or.inr (Or.inl (⟨qV _ _,un V yA,un V qD,zfJ,zg0,ziy,φ.wU qg qn [0,1,2,3,4] zb zb zpr h76.fr.defers (h76.fr.at_ 27 _ V) 5 V V V V,(h76.sh.zY [0,1,2,3,4,5,6,7,8,9,10,11,12] V)⟩))
    ·exact zh yy qn
    ·exact zh yy qn
    ·exact zh yy qn
   ·obtain rfl:_=o:=qA ho
    rcases hI with ⟨yy,yA,qD,φ,ς⟩|⟨yy,yA,qD,ym,jI,jK,φ,ς⟩|⟨_,yA,_⟩|⟨_,yA,_⟩
    ·exact sq φ φ.yv ς (zG V V) 1 V V V V V V λa hg=>Or.inl (⟨un V yy,un V yA,un V qD,hg,ς⟩)
    ·exact sq φ φ.yv ς (zG V V) 1 V V V V V V λa hg=>Or.inr (Or.inl (⟨un V yy,un V yA,un V qD,ym,jI,jK,hg,ς⟩))
    ·exact zh (cA qg 7 2 V yA) qn
    ·exact zh (cA qg 7 2 V yA) qn
   ·obtain rfl:_=o:=qA ho
    have QI:S 2=true:=zK zX 0 V V
    rcases hI with ⟨yy,yA,qD,φ,ς⟩|⟨yy,yA,qD,ym,jI,jK,φ,ς⟩|⟨_,yA,_⟩|⟨_,yA,_⟩
    ·exact sq φ (Fr.cons φ.yv (φ.at_ 1 2 28 _ V QI)) ς (jC V V) 2 V V V V V V λa hg=>Or.inl (⟨un V yy,un V yA,un V qD,hg,ς⟩)
    ·exact sq φ (Fr.cons φ.yv (φ.at_ 1 2 28 _ V QI)) ς (jC V V) 2 V V V V V V λa hg=>Or.inr (Or.inl (⟨un V yy,un V yA,un V qD,ym,jI,jK,hg,ς⟩))
    ·exact zh (cA qg 7 3 V yA) qn
    ·exact zh (cA qg 7 3 V yA) qn
   ·obtain rfl:_=o:=qA ho
    have Wn:S 3=true:=zK zX 0 V V
    rcases hI with ⟨yy,yA,qD,φ,ς⟩|⟨yy,yA,qD,ym,jI,jK,φ,ς⟩|⟨_,yA,_⟩|⟨_,yA,_⟩
    ·exact sq φ (Fr.cons φ.yv (φ.at_ 2 3 29 _ V Wn)) ς (zT (r:=3) wA V V V) 3 V V V V V V λa hg=>Or.inl (⟨un V yy,un V yA,un V qD,hg,ς⟩)
    ·exact sq φ (Fr.cons φ.yv (φ.at_ 2 3 29 _ V Wn)) ς (zT (r:=3) wA V V V) 3 V V V V V V λa hg=>Or.inr (Or.inl (⟨un V yy,un V yA,un V qD,ym,jI,jK,hg,ς⟩))
    ·exact zh (cA qg 7 4 V yA) qn
    ·exact zh (cA qg 7 4 V yA) qn
   ·obtain rfl:_=o:=qA ho
    have XG:S 4=true:=zK zX 0 V V
    rcases hI with ⟨yy,yA,qD,φ,ς⟩|⟨yy,yA,qD,ym,jI,jK,φ,ς⟩|⟨_,yA,_⟩|⟨_,yA,_⟩
    ·exact sq φ (Fr.cons φ.yv (φ.at_ 3 4 30 _ V XG)) ς (kh zV V V (λw h=>h.zx 2 V) V) 4 V V V V V V λa hg=>Or.inl (⟨un V yy,un V yA,un V qD,hg,ς⟩)
    ·exact sq φ (Fr.cons φ.yv (φ.at_ 3 4 30 _ V XG)) ς (kh zV V V (λw h=>h.zx 3 V) V) 4 V V V V V V λa hg=>Or.inr (Or.inl (⟨un V yy,un V yA,un V qD,ym,jI,jK,hg,ς⟩))
    ·exact zh (cA qg 7 5 V yA) qn
    ·exact zh (cA qg 7 5 V yA) qn
   ·obtain rfl:_=o:=qA ho
    have Wo:S 1=true:=zK zX 0 V V
    have Kk:S 5=true:=zK zX 1 V V
    rcases hI with ⟨yy,_⟩|⟨yy,yA,qD,ym,jI,jK,φ,ς⟩|⟨_,yA,_⟩|⟨_,yA,_⟩
    ·exact zh Wo yy
    ·exact sq φ (Fr.cons (Fr.cons φ.yv (φ.at_ 5 1 27 _ V Wo)) (φ.at_ 4 5 31 _ V Kk)) ς (xW (cs:= [.int .i64 2,ym.v,x.zd.v]) V V (λw h=>by obtain ⟨A86,n86,c86,(e86:x.zd.v=_)⟩:=((h.at 6 V)).form;rw [e86];obtain ⟨A85,n85,s7,(e85:ym.v=_)⟩:=((h.own 0 V)).form;rw [e85];kernel_rfl)) 6 V V V V V V λa hg=>Or.inr (Or.inl (⟨un V yy,un V yA,un V qD,ym,jI,jK,hg,ς⟩))
    ·exact zh (cA qg 7 6 V yA) qn
    ·exact zh (cA qg 7 6 V yA) qn
   ·obtain rfl:_=o:=qA ho
    have Uw:S 6=true:=zK zX 0 V V
    rcases hI with ⟨yy,_⟩|⟨yy,yA,qD,ym,jI,jK,φ,ς⟩|⟨_,yA,_⟩|⟨_,yA,_⟩
    ·exact zh (cA qg 6 1 V Uw) yy
    ·have hs:=St.mk (Fr.cons φ.yv (φ.at_ 6 6 32 _ V Uw)) ς
     have h88:St _ _ _ _ _ _ _:=⟨hs.fr,hs.sh.share 0 V⟩
     refine yG (qF (n:=1) (cs:= [.int .i64 2,ym.v,x.zd.v]) ([(⟨2,ym,x.zd⟩:zC)]:List zC) h88 xc yD V V V zf V zb V (λq hq w h=>by obtain rfl:q=0:=(by simpa using hq);exact ⟨(h.at 0 V),(h.at 6 V)⟩) (λq hq b hb=>by obtain rfl:q=0:=(by simpa using hq);rcases hb with hb|hb;exact ⟨_,zy (i:=0) V,hb⟩;exact ⟨_,zy (i:=6) V,hb⟩) V V) (zg V _) ?_
     rintro a89 w89 ⟨v89,oL⟩ ⟨v0,zpq⟩
     exact Or.inr (Or.inr (Or.inl (⟨un V yy,qV _ _,un V qD,ym,v89,jI,jK,φ.wU qg qn [0,1,2,3,4,5,6] zb zb zpq oL.fr.defers (oL.fr.at_ 33 _ V) 7 V V V V,(oL.sh.zY [0,1,2,3,4,5,6,7,8,9,10,11,12,13] V)⟩)))
    ·exact zh yA qn
    ·exact zh yA qn
   ·obtain rfl:_=o:=qA ho
    have Gn:S 7=true:=zK zX 0 V V
    rcases hI with ⟨yy,_⟩|⟨_,yA,_⟩|⟨yy,yA,qD,ym,gW,jI,jK,φ,ς⟩|⟨_,_,qD,_⟩
    ·exact zh (cA qg 7 1 V Gn) yy
    ·exact zh Gn yA
    ·exact sq φ (Fr.cons φ.yv (φ.at_ 7 7 33 _ V Gn)) ς (xW (cs:= [(.slice none 0 0),gW]) V V (λw h=>by obtain ⟨A90,n90,c90,(e90:gW=_)⟩:=((h.own 0 V)).form;rw [e90];kernel_rfl)) 8 V V V V V V λa hg=>Or.inr (Or.inr (Or.inl (⟨un V yy,un V yA,un V qD,ym,gW,jI,jK,hg,ς⟩)))
    ·exact zh (cA qg 9 8 V qD) qn
   ·obtain rfl:_=o:=qA ho
    have AF:S 8=true:=zK zX 0 V V
    have Wo:S 1=true:=zK zX 1 V V
    have Gn:S 7=true:=zK zX 9 V V
    rcases hI with ⟨yy,_⟩|⟨_,yA,_⟩|⟨yy,yA,qD,ym,gW,jI,jK,φ,ς⟩|⟨_,_,qD,_⟩
    ·exact zh Wo yy
    ·exact zh Gn yA
    ·have hs:=St.mk (Fr.cons φ.yv (φ.at_ 8 8 34 _ V AF)) ς
     refine yG (j3 (i:=3) (vs:= [(.slice none 0 0),gW]) (YR:= [(.slice none 0 0),gW]) hs Yj V V V V V V V (zr V (zr ((hs.sh.own 0 V)).one qx)) (y5 V) V) (zg V _) ?_
     rintro a92 w92 h92 ⟨v0,zpp⟩
     exact Or.inr (Or.inr (Or.inr (⟨un V yy,un V yA,qV _ _,ym,gW,jI,jK,φ.aK qg qn [0,1,2,3,4,5,6,7,8] zb zb zpp h92.fr.defers V,(h92.sh.zY [0,1,2,3,4,5,6,7,8,9,10,11,12,13] V)⟩)))
    ·exact zh qD qn
   · simp at ho
  intro S zO a w hI
  clear U6
  rcases hI with ⟨yy,yA,qD,φ,ς⟩|⟨yy,yA,qD,ym,jI,jK,φ,ς⟩|⟨yy,yA,qD,ym,gW,jI,jK,φ,ς⟩|⟨yy,yA,qD,ym,gW,jI,jK,φ,ς⟩
  · exact zh (zO 1 zf) yy
  · exact zh (zO 7 zf) yA
  · exact zh (zO 9 zf) qD
  have uV:St 68 (λ_=>False) W a w _ _:=⟨φ.yv,ς⟩
  clear zO φ ς yy yA qD
  refine gG uV<|hK k61<|gR<|uB<|uT<|λa94 w94 MS=>HW (fn:=Tryz.f102) (t:=2) (i:=3) Yj V MS V V V ?_;clear uV
  have h95:=MS.nil (α:=yz F) 85
  clear MS
  obtain ⟨Il,Ik⟩:Yp (ya code zi Lk R) F.m x.st=_/\QM (ya code zi Lk R) F.m x.st= []:=nu Gp (by rw [<-U4];omega)
  refine ⟨⟨gW,[(⟨2,ym,x.zd⟩:zC)]⟩,⟨.slice none 0 0,[]⟩,V,by rw [Il];simp only [xA,wY,zC.out,jI];rfl,by rw [Ik];rfl,λy hy=>(by cases hy),λo ho b hb=>?_,(h95.sh.zY [1,0] V)⟩
  obtain rfl:=List.mem_singleton.1 ho
  exact hb.elim (λh=> .inl (jK b h)) (λh=> .inr h)
 refine gS<|hK Us<|sK λ_ k96=>Q2 Yj V λb97=>nK k96<|gK λ_ k98=>sG (oM 1 V<|wk X9 (aO 1 V) V<|oM 1 V<|.nl)<|gB<|λzeR zaG dq=>?_
 have DO:=dq.nil (α:=yz F) 85
 clear dq
 have oP:=DO.nil (α:=zC) 39
 clear DO
 refine qE (λm a w=>∃(k:Nat) (ns:List (yz F)) (os:List zC) (vn vo:Value),(k<=ml.l.length)/\(ns.map yz.st=(ml.l.take k).flatMap (QK (ya code zi Lk R) F.m x.st))/\(os.map zC.out=(ml.l.take k).flatMap (QP (ya code zi Lk R) F.m x.st))/\(∀y∈ns,y.gp=x.gp/\y.rows.length=code.l.length/\y.qs.length=code.l.length/\∀b,zz.on y b->W.heap.size<=b)/\(∀o∈os,∀b,zz.on o b->W.heap.size<=b)/\(ns.length<=k/\os.length<=k)/\St 68 (λ_=>False) W a w [(0,.pointer (some ⟨x.g,0,none⟩)),(2,.pointer (some ⟨xX,0,none⟩)),(4,.pointer (some ⟨b97,0,none⟩)),(35,ml.v),(36,.int .i64 ((ml.l.length:Nat):Int)),(37,.int .i64 ((k:Nat):Int))] [.zM b97 153 [vn,vo],.own 179 ml,.zM xX 153 [(.slice none 0 0),(.slice none 0 0)],.zx x.g 173 [.iface (F.mem x.i).T (.pointer (some (F.mem x.i).u)),.pointer (some ⟨x.gp,0,none⟩),x.vt,x.zd.v,.bool false],.at_ (⟨x.vt,x.rows.map q6.toQ⟩:Ls jn),.KR x.rows,.at_ x.zd,.zx (F.mem x.i).g0 182 [x.words.v,x.owner.v],.at_ x.words,.at_ x.owner,.ro [(F.mem x.i).X x.q],.zx x.gp 25 [code.v,pw,.int .i64 ((Lk:Nat):Int),.int .i64 ((R:Nat):Int)],.at_ code,.own 85 (⟨vn,ns⟩:Ls (yz F)),.own 39 (⟨vo,os⟩:Ls zC)]/\m=ml.l.length-k) ⟨_,0,[],[],(.slice none 0 0),(.slice none 0 0),za,(V),(V),(λy hy=>(by cases hy)),(λy hy=>(by cases hy)),(⟨qC _,qC _⟩),oP.wN ⟨V,V,V,V,V,V,trivial⟩ [2,3,4,5,6,7,8,9,10,11,12,13,14,1,0] V,V⟩ ?_
 clear oP
 rintro zv4 zmb zf3 ⟨k,ns,os,vn,vo,ss,F6,FT,l5,hox,hnl,Gu,Td⟩
 refine gG Gu<|sG (xk _ _ V<|.nl)<|gK λ_ zbG=>gcd V (λI3 FN=>?_) λI3 FN=>?_;clear Gu
 ·skip
  refine gS<|hK zbG<|gK λ_ uA=>gB<|sK λ_ uz=>zn (jo X9 Yi (aO 1 V) _ zp V<|Xz [.int .i64 ((nth ml.l k).th),.int .i64 ((nth ml.l k).st)] Yi (aO 1 V) zp V<|.nl)<|Q2 Yi V λzs5=>YK 0 Yi V V V<|nK uz<|sK λ_ zo4=>zn (oM 1 V<|.nl)<|λPZ A1 Vu=>zL (zD Vu zep V V V V V (Cx F x _ hF ⟨Vu.sh.zx 4 V,Vu.sh.at 5 V,(λr hr=>(Vu.sh.ok (.KR x.rows) (zy (i:=6) V)) r hr),Vu.sh.at 7 V,⟨Vu.sh.zx 8 V,Vu.sh.at 9 V,Vu.sh.at 10 V,(Vu.sh.ok _ (zy (i:=11) V)) _ (List.mem_singleton.2 V)⟩⟩ hk)) (zg V _) ?_
  rintro zl7 zfY ⟨_,⟨Xr,rfl,zbT,zbP,cN,zbR,Fj⟩,TE⟩
  change qM _ _ [.zM Xr.g 173 [.iface (F.mem Xr.i).T (.pointer (some (F.mem Xr.i).u)),.pointer (some ⟨Xr.gp,0,none⟩),Xr.vt,Xr.zd.v,.bool false],.own 189 (⟨Xr.vt,Xr.rows.map q6.toQ⟩:Ls jn),.x5 (kg 3 Xr.rows),.own 3 Xr.zd,.zM (F.mem Xr.i).g0 182 [Xr.words.v,Xr.owner.v],.own 3 Xr.words,.own 3 Xr.owner,(F.mem Xr.i).X Xr.q] at Fj
  have Lf:=(⟨TE,Vu.sh.call Fj (by intro A hA b hb;simp only [z6,qd,or_false] at hA;first|(subst hA;exact Flat.qh hb)|(rcases hA with rfl|rfl|rfl|rfl|rfl|rfl|rfl|rfl<;>first|exact (hb:False).elim|exact Flat.qh hb|exact YT hb|exact ((hF.ok _).mh _ _ hb).elim))⟩:St 68 (λ_=>False) W zl7 zfY _ _)
  clear TE Fj
  clear Vu
  refine gG Lf<|zn (oM 1 V<|.nl)<|nK zo4<|sK λ_ zo2=>zn (oM 1 V<|kt 8 Yi V V<|.nl)<|?_;clear Lf
  have hmm:nth ml.l k∈vF (ya code zi Lk R) F.m x.st:=by rw [<-U4];exact qb _ _ za
  obtain ⟨t,j,BC,Xf,B0⟩:=ZR.1 hmm
  have zwD:=BC
  rw [x8] at BC
  intro a117 Nf YP
  have Gt:=YP.same (d:=44) (v' := .agg #[.int .i64 ((t:Nat):Int),.int .i64 (((j:Nat):Int)-1)]) V (by rw [B0])
  clear YP
  have hpy:PX code zi Lk R Xr:=⟨by rw [cN];exact hx.reach,by rw [zbP];exact hx.rl,by rw [zbR];exact hx.ql,by have h9:Xr.zd.l=x.zd.l:=congrArg yc.zd cN;rw [h9];exact hx.pn⟩
  have UB:=Gt.zY (L' := [_,_,_,_,_,_,_,_,_,_,_,_,_,_,_,_,_,_,_,_,_,_,_,_]) [0,1,2,3,4,5,6,7,20,21,8,9,10,11,12,13,14,15,16,17,18,19,22,23] V
  have zij:=UB.sh.yT (Lp:= [_,_,_,_,_,_,_,_,_,_])
  refine zL (zD UB zes V V V V V (zfF hF _ Xr code zi Lk R pw t j x.gp _ zbT zij zR hpy BC (by rw [cN];exact Xf))) (zg V _) ?_
  rintro zl6 zfV ⟨_,⟨rfl,v8,zlq,zbM,zbL,zbJ,zbK,nE,EP,EO,Fi⟩,TC⟩
  change Sh _ _ _ [.zM v8.g 173 [.iface (F.mem v8.i).T (.pointer (some (F.mem v8.i).u)),.pointer (some ⟨v8.gp,0,none⟩),v8.vt,v8.zd.v,.bool zlq],.own 189 (⟨v8.vt,v8.rows.map q6.toQ⟩:Ls jn),.x5 (kg 3 v8.rows),.own 3 v8.zd,.zM (F.mem v8.i).g0 182 [v8.words.v,v8.owner.v],.own 3 v8.words,.own 3 v8.owner,(F.mem v8.i).X v8.q,.zx x.gp 25 [code.v,pw,.int .i64 ((Lk:Nat):Int),.int .i64 ((R:Nat):Int)],.at_ code] at Fi
  have ab:St 68 (λ_=>False) W zl6 zfV _ [_,_,_,_,_,_,_,_,_,_,_,_,_,_,_,_,_,_,_,_,_,_,_,_]:=⟨TC,UB.sh.xP (Lp:= [_,_,_,_,_,_,_,_,_,_]) Fi (by intro A hA b hb;simp only [z6,qd,or_false] at hA;rcases hA with rfl|rfl|rfl|rfl|rfl|rfl|rfl|rfl|rfl|rfl<;>first|exact (hb:False).elim|exact Flat.qh hb|exact .inl ⟨_,xx ..,.inr hb⟩|exact ((hF.ok _).mh _ _ hb).elim|exact YT hb|exact .inl ⟨_,by simp,.inr hb⟩)⟩
  clear TC Fi
  clear UB
  refine gG ab<|nK zo2<|sK λ_ zo1=>λzeQ zaF oO=>?_;clear ab
  have Gs:=oO.same (d:=7) (v' := .pointer (some ⟨v8.g,0,none⟩)) V (by rw [zbM])
  clear oO
  rw [cN] at nE EP EO
  refine gG Gs<|zn (oM 1 V<|yb 0 Zq w5 V V<|.nl)<|nK zo1<|?_;clear Gs
  refine Xl V (λsB=>?_) λsB=>?_
  ·skip
   obtain ⟨OO,zc1⟩:=zbv (p:=(ya code zi Lk R)) (m:=F.m) (s:=x.st) (show k<ml.l.length from za) B0 (nE.symm.trans sB)
   intro zl4 zfT Ww
   have hnp:=Ww.sh.mZ 3 V
   have aa:St 68 (λ_=>False) W zl4 zfT _ _:=⟨Ww.fr,Ww.sh.share 3 V⟩
   clear Ww
   have zcI:(os++ [(⟨1,⟨.slice none 0 0,[]⟩,v8.zd⟩:zC)]).map zC.out=(ml.l.take (k+1)).flatMap (QP (ya code zi Lk R) F.m x.st):=by rw [OO,yi,FT,<-EP];rfl
   have zcQ:ns.map yz.st=(ml.l.take (k+1)).flatMap (QK (ya code zi Lk R) F.m x.st):=by rw [zc1];exact F6
   have zcL:=l5
   have zcG:∀o∈os++ [(⟨1,⟨.slice none 0 0,[]⟩,v8.zd⟩:zC)],∀b,zz.on o b->W.heap.size<=b:=λo ho b hb=>(List.mem_append.1 ho).elim (λh=>hox o h b hb) (λh=>by obtain rfl:=List.mem_singleton.1 h;exact hb.elim (λh=>(zbq h).elim) (λh=>hnp b h))
   have zcR:ns.length<=k+1/\(os++ [(⟨1,⟨.slice none 0 0,[]⟩,v8.zd⟩:zC)]).length<=k+1:=⟨za,by rw [yX];simp only [yY,xY];omega⟩
   refine gG aa<|rC [7,8,10] V<|pR [0,1,2,3,4,5,6] V (qB GB V<|qw 11 ZD V V<|oM 1 V<|yb 0 wA zV V V<|oV (xW (cs:= [.int .i64 1,(.slice none 0 0),v8.zd.v]) V V (λw h=>by obtain ⟨zzc,n127,Ai,(zsJ:v8.zd.v=_)⟩:=((h.at 3 V)).form;rw [zsJ];kernel_rfl)) V<|.nl) V<|pX (λ_ _ h_=>qF (n:=1) (cs:= [.int .i64 1,(.slice none 0 0),v8.zd.v]) ([(⟨1,(⟨.slice none 0 0,[]⟩:Ls Int),v8.zd⟩:zC)]:List zC) h_ xc yD V V V zf V zb V (λq hq w h=>by obtain rfl:q=0:=(by simpa using hq);exact ⟨zav _,(h.at 3 V)⟩) (λq hq b hb=>by obtain rfl:q=0:=(by simpa using hq);rcases hb with hb|hb;exact (by rcases hb with ⟨h0,_⟩|⟨_,h0,_⟩<;>first|exact (Nat.not_lt_zero _ h0).elim|exact absurd h0 (by simp));exact ⟨_,zy (i:=3) V,hb⟩) V V) V λznQ=>pR [0,1] V (qB GB V<|qw 12 ZD V V<|.nl) V<|pX (λ_ _ h_=>yu (r:=24) (rm:=0) (s:=(⟨vo,os⟩:Ls zC)) (m:=(⟨znQ,[(⟨1,(⟨.slice none 0 0,[]⟩:Ls Int),v8.zd⟩:zC)]⟩:Ls zC)) h_ xc yD V V V V V V V (λw h=>(h.own 0 V)) (λb hb=>qt (h_.sh.ok _ (zy (i:=0) V)) hb) (λq hq b hb=>⟨q,hq,hb⟩) V V V inferInstance (show (os.length+([(⟨1,(⟨.slice none 0 0,[]⟩:Ls Int),v8.zd⟩:zC)]).length)*56<=140737488355328/\os.length+([(⟨1,(⟨.slice none 0 0,[]⟩:Ls Int),v8.zd⟩:zC)]).length<=140737488355328 from zp) V V) V λzaJ=>pR [9] V (qB GB V<|.nl) V<|pS (λ_ _ h_=>j3 (i:=12) (vs:= [zaJ]) (YR:= [vn,zaJ]) h_ ZD V V V V V (y7 ((h_.sh.own 24 V)).one) V (zr ((h_.sh.own 24 V)).one qx) (y5 V) V) V<|pE [] V (.nl) V<|hK uA<|gF [0,2,4,35,36,37] V<|gL<|zn (yl _ 1 zp V<|oM 1 V<|.nl)<|nN<|λa131 znC zdK=>zH ⟨_,?_,(k+1),ns,os++([(⟨1,(⟨.slice none 0 0,[]⟩:Ls Int),v8.zd⟩:zC)]),vn,zaJ,?_,?_,?_,?_,?_,?_,zdK.wN ⟨V,V,V,V,V,V,trivial⟩ [12,13,14,15,16,17,18,19,20,21,22,9,10,23,24] V,V⟩;clear aa
   · rw [Td];first|omega|(simp only [qf];omega)
   · omega
   · exact zcQ
   · exact zcI
   · exact zcL
   · exact zcG
   · exact zcR
  intro PV Nc Xk
  rw [sB] at Xk
  obtain ⟨OO,zc1⟩:=zbw (p:=(ya code zi Lk R)) (m:=F.m) (s:=x.st) (show k<ml.l.length from za) B0 (nE.symm.trans sB)
  have OZ:=yz.frz (L:= [.zx x.gp 25 [code.v,pw,.int .i64 ((Lk:Nat):Int),.int .i64 ((R:Nat):Int)],.at_ code,.zM zs5 179 [.int .i64 ((nth ml.l k).th),.int .i64 ((nth ml.l k).st)],.zM b97 153 [vn,vo],.own 179 ml,.zM xX 153 [(.slice none 0 0),(.slice none 0 0)],.zx x.g 173 [.iface (F.mem x.i).T (.pointer (some (F.mem x.i).u)),.pointer (some ⟨x.gp,0,none⟩),x.vt,x.zd.v,.bool false],.at_ (⟨x.vt,x.rows.map q6.toQ⟩:Ls jn),.KR x.rows,.at_ x.zd,.zx (F.mem x.i).g0 182 [x.words.v,x.owner.v],.at_ x.words,.at_ x.owner,.ro [(F.mem x.i).X x.q],.own 85 (⟨vn,ns⟩:Ls (yz F)),.own 39 (⟨vo,os⟩:Ls zC)]) (λi q b=>(hF.ok i).mh q b) v8 Xk.sh
  have DM:St 68 (λ_=>False) W PV Nc _ _:=⟨Xk.fr,OZ.1⟩
  clear Xk
  have zcQ:(ns++ [v8]).map yz.st=(ml.l.take (k+1)).flatMap (QK (ya code zi Lk R) F.m x.st):=by rw [zc1,yi,F6,<-EO];rfl
  have zcI:os.map zC.out=(ml.l.take (k+1)).flatMap (QP (ya code zi Lk R) F.m x.st):=by rw [OO];exact FT
  have zcG:=hox
  have zcL:∀y∈ns++ [v8],y.gp=x.gp/\y.rows.length=code.l.length/\y.qs.length=code.l.length/\∀b,zz.on y b->W.heap.size<=b:=λy hy=>(List.mem_append.1 hy).elim (l5 y) (λh=>by obtain rfl:=List.mem_singleton.1 h;exact ⟨zbL,zbJ,zbK,λb hb=>(OZ.2 b hb).resolve_left id⟩)
  have zcR:(ns++ [v8]).length<=k+1/\os.length<=k+1:=⟨by rw [yX];simp only [yY,xY];omega,za⟩
  refine gG DM<|gL<|zn (qB DU V<|qw 4 mG V V<|oM 1 V<|.nl)<|xb (λ_ _ h_=>qF (n:=1) (cs:= [.pointer (some ⟨v8.g,0,none⟩)]) ([v8]:List (yz F)) h_ QE vk V V V zf V zb V (λq hq w h=>by obtain rfl:q=0:=(by simpa using hq);exact h.ok _ (zy (i:=0) V)) (λq hq b hb=>by obtain rfl:q=0:=(by simpa using hq);exact ⟨_,zy (i:=0) V,hb⟩) V V) V λznP=>xb (λ_ _ h_=>yu (r:=16) (rm:=0) (s:=(⟨vn,ns⟩:Ls (yz F))) (m:=(⟨znP,[v8]⟩:Ls (yz F))) h_ QE vk V V V V V V V (λw h=>(h.own 0 V)) (λb hb=>qt (h_.sh.ok _ (zy (i:=0) V)) hb) (λq hq b hb=>⟨q,hq,hb⟩) V V V inferInstance (show (ns.length+([v8]).length)*8<=140737488355328/\ns.length+([v8]).length<=140737488355328 from zp) V V) V λznO=>zn (qB DU V<|.nl)<|dY 5 mG V (aO 16 V) V<|nK uA<|gL<|zn (yl _ 1 zp V<|oM 1 V<|.nl)<|nN<|λzeO zaD UA=>zH ⟨_,?_,(k+1),ns++([v8]),os,znO,vo,?_,?_,?_,?_,?_,?_,UA.wN ⟨V,V,V,V,V,V,trivial⟩ [5,6,7,8,9,10,11,12,13,14,15,2,3,16,17] V,V⟩;clear DM
  · rw [Td];first|omega|(simp only [qf];omega)
  · omega
  · exact zcQ
  · exact zcI
  · exact zcL
  · exact zcG
  · exact zcR
 refine gX<|hK k98<|sK λ_ zoW=>zn (kt 0 Yj V V<|.nl)<|gE (λ_ _ h_=>j3 (i:=2) (vs:= [vn,vo]) (YR:= [vn,vo]) h_ Yj V V V V V V V (zr ((h_.sh.own 13 V)).one (zr ((h_.sh.own 14 V)).one qx)) (y5 V) V) V<|nK zoW<|gR<|λzs8 znz Lb=>HW (fn:=Tryz.f102) (t:=2) (i:=2) Yj V Lb V V V ?_
 obtain ⟨Il,Ik⟩:=Ob (p:=(ya code zi Lk R)) (m:=F.m) (s:=x.st) Gp (by rw [<-U4];assumption)
 exact ⟨⟨vo,os⟩,⟨vn,ns⟩,V,by rw [Il,<-U4];show os.map zC.out=_;rw [FT,QR za],by rw [Ik,<-U4];show ns.map yz.st=_;rw [F6,QR za],l5,λo ho b hb=> .inl (hox o ho b hb),(Lb.sh.zY [14,13] V)⟩
end Go.Proofs.YtmjkobhkkjgplaaGreatDoor
namespace Go.Proofs.YtmjkobhkkjgplaaGreatDoor.Dr
open Go.RowKit
set_option linter.unusedSimpArgs false
set_option linter.unusedVariables false
structure j2 (X:Nat->Prop)(w w' :World):Prop where
 os:w'.os=w.os
 tape:w'.tape=w.tape
 output:w'.output=w.output
 size:w.heap.size<=w'.heap.size
 same:∀b,b<w.heap.size->¬X b->w'.heap[b]? =w.heap[b]?
 drawn:w.drawn<=w'.drawn
theorem j2.refl (X:Nat->Prop)(w:World):j2 X w w:=⟨V,V,V,qC _,λ_ _ _=>rfl,qC _⟩
theorem j2.drew (X:Nat->Prop)(w:World):j2 X w w.drew:=⟨V,V,V,qC _,λ_ _ _=>rfl,Nat.le_succ _⟩
theorem j2.alloc (X:Nat->Prop)(w:World)(o:Obj):j2 X w (w.alloc o):=⟨V,V,V,by simp,λb hb _=>Hp w o b hb,qC _⟩
theorem j2.mono {X Y:Nat->Prop}{w w' :World}(h:j2 X w w')(EU:∀b,X b->Y b):j2 Y w w' :=⟨h.os,h.tape,h.output,h.size,λb hb hy=>h.same b hb λhx=>hy (EU b hx),h.drawn⟩
theorem j2.trans {K X:Nat->Prop}{W w w' :World}(h:j2 K W w)(h' :j2 X w w')(hx:∀b,X b->K b\/W.heap.size<=b):j2 K W w' :=
 ⟨h'.os.trans h.os,h'.tape.trans h.tape,h'.output.trans h.output,vZ h.size h'.size,λb hb hk=>
  (h'.same b (Nat.lt_of_lt_of_le hb h.size) (λhxb=>(hx b hxb).elim hk (λhle=>za))).trans (h.same b hb hk),vZ h.drawn h'.drawn⟩
structure Sh (K:Nat->Prop)(W w:World)(L:List zZ):Prop where
 J6:j2 K W w
 ok:∀A∈L,A.ok w
 Zj:∀A∈L,∀b,A.fp b->K b\/W.heap.size<=b
 self:∀A∈L,∀b,A.fp b->¬A.rd b
 apart:L.Pairwise zZ.QT
abbrev qM :=Sh (λ_=>False)
section
variable {K:Nat->Prop}{W w w' :World}{L:List zZ}
theorem Sh.lt (h:Sh K W w L){A:zZ}(hA:A∈L){b:Nat}(hb:A.fp b\/A.rd b):b<w.heap.size:=A.lt w (h.ok A hA) b hb
theorem Sh.step {Lp Lr L' :List zZ}(h:Sh K W w (Lp++Lr))(hc:j2 (λb=>∃A∈Lp,A.fp b) w w')
  (zR:∀A∈L',A.ok w')
  (J0:∀A∈L',∀b,A.fp b->(∃B∈Lp,B.fp b)\/w.heap.size<=b)
  (Ye:∀A∈L',∀b,A.rd b->(∃B∈Lp,B.fp b\/B.rd b)\/(∃B∈Lr,B.rd b)\/w.heap.size<=b)
  (gI:∀A∈L',∀b,A.fp b->¬A.rd b) (de:L'.Pairwise zZ.QT):Sh K W w' (L' ++Lr):=by
 have uK:∀A∈Lp,∀B∈Lr,A.QT B:=λA hA B hB=>(List.pairwise_append.1 h.apart).2.2 A hA B hB
 have Ox:Lr.Pairwise zZ.QT:=(List.pairwise_append.1 h.apart).2.1
 have Fo:∀B∈Lr,∀b,B.fp b\/B.rd b->¬∃A∈Lp,A.fp b:=by
  rintro B hB b hb ⟨A,hA,hAb⟩
  have:=uK A hA B hB b
  exact hb.elim (this.1 hAb).1 (this.1 hAb).2
 refine ⟨h.J6.trans hc ?_,?_,?_,?_,?_⟩
 ·rintro b ⟨A,hA,hb⟩
  exact h.Zj A (List.mem_append.2 (.inl hA)) b hb
 ·intro A hA
  rcases List.mem_append.1 hA with hA|hA
  ·exact zR A hA
  ·exact A.yB w w' (h.ok A (List.mem_append.2 (.inr hA))) λb hb=>hc.same b (h.lt (List.mem_append.2 (.inr hA)) hb) (Fo A hA b hb)
 ·intro A hA b hb
  rcases List.mem_append.1 hA with hA|hA
  ·rcases J0 A hA b hb with ⟨B,hB,hBb⟩|hle
   ·exact h.Zj B (List.mem_append.2 (.inl hB)) b hBb
   ·exact .inr (vZ h.J6.size hle)
  ·exact h.Zj A (List.mem_append.2 (.inr hA)) b hb
 ·intro A hA
  rcases List.mem_append.1 hA with hA|hA
  ·exact gI A hA
  ·exact h.self A (List.mem_append.2 (.inr hA))
 ·refine List.pairwise_append.2 ⟨de,Ox,λA hA B hB b=>⟨λha=>?_,λhb ha=>?_⟩⟩
  ·rcases J0 A hA b ha with ⟨C,hC,lr⟩|hle
   ·exact (uK C hC B hB b).1 lr
   ·exact ⟨λhb=>by have:=h.lt (List.mem_append.2 (.inr hB)) (.inl hb);omega,λhb=>by have:=h.lt (List.mem_append.2 (.inr hB)) (.inr hb);omega⟩
  ·rcases Ye A hA b ha with ⟨C,hC,lr⟩|⟨C,hC,lr⟩|hle
   ·exact lr.elim (λlr=>((uK C hC B hB b).1 lr).1 hb) ((uK C hC B hB b).2 hb)
   ·by_cases l8:C=B
    ·subst l8
     exact h.self C (List.mem_append.2 (.inr hC)) b hb lr
    ·rcases Q8 Ox hC hB with e|de
     ·exact l8 e
     ·exact (de b).2 hb lr
   ·have:=h.lt (List.mem_append.2 (.inr hB)) (.inl hb);omega
theorem Sh.drew (h:Sh K W w L):Sh K W w.drew L:=by
 have:=Sh.step (Lp:= []) (Lr:=L) (L' := []) (w' :=w.drew) h (j2.drew _ w) (by simp) (by simp) (by simp) (by simp) .nil
 simpa using this
theorem Sh.zY {L' :List zZ}(h:Sh K W w L)(is:List Nat)(cQ:fc L is=some L'):Sh K W w L' :=by
 obtain ⟨MO,hs⟩:is.Nodup/\fb L is L' :=by
  unfold fc at cQ
  split at cQ
  ·rename_i hn;exact ⟨cB hn,RM cQ⟩
  ·cases cQ
 have hm:∀A∈L',A∈L:=by
  intro A hA
  obtain ⟨k,hk⟩:=kG hA
  obtain ⟨i,_,hi⟩:=Yk hs k A hk
  exact zy hi
 refine ⟨h.J6,λA hA=>h.ok A (hm A hA),λA hA=>h.Zj A (hm A hA),λA hA=>h.self A (hm A hA),?_⟩
 rw [lS]
 intro p q hp hq hpq
 obtain ⟨i,uN,Dy⟩:=Yk hs p _ (QS hp)
 obtain ⟨j,hj1,Xg⟩:=Yk hs q _ (QS hq)
 have Tk:i≠j:=by
  intro e
  subst e
  obtain ⟨hpi,e1⟩:=List.getElem?_eq_some_iff.1 uN
  obtain ⟨OA,e2⟩:=List.getElem?_eq_some_iff.1 hj1
  exact List.pairwise_iff_getElem.1 MO p q hpi OA hpq (e1.trans e2.symm)
 obtain ⟨li,e1⟩:=List.getElem?_eq_some_iff.1 Dy
 obtain ⟨lj,e2⟩:=List.getElem?_eq_some_iff.1 Xg
 have dS:=List.pairwise_iff_getElem.1 h.apart
 rw [<-e1,<-e2]
 rcases Nat.lt_or_gt_of_ne Tk with qU|hgt
 ·exact dS i j li lj qU
 ·exact (dS j i lj li hgt).symm
theorem Sh.push (h:Sh K W w L){A:zZ}(hc:j2 (λ_=>False) w w')(zR:A.ok w')(J0:∀b,A.fp b->w.heap.size<=b)(Ye:∀b,A.rd b->(∃B∈L,B.rd b)\/w.heap.size<=b)(gI:∀b,A.fp b->¬A.rd b):Sh K W w' (A::L):=
 Sh.step (Lp:= []) (Lr:=L) (L' := [A]) h (hc.mono λ_ h=>h.elim) (by simpa using zR) (by simpa using λb hb=>J0 b hb) (by simpa using λb hb=>Ye b hb) (by simpa using gI) (WX _ _)
end
section
variable {K:Nat->Prop}{W w w' :World}{L:List zZ}{α:Type}[zz α]
theorem Sh.at (h:Sh K W w L)(i:Nat){s:Ls α}(hi:L[i]? =some (.at_ s)):s.At w:=h.ok _ (zy hi)
theorem Sh.zM (h:Sh K W w L)(i:Nat){g:Nat}{E:TypeId}{cs:List Value}(hi:L[i]? =some (.zM g E cs)):xB w g E cs.toArray:=h.ok _ (zy hi)
theorem Sh.own (h:Sh K W w L)(i:Nat){E:TypeId}{s:Ls α}(hi:L[i]? =some (.own E s)):s.At w:=vE (h.ok _ (zy hi))
end
structure St (N:Nat)(K:Nat->Prop)(W:World)(a:Act)(w:World)(F:List (Nat×Value))(L:List zZ):Prop where
 fr:Fr N a F
 sh:Sh K W w L
section
variable {P:Program}{N:Nat}{K:Nat->Prop}{W w:World}{a:Act}{F F' :List (Nat×Value)}{L L' :List zZ}{o:Oper}{ops:Array Oper}{rest:List Oper}{Q:Exit->Act->World->Prop}
theorem St.nf (h:St N K W a w F L)(hs:u3 F F'):St N K W a w F' L:=⟨h.fr.sub hs,h.sh⟩
def Ex (P:Program)(o:Oper)(a:Act)(w:World)(R:Act->World->Prop):Prop:=∀(next:Act->World->Prop) (Q:Exit->Act->World->Prop),(∀a' w',R a' w' ->next a' w')->o.wp P a w next Q
def Rn (P:Program)(o:Oper)(N:Nat)(K:Nat->Prop)(W:World)(F:List (Nat×Value))(L:List zZ)(v:Value):Prop:=∀a w,St N K W a w F L->(execOp a.eval o).run P w= .ok (.value v) w
theorem Ex.j8 {R:Act->World->Prop}{v:Value}{w' :World}(hr:(execOp a.eval o).run P w= .ok (.value v) w')(h:R (a.put o.dst v) w'):Ex P o a w R:=by
 intro next Q hn
 unfold Oper.wp
 rw [hr]
 exact hn _ _ h
theorem Ex.mono {R R' :Act->World->Prop}(h:Ex P o a w R)(hr:∀a' w',R a' w' ->R' a' w'):Ex P o a w R' :=λnext Q hn=>h next Q λa' w' x=>hn a' w' (hr a' w' x)
theorem RE {d:Nat}{v:Value}(h:St N K W a w F L)(hr:Rn P o N K W F L v)(hw:Region.wanted o (yielded ops a.tmps)=true)(hd:o.dst=some d)(wz:Nat.blt d N=true)
  (k:∀a',St N K W a' w ((d,v)::F) L->wpList P ops Q rest a' w):wpList P ops Q (o::rest) a w:=by
 unfold wpList
 rw [if_pos hw]
 left
 unfold Oper.wp
 rw [hr a w h]
 exact k _ ⟨by rw [hd];exact h.fr.put d (by simpa [yV] using wz) v,h.sh⟩
theorem wv {d:Nat}{v:Value}(h:St N K W a w F L)(hr:Rn P o N K W F L v)(hd:o.dst=some d)(hc:jG o d N=true)
  (k:∀a',St N K W a' w ((d,v)::F) L->wpList P ops Q rest a' w):wpList P ops Q (o::rest) a w:=by
 simp only [jG,qI,jM] at hc
 exact RE h hr (zg hc.1 _) hd hc.2 k
theorem zL {R:Act->World->Prop}(hx:Ex P o a w R)(hw:Region.wanted o (yielded ops a.tmps)=true)(k:∀a' w',R a' w' ->wpList P ops Q rest a' w'):wpList P ops Q (o::rest) a w:=by
 unfold wpList
 rw [if_pos hw]
 exact .inl (hx _ _ k)
theorem bQ {d:Nat}(h:St N K W a w F L)(hw:Region.wanted o (yielded ops a.tmps)=false)(hd:o.dst=some d)(wz:Nat.blt d N=true)(k:∀a',St N K W a' w ((d,undef)::F) L->wpList P ops Q rest a' w):wpList P ops Q (o::rest) a w:=by
 unfold wpList
 rw [if_neg (by simp [hw])]
 exact k _ ⟨by rw [hd];exact h.fr.put d (by simpa [yV] using wz) undef,h.sh⟩
theorem mj {d:Nat}{v:Value}{Q:Act->Prop}(h:Fr N a F)(hr:Rn P o N K W F L v)(hw:Region.wanted o (yielded ops a.tmps)=true)(hd:o.dst=some d)(wz:Nat.blt d N=true)
  (k:∀a',Fr N a' ((d,v)::F)->wpQuiet P ops (λw=>Sh K W w L) Q rest a'):wpQuiet P ops (λw=>Sh K W w L) Q (o::rest) a:=by
 unfold wpQuiet
 rw [if_pos hw]
 refine ⟨v,λw hw=>?_,k _ (by rw [hd];exact h.put d (by simpa [yV] using wz) v)⟩
 unfold Oper.quietAt
 rw [hr a w ⟨h,hw⟩]
 exact ⟨V,V⟩
theorem bO {d:Nat}{Q:Act->Prop}(h:Fr N a F)(hw:Region.wanted o (yielded ops a.tmps)=false)(hd:o.dst=some d)(wz:Nat.blt d N=true)
  (k:∀a',Fr N a' ((d,undef)::F)->wpQuiet P ops (λw=>Sh K W w L) Q rest a'):wpQuiet P ops (λw=>Sh K W w L) Q (o::rest) a:=by
 unfold wpQuiet
 rw [if_neg (by simp [hw])]
 exact k _ (by rw [hd];exact h.put d (by simpa [yV] using wz) undef)
theorem zG {x:Operand}{v:Value}(ho:o.op= .move x)(hx:ev F x=some v):Rn P o N K W F L v:=λa w h=>by unfold execOp;simp [ho,h.fr.ev hx]
theorem Zd {x:Operand}{v:Value}(ho:o.op= .assign x)(hx:ev F x=some v):Rn P o N K W F L v:=λa w h=>by unfold execOp;simp [ho,h.fr.ev hx]
section
variable {T U:TypeId}{x y:Operand}
theorem wu {op:BinOp}{k:IntKind}{p q:Int}{v:Value}(ho:o.op= .binOp op T x y U)(hx:ev F x=some (.int k p))(hy:ev F y=some (.int k q))(hv:∀w,(binOp op T (.int k p) (.int k q)).run P w= .ok v w):Rn P o N K W F L v:=λa w h=>by
 unfold execOp;simp only [ho,h.fr.ev hx,h.fr.ev hy,eqGuard_at_int,qS,q5,yQ,hv]
theorem RX {p q:Int}(ho:o.op= .binOp .add T x y U)(hx:ev F x=some (.int .i64 p))(hy:ev F y=some (.int .i64 q)):Rn P o N K W F L (.int .i64 (wrap64 (p+q))):=wu ho hx hy λw=>by simp [go_sem];exact IntWalk.i64_left _
theorem cp {p q:Int}(ho:o.op= .binOp .add T x y U)(hx:ev F x=some (.int .i64 p))(hy:ev F y=some (.int .i64 q))(hb: -9223372036854775808<=p+q/\p+q<9223372036854775808):Rn P o N K W F L (.int .i64 (p+q)):=by
 have:=RX (P:=P) (N:=N) (K:=K) (W:=W) (L:=L) ho hx hy;rwa [Bm _ ⟨za,za⟩] at this
theorem RY {p q:Nat}(ho:o.op= .binOp .add T x y U)(hx:ev F x=some (.int .i64 (p:Int)))(hy:ev F y=some (.int .i64 (q:Int)))(hb:p+q<9223372036854775808):Rn P o N K W F L (.int .i64 ((p+q:Nat):Int)):=by
 rw [Int.natCast_add];exact cp ho hx hy za
theorem Jc {k:IntKind}{p q:Int}(ho:o.op= .binOp .lss T x y U)(hx:ev F x=some (.int k p))(hy:ev F y=some (.int k q)):Rn P o N K W F L (.bool (decide (p<q))):=wu ho hx hy λw=>by simp [go_sem]
theorem ch {k:IntKind}{p q:Int}(ho:o.op= .binOp .gtr T x y U)(hx:ev F x=some (.int k p))(hy:ev F y=some (.int k q)):Rn P o N K W F L (.bool (decide (q<p))):=wu ho hx hy λw=>by simp [go_sem]
theorem RW {k:IntKind}{p q:Int}(ho:o.op= .binOp .geq T x y U)(hx:ev F x=some (.int k p))(hy:ev F y=some (.int k q)):Rn P o N K W F L (.bool (decide (q<=p))):=wu ho hx hy λw=>by simp [go_sem]
theorem cd {k:IntKind}{p q:Int}(ho:o.op= .binOp .neq T x y U)(hx:ev F x=some (.int k p))(hy:ev F y=some (.int k q)):Rn P o N K W F L (.bool (decide (p≠q))):=wu ho hx hy λw=>by
 simp [go_sem,bne];rfl
theorem cg {k:IntKind}{p q:Nat}(ho:o.op= .binOp .lss T x y U)(hx:ev F x=some (.int k (p:Int)))(hy:ev F y=some (.int k (q:Int))):Rn P o N K W F L (.bool (decide (p<q))):=by
 have:=Jc (P:=P) (N:=N) (K:=K) (W:=W) (L:=L) ho hx hy;simpa using this
theorem mR {k:IntKind}{p q:Nat}(ho:o.op= .binOp .geq T x y U)(hx:ev F x=some (.int k (p:Int)))(hy:ev F y=some (.int k (q:Int))):Rn P o N K W F L (.bool (decide (q<=p))):=by
 have:=RW (P:=P) (N:=N) (K:=K) (W:=W) (L:=L) ho hx hy;simpa using this
end
end
section
variable {P:Program}{N:Nat}{K:Nat->Prop}{W w:World}{a:Act}{F F' :List (Nat×Value)}{L L' :List zZ}{o:Oper}{ops:Array Oper}{rest:List Oper}{Q:Exit->Act->World->Prop}
theorem zT {T:TypeId}{x:Operand}{f k g q r:Nat}(hT:kX P T f=some k)(ho:o.op= .fieldAddr T x f)(hx:ev F x=some (.pointer (some ⟨g,q,none⟩)))(hr:q+k=r):Rn P o N K W F L (.pointer (some ⟨g,r,none⟩)):=λa w h=>by
 subst hr
 unfold execOp;simp only [ho,h.fr.ev hx,qS,Ve hT,wD,yQ,q5]
section
variable {α:Type}[zz α]
theorem RU {T e:TypeId}{g:Bool}{n xf:Nat}{z:List Value}{s:Ls α}{kd:IntKind}{q:Int}{x y:Operand}(hT:QA P T=some e)(he:je P e=some (g,n,xf,z))(ho:o.op= .indexAddr T x y)(hx:ev F x=some s.v)(hy:ev F y=some (.int kd q))(hat:∀w,Sh K W w L->s.At w)
  (hb:0<=q/\q<s.l.length):Rn P o N K W F L (.pointer (some (ja s.v n q.toNat 0))):=λa w h=>by
 unfold execOp;simp only [ho,h.fr.ev hx,h.fr.ev hy,qS,ay hT he (hat w h.sh) hb.1 hb.2,yQ,q5]
theorem gD {T e:TypeId}{g:Bool}{n xf:Nat}{z:List Value}{s:Ls α}{kd:IntKind}{q:Nat}{x y:Operand}(hT:QA P T=some e)(he:je P e=some (g,n,xf,z))(ho:o.op= .indexAddr T x y)(hx:ev F x=some s.v)(hy:ev F y=some (.int kd (q:Int)))(hat:∀w,Sh K W w L->s.At w)
  (hb:q<s.l.length):Rn P o N K W F L (.pointer (some (ja s.v n q 0))):=by
 simpa using RU (P:=P) (N:=N) (K:=K) (W:=W) (L:=L) hT he ho hx hy hat ⟨za,za⟩
theorem Zc {T e:TypeId}{s:Ls α}{x:Operand}{n:Nat}(hT:QA P T=some e)(ho:o.op= .call ⟨.builtin .len, #[x], #[T]⟩)(hx:ev F x=some s.v)(hat:∀w,Sh K W w L->s.At w)(hn:s.l.length=n):Rn P o N K W F L (.int .i64 (n:Int)):=λa w h=>by
 subst hn
 obtain ⟨A,cap,hv,_⟩:=hat w h.sh
 have hu:=yS hT
 have WJ:P.elem T=e:=by simp [Program.elem,hu]
 unfold execOp
 have e1:=h.fr.ev hx
 rw [hv] at e1
 simp [ho,resolve,invoke,builtin,e1,run_len_slice _ _ _ _ _ _ (show P.underlying T=some (.slice (P.elem T)) by rw [WJ];exact hu),goInt]
theorem xV {T:TypeId}{n xf:Nat}{z:List Value}{x:Operand}{g q i:Nat}{E:TypeId}{cs:List Value}{v:Value}(hT:je P T=some (false,n,xf,z))(ho:o.op= .load T x)(hx:ev F x=some (.pointer (some ⟨g,q,none⟩)))
  (hi:L[i]? =some (.zM g E cs)) (hv:cs[q]? =some v):Rn P o N K W F L v:=λa w h=>by
 have hc:w.cell? ⟨g,q,none⟩=some v:=by rw [(h.sh.zM i hi).cell q];simpa using hv
 unfold execOp;simp only [ho,h.fr.ev hx,qS,Xu hT hc,yQ,q5]
theorem x6 {T:TypeId}{n xf:Nat}{z:List Value}{x:Operand}{i j sz:Nat}{s:Ls α}{v:Value}(hT:je P T=some (false,n,xf,z))(ho:o.op= .load T x)(hx:ev F x=some (.pointer (some (ja s.v sz i j))))
  (x3:zz.sz α=sz) (hat:∀w,Sh K W w L->s.At w) (hi:i<s.l.length) (hj:j<sz) (hv:zz.cell (nth s.l i) j=v):Rn P o N K W F L v:=λa w h=>by
 subst x3
 have hc:=(hat w h.sh).cell i j hi hj
 rw [hv] at hc
 unfold execOp;simp only [ho,h.fr.ev hx,qS,Xu hT hc,yQ,q5]
end
theorem St.KT {d g:Nat}{v:Value}{T:TypeId}{cs:List Value}(h:St N K W a w F L)(hd:Nat.blt d N=true):
  St N K W (a.put (some d) (.pointer (some ⟨w.heap.size,0,none⟩))) (w.alloc (.cells cs.toArray T)) ((d,.pointer (some ⟨w.heap.size,0,none⟩))::F) (.zM w.heap.size T cs::L):=
 ⟨h.fr.put d (by simpa [yV] using hd) _,h.sh.push (j2.alloc _ w _) (xB.new w T cs.toArray) (λb hb=>by rw [show b=w.heap.size from hb];exact qC _) (λb hb=>hb.elim) (λb _ hb=>hb)⟩
theorem ai {d:Nat}{T:TypeId}{x:Operand}{v:Value}{cs:List Value}(h:St N K W a w F L)(ho:o.op= .box T x)(hx:ev F x=some v)(hv:v.cells=cs.toArray)(hd:o.dst=some d)(wz:Nat.blt d N=true):
  Ex P o a w (λa' w' =>∃b:Nat,St N K W a' w' ((d,.pointer (some ⟨b,0,none⟩))::F) (.zM b T cs::L)):=by
 refine Ex.j8 (v:= .pointer (some ⟨w.heap.size,0,none⟩)) (w' :=w.alloc (.cells cs.toArray T)) ?_ ⟨w.heap.size,?_⟩
 ·unfold execOp
  simp only [ho,h.fr.ev hx,Instr.box,newVar,newRow,hv,qS,run_newObj,yQ,q5]
  rfl
 ·rw [hd];exact h.KT (g:=0) (v:=undef) wz
end
section
variable {P:Program}{N:Nat}{K:Nat->Prop}{W w:World}{a:Act}{F F' :List (Nat×Value)}{L L' :List zZ}{o:Oper}{ops:Array Oper}{rest:List Oper}{Q:Exit->Act->World->Prop}
section
variable {α:Type}[zz α]
theorem qF {d:Nat}{T e:TypeId}{gg:Bool}{sz xf n:Nat}{z:List Value}{parts:List (Nat×Operand)}{pv:List (Nat×Value)}{cs:List Value}(l:List α)(h:St N K W a w F L)(hT:QA P T=some e)(he:je P e=some (gg,sz,xf,z))(ho:o.op= .buildSlice T n parts.toArray)
  (hn:l.length=n) (x3:zz.sz α=sz) (YM:0<n*sz/\n*sz<=1000) (hx:u5 F parts=some pv)
  (hf:Instr.fill (λi=>some (i*sz,sz)) ((Array.range (n*sz)).map (z.toArray[· %z.toArray.size]!)) pv=some cs.toArray) (XH:cs=qH l)
  (BD:∀q,q<l.length->∀w,Sh K W w L->zz.inner (nth l q) w) (Wl:∀q,q<l.length->∀b,zz.on (nth l q) b->∃B∈L,B.rd b) (hd:o.dst=some d) (wz:Nat.blt d N=true):
  Ex P o a w (λa' w' =>∃v:Value,St N K W a' w' ((d,v)::F) (.own e (⟨v,l⟩:Ls α)::L)):=by
 subst x3
 subst hn
 obtain ⟨i,ed,zv,hi,O0,_,x3,ma,BB,cM⟩:=qR he
 have hzv:zv.cells=z.toArray:=by rw [<-cM]
 have WI:0<zz.sz α:=Nat.pos_of_ne_zero (by rintro e;simp [e] at YM)
 have iL:l.length<=1000:=vZ (Nat.le_mul_of_pos_right l.length WI) YM.2
 have yN:=run_buildSlice (P:=P) w T e l.length (parts.toArray.map λ(i,x)=>(i,a.eval x)) cs.toArray i zv (yS hT) hi BB (by rw [x3];omega) (by rw [x3];omega) (by rw [x3,hzv,h.fr.u5 hx];exact hf)
 refine Ex.j8 (v:= .slice (some ⟨w.heap.size,0,none⟩) l.length l.length) (w' :=w.alloc (.cells cs.toArray e)) ?_ ⟨.slice (some ⟨w.heap.size,0,none⟩) l.length l.length,?_⟩
 ·unfold execOp
  simp only [ho,qS,yN,yQ,q5]
 ·rw [hd]
  have hold:∀q,q<l.length->∀b,zz.on (nth l q) b->b<w.heap.size:=λq hq b hb=>zz.lt _ w (BD q hq w h.sh) b hb
  refine ⟨h.fr.put d (by simpa [yV] using wz) _,h.sh.push (j2.alloc _ w _) ⟨⟨by rw [qe],.inr ⟨w.heap.size,l.length,cs.toArray,V,wX _,Go.heap_alloc_new w _,qC _,by unfold maxLen;omega,?_,?_⟩⟩,by show l.length<=_;omega,λq hq=>?_⟩ (λb hb=>?_) (λb hb=>?_) (λb hb xl=>?_)⟩
  ·simp [XH,qe]
  ·simp only [XH];rw [QR (by rw [qe];exact qC _)]
  ·exact zz.yB _ w _ (BD q hq w h.sh) λb hb=>Hp w _ b (hold q hq b hb)
  ·have:w.heap.size=b:=by simpa [zZ.own,Value.ownBlock] using hb
   omega
  ·obtain ⟨q,hq,hb⟩:=hb
   exact .inl (Wl q hq b hb)
  ·have:w.heap.size=b:=by simpa [zZ.own,Value.ownBlock] using hb
   obtain ⟨q,hq,xl⟩:=xl
   have:=hold q hq b xl
   omega
end
theorem dD {f:FuncId}{fo:Operand}{xs:List Operand}{HD:Array TypeId}{us vs ws:List Value}{R:Value->World->Prop}(h:Fr N a F)(hb:zN P f=true)(ho:o.op= .call ⟨.value fo,xs.toArray,HD⟩)(hf:ev F fo=some (.func (.func f) us.toArray ws.toArray))
  (hx:G1 F xs=some vs) (hc:zP P f (us++vs++ws) w R):Ex P o a w (λa' w' =>∃v,R v w' /\a' =a.put o.dst v):=by
 intro next Q hn
 unfold Oper.wp
 have yN:(execOp a.eval o).run P w= .ok (.enter f (us++vs++ws).toArray) w:=by
  unfold execOp
  simp [ho,resolve,h.ev hf,h.G1 hx,Deferred.ofValue,invoke,Za hb]
 rw [yN]
 show Calls P f (us++vs++ws).toArray w _
 exact gJ hc λe w' ⟨v,he,hr⟩=>by subst he;exact hn _ _ ⟨v,hr,V⟩
theorem zD {d f:Nat}{fo:Operand}{xs:List Operand}{HD:Array TypeId}{us vs ws:List Value}{R:Value->World->Prop}(h:St N K W a w F L)(hb:zN P f=true)(ho:o.op= .call ⟨.value fo,xs.toArray,HD⟩)(hf:ev F fo=some (.func (.func f) us.toArray ws.toArray))
  (hx:G1 F xs=some vs) (hd:o.dst=some d) (wz:Nat.blt d N=true) (hc:zP P f (us++vs++ws) w R):Ex P o a w (λa' w' =>∃v,R v w' /\Fr N a' ((d,v)::F)):=
 (dD h.fr hb ho hf hx hc).mono λa' w' ⟨v,hr,e⟩=>⟨v,hr,by rw [e,hd];exact h.fr.put d (by simpa [yV] using wz) v⟩
theorem Sh.call {w' :World}(h:Sh K W w L)(h' :qM w w' L')(Ye:∀A∈L',∀b,A.rd b->w.heap.size<=b\/∃B∈L,B.rd b):Sh K W w' (L' ++L):=
 Sh.step (Lp:= []) (Lr:=L) (L' :=L') h (h'.J6.mono λ_ h=>h.elim) h'.ok (λA hA b hb=> .inr ((h'.Zj A hA b hb).resolve_left (λh=>h)))
  (λA hA b hb=>(Ye A hA b hb).elim (λh=> .inr (.inr h)) (λh=> .inr (.inl h))) h'.self h'.apart
theorem Sh.jv {w' :World}(h:Sh K W w L)(h' :qM w w' []):Sh K W w' L:=h.call h' (by simp)
theorem qM.start (w:World):qM w w []:=⟨j2.refl _ _,by simp,by simp,by simp,.nil⟩
theorem qM.ext {w:World}{L:List zZ}(zR:∀A∈L,A.ok w)(J0:∀A∈L,∀b,¬A.fp b):qM w w L:=by
 refine ⟨j2.refl _ _,zR,λA hA b hb=>(J0 A hA b hb).elim,λA hA b hb=>(J0 A hA b hb).elim,?_⟩
 rw [lS]
 intro i j hi hj _ b
 exact ⟨λh=>(J0 _ (WU hi) b h).elim,λh=>(J0 _ (WU hj) b h).elim⟩
section
variable {α β γ δ:Type}[zz α][zz β][zz γ][zz δ]{s:Ls α}{t:Ls β}{u:Ls γ}{v:Ls δ}{w:World}
theorem qM.ext1 (h1:s.At w):qM w w [.at_ s]:=qM.ext (by intro A hA;simp at hA;subst hA;exact h1) (by intro A hA b hb;simp at hA;subst hA;exact hb)
theorem qM.Jo (h1:s.At w)(h2:t.At w):qM w w [.at_ s,.at_ t]:=qM.ext (by intro A hA;simp at hA;rcases hA with rfl|rfl;exact h1;exact h2) (by intro A hA b hb;simp at hA;rcases hA with rfl|rfl<;>exact hb)
end
theorem mi {c:Operand}{x y:Code}{b:Bool}(h:St N K W a w F L)(hc:ev F c=some (.bool b))(ht:b=true->x.wp P Q a w)(hf:b=false->y.wp P Q a w):(Code.cond c x y).wp P Q a w:=wp_cond_split (h.fr.ev hc) ht hf
theorem bN {c:Operand}{x y:Code}{b:Bool}(h:St N K W a w F L)(hc:ev F c=some (.bool b))(hb:b=false)(hf:y.wp P Q a w):(Code.cond c x y).wp P Q a w:=by subst hb;exact wp_cond_false (h.fr.ev hc) hf
theorem zu {fn:Func}{t:Nat}{v:Value}{R:Value->World->Prop}(hs:fn.results= #[.tmp t])(h:St N K W a w F L)(ht:lk F t=some v)(hR:R v w):bodyPost P fn (λe w' =>∃v,e= .returned v/\R v w') .ret a w:=by
 refine ⟨h.fr.defers,v,?_,v,V,hR⟩
 rw [results_tmp hs]
 have:=h.fr.at_ t v ht
 simp [x7,this]
end
section
variable {P:Program}{N:Nat}{K:Nat->Prop}{W w:World}{a:Act}{F F' :List (Nat×Value)}{L L' :List zZ}{o:Oper}{Q:Exit->Act->World->Prop}
end
section
variable {P:Program}{N:Nat}{K:Nat->Prop}{W w:World}{a:Act}{F F' :List (Nat×Value)}{L L' B:List zZ}{o:Oper}{ops:Array Oper}{rest:List Oper}{Q:Exit->Act->World->Prop}
end
section
variable {P:Program}{Q:Exit->Act->World->Prop}
variable {N:Nat}{K:Nat->Prop}{W w:World}{a:Act}{F:List (Nat×Value)}{L:List zZ}
theorem ka {id:Nat}{l:List Oper}(m:Nat)(ps:List Nat)(hm:P.follows .mixedOrders=true)(hB:RJ l m ps=true)(h:St N K W a w F L)
  (k:∀Z:Act->Prop,(∀a',(∀w',Sh K W w' L->wpList P l.toArray (λe a w=>match e with| .normal=>Q .normal a w|_=>False) (l.drop m) a' w')->Z a')->wpQuiet P l.toArray (λw' =>Sh K W w' L) Z (ZF l.toArray ps++ZF l.toArray (we m ps)) a):(Code.region id l.toArray true).wp P Q a w:=by
 simp only [RJ,qI,Jy] at hB
 obtain ⟨h1,h2,h3,h4,h5,h6,h7⟩:=hB
 have Az:∀p∈ps,p<m:=λp hp=>by simpa using (List.all_eq_true.1 h5) p hp
 refine Code.wp_mono (Q:=λe a w=>match e with| .normal=>Q .normal a w|_=>False) (λe a w he=>by cases e<;>first|exact he|exact he.elim) ?_
 refine wp_region_any hm ?_
 split at h7
 ·rename_i lp Tf
  have hq:=k _ (λ_ h=>h)
  have IW:jw l (λj=>(Array.replicate l.length false).getD j false):=by
   intro i o _ hS;simp only [x7,Bq] at hS;split at hS<;>cases hS
  obtain ⟨c1,c2,c3,c4,c5⟩:=YV ps _ lp Tf IW
  have x3:lp.size=l.length:=by simpa using c2
  have hlen:l.toArray.size=((we m ps).length+(l.length-m))+ps.length:=by
   have:=XS h6
   simp;omega
  rw [hlen]
  rw [show Array.replicate ((we m ps).length+(l.length-m)+ps.length) false=Array.replicate l.length false by rw [<-hlen];simp]
  refine GO (C:=λw' =>Sh K W w' L) h4 (λc a w h=>h) ps _ _ lp a w.drew h.sh.drew Tf hq λa' Vq=>?_
  have h8:=Rv (P:=P) h4 (we m ps) _ a' h7 Vq
  have S5:∀j,j<l.length->(ZP lp m).getD j false=(lp.getD j false||Nat.ble m j):=by
   intro j hj
   simp [ZP,x7,x3,hj]
  refine Bj (C:=λw' =>Sh K W w' L) Az h1 h2 h3 _ lp (ZP lp m) a' w.drew h.sh.drew (c4 (by simp)) c1 x3 (by simp [ZP,x3]) (λj hj=>?_) (λj hj Xg=>?_) h8
  ·rw [S5 j za]
   cases hb:Nat.ble m j
   ·simp
   ·rw [Jy] at hb;omega
  ·refine ⟨?_,by rw [S5 j Xg,show Nat.ble m j=true by rw [Jy];exact hj];simp⟩
   rw [c5 j (λhp=>by have:=Az j hp;omega)]
   simp [x7,Bq,Xg]
 ·cases h7
end
section
variable {P:Program}{o:Oper}{N:Nat}{K:Nat->Prop}{W w:World}{a:Act}{F:List (Nat×Value)}{L:List zZ}{α:Type}[zz α]
theorem bP {ops:Array Oper}{rest:List Oper}{Q:Act->Prop}{d f:Nat}{fo:Operand}{xs:List Operand}{HD:Array TypeId}{us vs ws:List Value}{v:Value}(h:Fr N a F)(hb:zN P f=true)(ho:o.op= .call ⟨.value fo,xs.toArray,HD⟩)(hf:ev F fo=some (.func (.func f) us.toArray ws.toArray))
  (hx:G1 F xs=some vs) (hw:Region.wanted o (yielded ops a.tmps)=true) (hd:o.dst=some d) (wz:Nat.blt d N=true) (hc:∀w,Sh K W w L->zP P f (us++vs++ws) w (λv' w' =>v' =v/\qM w w' []))
  (k:∀a',Fr N a' ((d,v)::F)->wpQuiet P ops (λw=>Sh K W w L) Q rest a'):wpQuiet P ops (λw=>Sh K W w L) Q (o::rest) a:=by
 unfold wpQuiet
 rw [if_pos hw]
 refine ⟨v,λw hw=>?_,k _ (by rw [hd];exact h.put d (by simpa [yV] using wz) v)⟩
 unfold Oper.quietAt
 have yN:(execOp a.eval o).run P w= .ok (.enter f (us++vs++ws).toArray) w:=by
  unfold execOp
  simp [ho,resolve,h.ev hf,h.G1 hx,Deferred.ofValue,invoke,Za hb]
 rw [yN]
 refine ⟨V,gJ (hc w hw) λe w' ⟨v',he,nJ,hr⟩=>?_⟩
 subst nJ
 exact ⟨he,hw.jv hr⟩
end
inductive qc (P:Program)(ops:Array Oper)(N:Nat)(K:Nat->Prop)(W:World)(L:List zZ):List Oper->List (Nat×Value)->List Oper->List (Nat×Value)->Prop
 |nl {l:List Oper} {F:List (Nat×Value)} :qc P ops N K W L l F l F
 |cn {o:Oper} {l l' :List Oper} {F F' :List (Nat×Value)} {d:Nat} {v:Value} (hr:Rn P o N K W F L v) (hw:∀a,Fr N a F->Region.wanted o (yielded ops a.tmps)=true) (hd:o.dst=some d) (hN:Nat.blt d N=true) (k:qc P ops N K W L l ((d,v)::F) l' F'):qc P ops N K W L (o::l) F l' F'
 |sk {o:Oper} {l l' :List Oper} {F F' :List (Nat×Value)} {d:Nat} (hw:∀a,Fr N a F->Region.wanted o (yielded ops a.tmps)=false) (hd:o.dst=some d) (hN:Nat.blt d N=true) (k:qc P ops N K W L l ((d,undef)::F) l' F'):qc P ops N K W L (o::l) F l' F'
section
variable {P:Program}{N:Nat}{K:Nat->Prop}{W w:World}{a:Act}{F F' F2:List (Nat×Value)}{L L' :List zZ}{o:Oper}{ops:Array Oper}{l l' l2 rest:List Oper}{Q:Exit->Act->World->Prop}{c c' :Code}{R:Act->World->Prop}
theorem qc.go (r:qc P ops N K W L l F l' F'):∀ {a:Act},St N K W a w F L->(∀a,St N K W a w F' L->wpList P ops Q l' a w)->wpList P ops Q l a w:=by
 induction r with
 |nl=>exact λh k=>k _ h
 |cn hr hw hd hN _ ih=>exact λh k=>RE h hr (hw _ h.fr) hd hN λa h=>ih h k
 |sk hw hd hN _ ih=>exact λh k=>bQ h (hw _ h.fr) hd hN λa h=>ih h k
theorem qc.goQ {Z:Act->Prop}(r:qc P ops N K W L l F l' F'):∀ {a:Act},Fr N a F->(∀a,Fr N a F' ->wpQuiet P ops (λw=>Sh K W w L) Z l' a)->wpQuiet P ops (λw=>Sh K W w L) Z l a:=by
 induction r with
 |nl=>exact λh k=>k _ h
 |cn hr hw hd hN _ ih=>exact λh k=>mj h hr (hw _ h) hd hN λa h=>ih h k
 |sk hw hd hN _ ih=>exact λh k=>bO h (hw _ h) hd hN λa h=>ih h k
theorem gG (h:St N K W a w F L)(k:∀a w,St N K W a w F L->R a w):R a w:=k a w h
theorem zn (r:qc P ops N K W L l F l' F')(k:∀a w,St N K W a w F' L->wpList P ops Q l' a w):∀a w,St N K W a w F L->wpList P ops Q l a w:=λ_ w h=>r.go h λa h=>k a w h
theorem sG {id:Nat}(r:qc P l.toArray N K W L l F [] F')(k:∀a w,St N K W a w F' L->c.wp P Q a w):∀a w,St N K W a w F L->(Code.seq (.region id l.toArray false) c).wp P Q a w:=
 λ_ w h=>wp_seq_k λ_ hK=>wp_region_lit (r.go h λa h=>wpList_nil (hK _ _ (k a w h)))
theorem sK {id:Nat}(k:∀R:Act->World->Prop,(∀a w,c.wp P Q a w->R a w)->∀a w,St N K W a w F L->wpList P l.toArray (Exit.then R Q) l a w):∀a w,St N K W a w F L->(Code.seq (.region id l.toArray false) c).wp P Q a w:=
 λ_ w h=>wp_seq_k λR hK=>wp_region_lit (k R hK _ w h)
theorem nK {Q0:Exit->Act->World->Prop}(hk:∀a w,c.wp P Q a w->Q0 .normal a w)(k:∀a w,St N K W a w F L->c.wp P Q a w):∀a w,St N K W a w F L->wpList P ops Q0 [] a w:=λ_ w h=>wpList_nil (hk _ _ (k _ w h))
theorem hK {X:Act->World->Prop}(hk:∀a w,c.wp P Q a w->X a w)(k:∀a w,St N K W a w F L->c.wp P Q a w):∀a w,St N K W a w F L->X a w:=λ_ w h=>hk _ _ (k _ w h)
theorem gK (k:∀R:Act->World->Prop,(∀a w,c'.wp P Q a w->R a w)->∀a w,St N K W a w F L->c.wp P (Exit.then R Q) a w):∀a w,St N K W a w F L->(Code.seq c c').wp P Q a w:=
 λ_ w h=>wp_seq_k λR hK=>k R hK _ w h
theorem gL {id:Nat}(k:∀a w,St N K W a w F L->wpList P l.toArray Q l a w):∀a w,St N K W a w F L->(Code.region id l.toArray false).wp P Q a w:=λ_ w h=>wp_region_lit (k _ w h)
theorem nN (k:∀a w,St N K W a w F L->Q .normal a w):∀a w,St N K W a w F L->wpList P ops Q [] a w:=λ_ w h=>wpList_nil (k _ w h)
theorem Xl {x:Operand}{b:Bool}(hc:ev F x=some (.bool b))(ht:b=true->∀a w,St N K W a w F L->c.wp P Q a w)(hf:b=false->∀a w,St N K W a w F L->c'.wp P Q a w):∀a w,St N K W a w F L->(Code.cond x c c').wp P Q a w:=
 λ_ w h=>mi h hc (λhb=>ht hb _ w h) (λhb=>hf hb _ w h)
theorem gcd {x:Operand}{p:Prop}[Decidable p](hc:ev F x=some (.bool (decide p)))(ht:decide p=true->p->∀a w,St N K W a w F L->c.wp P Q a w)(hf:decide p=false->¬p->∀a w,St N K W a w F L->c'.wp P Q a w):∀a w,St N K W a w F L->(Code.cond x c c').wp P Q a w:=
 Xl hc (λhb=>ht hb (of_decide_eq_true hb)) λhb=>hf hb (of_decide_eq_false hb)
theorem Q1 {x:Operand}{b:Bool}(hc:ev F x=some (.bool b))(hb:b=false)(k:∀a w,St N K W a w F L->c'.wp P Q a w):∀a w,St N K W a w F L->(Code.cond x c c').wp P Q a w:=λ_ w h=>bN h hc hb (k _ w h)
theorem gB {id:Nat}(k:∀a w,St N K W a w F L->c.wp P (Exit.inBlock id Q) a w):∀a w,St N K W a w F L->(Code.block id c).wp P Q a w:=λ_ w h=>wp_block (k _ w h)
theorem gS (k:∀a w,St N K W a w F L->Q .normal a w):∀a w,St N K W a w F L->Code.skip.wp P Q a w:=λ_ w h=>wp_skip (k _ w h)
theorem gX {id:Nat}(k:∀a w,St N K W a w F L->Q (.exit id) a w):∀a w,St N K W a w F L->(Code.exit id).wp P Q a w:=λ_ w h=>wp_exit (k _ w h)
theorem gR (k:∀a w,St N K W a w F L->Q .ret a w):∀a w,St N K W a w F L->Code.ret.wp P Q a w:=λ_ w h=>wp_ret (k _ w h)
theorem gen {f:FuncId}{fn:Func}{vs:List Value}{X:Value->World->Prop}(hf:P.funcs[f]? =some fn)(hN:fn.ntmps=N)(hS:Sh K W W L)(e:(fn.body,PH vs,Nat.ble vs.length N)=(some c,some F,true))(k:∀a,St N K W a W F L->c.wp P (bodyPost P fn λe w' =>∃v,e= .returned v/\X v w') a W):zP P f vs W X:=by
 simp only [qO] at e
 exact pN hf e.1 hN (y5 e.2.2) λa h=>k a ⟨by rw [te e.2.1] at h;exact h,hS⟩
theorem uT {X:Act->World->Prop}(k:∀a w,St N K W a w F L->Q .ret a w):∀a w,St N K W a w F L->Exit.then X Q .ret a w:=k
theorem uB {id:Nat}(k:∀a w,St N K W a w F L->Q .ret a w):∀a w,St N K W a w F L->Exit.inBlock id Q .ret a w:=k
theorem y4 {α:Type}[zz α]{s:Ls α}(hat:∀w,Sh K W w L->s.At w)(k:s.l.length<=140737488355328->∀a w,St N K W a w F L->R a w):∀a w,St N K W a w F L->R a w:=λa w h=>k (hat w h.sh).len a w h
theorem xb {α:Sort 1}{F2:α->List (Nat×Value)}{L2:α->List zZ}(hx:∀a w,St N K W a w F L->Ex P o a w (λa' w' =>∃b:α,St N K W a' w' (F2 b) (L2 b)))(hg:o.guard=none)(k:∀b a w,St N K W a w (F2 b) (L2 b)->wpList P ops Q rest a w):∀a w,St N K W a w F L->wpList P ops Q (o::rest) a w:=
 λ_ w h=>zL (hx _ w h) (zg hg _) λa w ⟨b,h⟩=>k b a w h
theorem gF (ts:List Nat)(e:fB F ts=some F')(k:∀a w,St N K W a w F' L->R a w):∀a w,St N K W a w F L->R a w:=λa w h=>k a w (h.nf (R4 e))
theorem vu {Z:Act->Prop}(r:qc P ops N K W L l F l' F')(k:∀a,Fr N a F' ->wpQuiet P ops (λw=>Sh K W w L) Z l' a):∀a,Fr N a F->wpQuiet P ops (λw=>Sh K W w L) Z l a:=λ_ h=>r.goQ h k
theorem qN {Z:Act->Prop}(z:∀a,(∀w,Sh K W w L->R a w)->Z a)(k:∀a w,St N K W a w F L->R a w):∀a,Fr N a F->wpQuiet P ops (λw=>Sh K W w L) Z [] a:=λa h=>wpQuiet_nil (z a λw hw=>k a w ⟨h,hw⟩)
section
variable {d g k q r j n xf sz i2:Nat}{T E e:TypeId}{x y:Operand}{v:Value}{z cs vs:List Value}
theorem oM (n:Nat)(e:mvN N n l F=some (l2,F2))(k:qc P ops N K W L l2 F2 l' F'):qc P ops N K W L l F l' F' :=by
 induction n generalizing l F with
 |zero=>cases e;exact k
 |succ n ih=>
  cases l with
  |nil=>cases e
  |cons o l=>
   unfold mvN at e
   split at e
   ·rename_i d x hg hd ho
    split at e
    ·rename_i v hv
     cases hb:Nat.blt d N with
     |false=>rw [hb] at e;cases e
     |true=>rw [hb] at e;exact .cn (zG ho hv) (wn hg) hd hb (ih e)
    ·cases e
   ·rename_i d x hg hd ho
    split at e
    ·rename_i v hv
     cases hb:Nat.blt d N with
     |false=>rw [hb] at e;cases e
     |true=>rw [hb] at e;exact .cn (Zd ho hv) (wn hg) hd hb (ih e)
    ·cases e
   ·cases e
theorem qB {f:Nat}(hT:kX P T f=some k)(e:(o.dst,o.op,ev F x,jG o d N)=(some d,.fieldAddr T x f,some (.pointer (some ⟨g,0,none⟩)),true))(kk:qc P ops N K W L l ((d,.pointer (some ⟨g,k,none⟩))::F) l' F'):qc P ops N K W L (o::l) F l' F' :=by
 simp only [qO,jG,qI,jM] at e
 exact .cn (zT hT e.2.1 e.2.2.1 (WS k)) (wn e.2.2.2.1) e.1 e.2.2.2.2 kk
theorem qw (i:Nat)(hT:je P T=some (false,n,xf,z))(hi:L[i]? =some (.zM g E cs))(e:(o.dst,o.op,ev F x,jG o d N,cs[q]?)=(some d,.load T x,some (.pointer (some ⟨g,q,none⟩)),true,some v))(k:qc P ops N K W L l ((d,v)::F) l' F'):qc P ops N K W L (o::l) F l' F' :=by
 simp only [qO,jG,qI,jM] at e
 exact .cn (xV hT e.2.1 e.2.2.1 hi e.2.2.2.2) (wn e.2.2.2.1.1) e.1 e.2.2.2.1.2 k
section
variable {α:Type}[zz α]{s:Ls α}{gb:Bool}
theorem jo {kd:IntKind}(hT:QA P T=some e)(he:je P e=some (gb,n,xf,z))(hat:∀w,Sh K W w L->s.At w)(q:Nat)(hb:q<s.l.length)(e' :(o.dst,o.op,ev F x,ev F y,jG o d N)=(some d,.indexAddr T x y,some s.v,some (.int kd (q:Int)),true))
  (k:qc P ops N K W L l ((d,.pointer (some (ja s.v n q 0)))::F) l' F'):qc P ops N K W L (o::l) F l' F' :=by
 simp only [qO,jG,qI,jM] at e'
 exact .cn (gD hT he e'.2.1 e'.2.2.1 e'.2.2.2.1 hat hb) (wn e'.2.2.2.2.1) e'.1 e'.2.2.2.2.2 k
theorem Z1 {i:Nat}(v:Value)(hT:je P T=some (false,n,xf,z))(hat:∀w,Sh K W w L->s.At w)(hi:i<s.l.length)(e:(o.dst,o.op,ev F x,jG o d N,zz.sz α,Nat.blt j sz,zz.cell (nth s.l i) j)=(some d,.load T x,some (.pointer (some (ja s.v sz i j))),true,sz,true,v))(k:qc P ops N K W L l ((d,v)::F) l' F'):qc P ops N K W L (o::l) F l' F' :=by
 simp only [qO,jG,qI,jM] at e
 exact .cn (x6 hT e.2.1 e.2.2.1 e.2.2.2.2.1 hat hi (by simpa [yV] using e.2.2.2.2.2.1) e.2.2.2.2.2.2) (wn e.2.2.2.1.1) e.1 e.2.2.2.1.2 k
theorem wx {i:Nat}{kd:IntKind}{u:Int}(hT:je P T=some (false,n,xf,z))(hat:∀w,Sh K W w L->s.At w)(hi:i<s.l.length)(e:(o.dst,o.op,ev F x,jG o d N,zz.sz α,Nat.blt j sz,zz.cell (nth s.l i) j)=(some d,.load T x,some (.pointer (some (ja s.v sz i j))),true,sz,true,.int kd u))(k:qc P ops N K W L l ((d,.int kd u)::F) l' F'):qc P ops N K W L (o::l) F l' F' :=Z1 (.int kd u) hT hat hi e k
theorem wk {n:Nat}(hT:QA P T=some e)(hat:∀w,Sh K W w L->s.At w)(e' :(o.dst,o.op,ev F x,jG o d N,s.l.length)=(some d,.call ⟨.builtin .len, #[x], #[T]⟩,some s.v,true,n))(k:qc P ops N K W L l ((d,.int .i64 (n:Int))::F) l' F'):qc P ops N K W L (o::l) F l' F' :=by
 simp only [qO,jG,qI,jM] at e'
 exact .cn (Zc hT e'.2.1 e'.2.2.1 hat e'.2.2.2.2) (wn e'.2.2.2.1.1) e'.1 e'.2.2.2.1.2 k
end
section
variable {U:TypeId}{kd:IntKind}
theorem xk (p q:Nat)(e:(o.dst,o.op,ev F x,ev F y,jG o d N)=(some d,.binOp .lss T x y U,some (.int kd (p:Int)),some (.int kd (q:Int)),true))(k:qc P ops N K W L l ((d,.bool (decide (p<q)))::F) l' F'):qc P ops N K W L (o::l) F l' F' :=by
 simp only [qO,jG,qI,jM] at e
 exact .cn (cg e.2.1 e.2.2.1 e.2.2.2.1) (wn e.2.2.2.2.1) e.1 e.2.2.2.2.2 k
theorem fG (p q:Int)(e:(o.dst,o.op,ev F x,ev F y,jG o d N)=(some d,.binOp .lss T x y U,some (.int kd p),some (.int kd q),true))(k:qc P ops N K W L l ((d,.bool (decide (p<q)))::F) l' F'):qc P ops N K W L (o::l) F l' F' :=by
 simp only [qO,jG,qI,jM] at e
 exact .cn (Jc e.2.1 e.2.2.1 e.2.2.2.1) (wn e.2.2.2.2.1) e.1 e.2.2.2.2.2 k
theorem zbm (p q:Int)(e:(o.dst,o.op,ev F x,ev F y,jG o d N)=(some d,.binOp .gtr T x y U,some (.int kd p),some (.int kd q),true))(k:qc P ops N K W L l ((d,.bool (decide (q<p)))::F) l' F'):qc P ops N K W L (o::l) F l' F' :=by
 simp only [qO,jG,qI,jM] at e
 exact .cn (ch e.2.1 e.2.2.1 e.2.2.2.1) (wn e.2.2.2.2.1) e.1 e.2.2.2.2.2 k
theorem zbn (p q:Nat)(e:(o.dst,o.op,ev F x,ev F y,jG o d N)=(some d,.binOp .geq T x y U,some (.int kd (p:Int)),some (.int kd (q:Int)),true))(k:qc P ops N K W L l ((d,.bool (decide (q<=p)))::F) l' F'):qc P ops N K W L (o::l) F l' F' :=by
 simp only [qO,jG,qI,jM] at e
 exact .cn (mR e.2.1 e.2.2.1 e.2.2.2.1) (wn e.2.2.2.2.1) e.1 e.2.2.2.2.2 k
theorem QW (p q:Int)(e:(o.dst,o.op,ev F x,ev F y,jG o d N)=(some d,.binOp .neq T x y U,some (.int kd p),some (.int kd q),true))(k:qc P ops N K W L l ((d,.bool (decide (p≠q)))::F) l' F'):qc P ops N K W L (o::l) F l' F' :=by
 simp only [qO,jG,qI,jM] at e
 exact .cn (cd e.2.1 e.2.2.1 e.2.2.2.1) (wn e.2.2.2.2.1) e.1 e.2.2.2.2.2 k
theorem yl (p q:Nat)(hb:p+q<9223372036854775808)(e:(o.dst,o.op,ev F x,ev F y,jG o d N)=(some d,.binOp .add T x y U,some (.int .i64 (p:Int)),some (.int .i64 (q:Int)),true))(k:qc P ops N K W L l ((d,.int .i64 ((p+q:Nat):Int))::F) l' F'):qc P ops N K W L (o::l) F l' F' :=by
 simp only [qO,jG,qI,jM] at e
 exact .cn (RY e.2.1 e.2.2.1 e.2.2.2.1 hb) (wn e.2.2.2.2.1) e.1 e.2.2.2.2.2 k
end
theorem XV (e:(o.op,o.dst,o.guard,ev F x,Nat.blt d N)=(.box T x,some d,none,some v,true))(hv:v.cells=cs.toArray)(k:∀(b:Nat) (a:Act) (w:World),St N K W a w ((d,.pointer (some ⟨b,0,none⟩))::F) (.zM b T cs::L)->wpList P ops Q rest a w):∀a w,St N K W a w F L->wpList P ops Q (o::rest) a w:=by
 simp only [qO] at e
 intro a w h
 exact zL (ai h e.1 e.2.2.2.1 hv e.2.1 e.2.2.2.2) (zg e.2.2.1 _) λa w ⟨b,h⟩=>k b a w h
theorem gQ {f:Nat}{fo:Operand}{xs:List Operand}{HD:Array TypeId}{us vs ws:List Value}{R:Value->World->Prop}(h:St N K W a w F L)(hb:zN P f=true)(e:(o.op,o.dst,Nat.blt d N,ev F fo,G1 F xs)=(.call ⟨.value fo,xs.toArray,HD⟩,some d,true,some (.func (.func f) us.toArray ws.toArray),some vs))(hc:zP P f (us++vs++ws) w R):Ex P o a w (λa' w' =>∃v,R v w' /\Fr N a' ((d,v)::F)):=by
 simp only [qO] at e
 exact zD h hb e.1 e.2.2.2.1 e.2.2.2.2 e.2.1 e.2.2.1 hc
theorem gP (hx:∀a w,St N K W a w F L->Ex P o a w (λa' w' =>∃u,(u=v/\qM w w' [])/\Fr N a' ((d,u)::F)))(hg:o.guard=none)(k:∀a w,St N K W a w ((d,v)::F) L->wpList P ops Q rest a w):∀a w,St N K W a w F L->wpList P ops Q (o::rest) a w:=
 λ_ w h=>zL (hx _ w h) (zg hg _) λa w' ⟨u,⟨hu,hs⟩,hf⟩=>by subst hu;exact k a w' ⟨hf,h.sh.jv hs⟩
theorem qP {Z:Act->Prop}{f:Nat}{fo:Operand}{xs:List Operand}{HD:Array TypeId}{us vs ws:List Value}(hb:zN P f=true)(e:(o.op,o.guard,o.dst,Nat.blt d N,ev F fo,G1 F xs)=(.call ⟨.value fo,xs.toArray,HD⟩,none,some d,true,some (.func (.func f) us.toArray ws.toArray),some vs))(hc:∀w,Sh K W w L->zP P f (us++vs++ws) w (λv' w' =>v' =v/\qM w w' []))
  (k:∀a,Fr N a ((d,v)::F)->wpQuiet P ops (λw=>Sh K W w L) Z rest a):∀a,Fr N a F->wpQuiet P ops (λw=>Sh K W w L) Z (o::rest) a:=by
 simp only [qO] at e
 exact λa h=>bP h hb e.1 e.2.2.2.2.1 e.2.2.2.2.2 (zg e.2.1 _) e.2.2.1 e.2.2.2.1 hc k
end
theorem aA {α:Type}[zz α]{s:Ls α}(i:Nat)(hi:L[i]? =some (.at_ s)):∀w,Sh K W w L->s.At w:=λw h=>h.at i hi
end
end Go.Proofs.YtmjkobhkkjgplaaGreatDoor.Dr
namespace Go.Proofs.YtmjkobhkkjgplaaGreatDoor
open Go.RowKit Go.Sort Go.Shelf
set_option linter.unusedSimpArgs false
set_option linter.unusedVariables false
theorem grown_of {w w' :World}(h:Dr.j2 (λ_=>False) w w'):∃q os,w' =grow (w.drewN q) os:=by
 obtain ⟨h1,h2,h3,h4,h5,h6⟩:=h
 refine ⟨w'.drawn-w.drawn,w'.heap.extract w.heap.size w'.heap.size,?_⟩
 obtain ⟨heap,tape,drawn,os,output⟩:=w
 obtain ⟨lf,Sa,oX,os',rI⟩:=w'
 simp only at h1 h2 h3 h4 h5 h6
 subst h1 h2 h3
 have e1:lf=heap++lf.extract heap.size lf.size:=by
  apply Array.ext_getElem?
  intro b
  rw [Array.getElem?_append]
  by_cases hb:b<heap.size
  ·rw [if_pos hb];exact h5 b hb (λh=>h)
  ·rw [if_neg hb,Array.getElem?_extract]
   by_cases xl:b<lf.size
   ·rw [if_pos za];congr 1;omega
   ·rw [if_neg za,Bp za]
 have e2:oX=drawn+(oX-drawn):=za
 unfold grow World.drewN
 show World.mk lf Sa oX os' rI=World.mk (heap++_) Sa (drawn+_) os' rI
 rw [<-e1,<-e2]
section
variable {α:Type}[zz α]
theorem WQ (h:zz.agg α=true)(x:α):(zz.whole x:Value)= .agg (cellsOf x).toArray:=zz.many h x
theorem bb {β:Type}[Inhabited β](f:β->α)(k:Nat)(hk:zz.sz α=k)(h0:0<k)(d:Array β):(flatK (λx=>cellsOf (f x)) k d).toList=qH (d.toList.map f):=by
 apply Hr
 intro t
 have hl:(qH (d.toList.map f)).length=d.size*k:=by rw [qe,yw,hk];simp
 by_cases ht:t<d.size*k
 ·have hq:t/k<d.size:=(Hw h0).2 ht
  have hr:t%k<k:=VH _ h0
  have e1:=Q5 (d.toList.map f) (t/k) (t%k) (by simpa using hq) (by rw [hk];exact hr)
  rw [hk,show t/k*k+t%k=t by rw [Ho];exact Bk t k] at e1
  rw [e1]
  have e2:nth (d.toList.map f) (t/k)=f d[t/k]! :=by
   rw [qq _ _ (by simpa using hq),List.getElem_map,getElem!_pos d _ hq]
   simp
  rw [e2]
  have hs:t<(flatK (λx=>cellsOf (f x)) k d).toList.length:=by simp [flatK,ht]
  rw [QS hs]
  congr 1
  simp only [flatK,Array.getElem_toList,Array.getElem_map,Array.getElem_range]
  have hc:t%k<(cellsOf (f d[t/k]!)).length:=by rw [jV,hk];exact hr
  rw [getElem!_pos (cellsOf (f d[t/k]!)) (t%k) hc]
  simp [cellsOf]
 ·rw [Br (by simp [flatK];omega),Br za]
theorem BQ (F c:Array Value)(h:F.size<=c.size):(putCells id 0 F c).toList.take F.size=F.toList:=by
 apply Hr
 intro t
 rw [VI]
 by_cases ht:t<F.size
 ·rw [if_pos ht,Bo,Bo]
  simp only [putCells,Array.getElem?_mapIdx]
  rw [Xa (show t<c.size from za),Xa ht,ZJ,if_pos ⟨za,za⟩]
  simp [getElem!_pos,ht]
 ·rw [if_neg ht,Br (by simpa using ht)]
theorem BO (F c:Array Value):(putCells id 0 F c).size=c.size:=by simp [putCells]
variable {β:Type}[Inhabited β]
theorem UQ (enc:β->List Value)(k:Nat)(d:Array β):(flatK enc k d).size=d.size*k:=by simp [flatK]
theorem HF (enc:β->List Value)(k:Nat)(w:World)(b n:Nat)(d:Array β)(os:Array Obj){E:TypeId}{cur:Array Value}(hb:w.heap[b]? =some (.cells cur E (0,0))):
  (sortWorldK enc k w b 0 n d os).heap[b]? =some (.cells (putCells id 0 (flatK enc k d) cur) E (0,0)):=by
 have qU:b<w.heap.size:=(Array.getElem?_eq_some_iff.1 hb).1
 show ((w.heap.modify b _)++os)[b]? =_
 rw [Array.getElem?_append,if_pos (by simpa using qU),bH,if_pos V,hb]
 rfl
theorem WB (enc:β->List Value)(k:Nat)(w:World)(b n:Nat)(d:Array β)(os:Array Obj):j2 (λc=>c=b) w (sortWorldK enc k w b 0 n d os):=by
 refine ⟨V,V,V,?_,λc hc Qo=>?_⟩
 ·show _<=((w.heap.modify b _)++os).size
  simp
 ·show ((w.heap.modify b _)++os)[c]? =_
  rw [Array.getElem?_append,if_pos (by simpa using hc),bH,if_neg (λe=>Qo e.symm)]
theorem Ct {P:Program}{ρ:Ren}(L6:SlLaysF0.n6 P ρ){k:Nat}(aE:∀w,(isAgg (ρ.t 24)).run P w= .ok true w)(zE:∀w,(Go.sizeOf (ρ.t 24)).run P w= .ok k w)[One α](hag:zz.agg α=true)(hk:zz.sz α=k)(h0:0<k)
  (cf:α->α->Int) (hO1:∀x,¬cf x x<0) (hO2:∀x y z,cf x y<0->cf y z<0->cf x z<0) (hO3:∀x y z,¬cf x y<0->¬cf y z<0->¬cf x z<0) (g:FuncId) (eg:∀args w,(callFunc g args).run P w= .ok (.enter g args) w) {K:Nat->Prop} {W:World} {E:TypeId} {s:Ls α} (hS:Sh K W W [.own E s])
  (hc:∀x∈s.l,∀y∈s.l,∀W',zz.inner x W' ->zz.inner y W' ->Calls P g #[zz.whole x,zz.whole y] W' λe w' =>e= .returned (.int .i64 (cf x y))/\Dr.j2 (λ_=>False) W' w'):
  zP P (ρ.f 6) [s.v,.func (.func g) #[] #[]] W (λv w' =>v= .tuple #[]/\∃l' :List α,l'.Perm s.l/\l'.Pairwise (λa b=>¬cf b a<0)/\Sh K W w' [.own E (⟨s.v,l'⟩:Ls α)]):=by
 have ziD:∀(p:Option Addr) (cap:Nat),s.v= .slice p 0 cap->s.l= []->zP P (ρ.f 6) [s.v,.func (.func g) #[] #[]] W (λv w' =>v= .tuple #[]/\∃l' :List α,l'.Perm s.l/\l'.Pairwise (λa b=>¬cf b a<0)/\Sh K W w' [.own E (⟨s.v,l'⟩:Ls α)]):=by
  intro p cap hv hn
  rw [hv]
  refine gJ (AnyF.slices_SortFunc_none L6 p cap (.func (.func g) #[] #[]) W) ?_
  rintro e w' ⟨rfl,rfl⟩
  refine ⟨_,V,V,s.l,List.Perm.refl _,by rw [hn];exact .nil,?_⟩
  rw [<-hv];exact hS
 obtain ⟨⟨hlen,zkc⟩,hl,BD⟩:=hS.ok _ (List.mem_singleton.2 V)
 rcases zkc with ⟨hv,hn⟩|⟨b,cap,cur,hv,_,hb,hle,GX,XH,ig⟩
 ·exact ziD none 0 hv (JW hn)
 by_cases hn:s.l= []
 ·exact ziD (some ⟨b,0,none⟩) cap (by rw [hv,hn];rfl) hn
 obtain ⟨x0,SA⟩:=List.exists_mem_of_ne_nil _ hn
 have gI:∀x∈s.l,¬zz.on x b:=by
  intro x hx Wl
  refine hS.self _ (List.mem_singleton.2 V) b (by show s.v.ownBlock=_;rw [hv];rfl) ?_
  obtain ⟨i,hi⟩:=kG hx
  obtain ⟨qU,e⟩:=List.getElem?_eq_some_iff.1 hi
  exact ⟨i,qU,by rw [qq _ _ qU,e];exact Wl⟩
 have zdb:∀x∈s.l,zz.inner x W:=by
  intro x hx
  obtain ⟨i,hi⟩:=kG hx
  obtain ⟨qU,e⟩:=List.getElem?_eq_some_iff.1 hi
  have:=BD i qU
  rwa [qq _ _ qU,e] at this
 have hblk:b<W.heap.size:=(Array.getElem?_eq_some_iff.1 hb).1
 letI:Inhabited {x//x∈s.l} :=⟨⟨x0,SA⟩⟩
 have hds:s.l.attach.toArray.size=s.l.length:=by simp
 have hdl:s.l.attach.toArray.toList.map Subtype.val=s.l:=by simp
 have ID:=bb (Subtype.val: {x//x∈s.l}->α) k hk h0 s.l.attach.toArray
 rw [hdl] at ID
 have hnk:s.l.length*k<=cap*k:=WV _ hle
 have hH:HoldsK (λx: {x//x∈s.l} =>cellsOf x.1) k W b 0 s.l.attach.toArray:=by
  intro j hj
  have hj' :j<s.l.length*k:=by rw [UQ,hds] at hj;exact hj
  have hB:xB W b E cur:=hb
  refine ⟨?_,hB.frozen _⟩
  rw [WS,hB.cell j]
  have e1:(qH s.l)[j]? =cur[j]? :=by
   rw [<-ig,VI,if_pos (by rw [hk];exact hj'),Bo]
  rw [<-e1,<-ID,Bo,Xa hj,getElem!_pos _ j hj]
  rfl
 have U5:∀(m:Nat) (os:Array Obj) (dk:Array {x//x∈s.l}) (x: {x//x∈s.l}),zz.inner x.1 (sortWorldK (λx: {x//x∈s.l} =>cellsOf x.1) k W b 0 m dk os):=by
  intro m os dk x
  refine zz.yB _ W _ (zdb _ x.2) λc l8=>?_
  exact (WB _ k W b m dk os).same c (zz.lt _ W (zdb _ x.2) c l8) (λe=>gI _ x.2 (e▸l8))
 have zka:=AnyQ.slices_SortFunc L6 k aE zE (λx: {x//x∈s.l} =>cellsOf x.1) (λx=>by rw [jV,hk]) (λx v hvx=>by
   obtain ⟨q,hq,rfl⟩:=List.mem_map.1 hvx
   exact One.one x.1 W (zdb _ x.2) q (by simpa using hq)) (λx y=>cf x.1 y.1)
  ⟨λx=>by simpa [ltOf] using hO1 x.1,λx y z h1 h2=>by simp only [ltOf,decide_eq_true_eq] at*;exact hO2 _ _ _ h1 h2,λx y z h1 h2=>by simp only [ltOf,decide_eq_false_iff_not] at*;exact hO3 _ _ _ h1 h2⟩
  g #[] b 0 cap s.l.attach.toArray W eg (λm os dk _ x y=>by
   have h9:=hc x.1 x.2 y.1 y.2 _ (U5 m os dk x) (U5 m os dk y)
   rw [WQ hag,WQ hag] at h9
   refine gJ h9 ?_
   rintro e w' ⟨he,hch⟩
   exact ⟨he,grown_of hch⟩) hH hblk (by rw [hds];omega)
 rw [hds] at zka
 rw [hv]
 refine gJ zka ?_
 rintro e w' ⟨rfl,d',n,os,hp,hs,rfl⟩
 have hd' :d'.size=s.l.length:=by rw [hp.1,hds]
 have Gi:(d'.toList.map Subtype.val).Perm s.l:=by
  have h9:=hp.2.2
  have e1:(d'.extract 0 s.l.length).toList=d'.toList:=by rw [<-hd'];simp
  have e2:(s.l.attach.toArray.extract 0 s.l.length).toList=s.l.attach:=by simp;exact QR (by simp)
  rw [e1,e2] at h9
  have:=h9.map Subtype.val
  rwa [List.attach_map_subtype_val] at this
 have HN:(d'.toList.map Subtype.val).length=s.l.length:=by simp [hd']
 refine ⟨_,V,V,d'.toList.map Subtype.val,Gi,?_,?_⟩
 ·rw [List.pairwise_map,lS]
  intro i j hi hj Tk
  have h9:=hs i j (wX _) Tk (by rw [<-hd'];simpa using hj)
  simp only [ltOf,decide_eq_false_iff_not] at h9
  rw [getElem!_pos d' j (by simpa using hj),getElem!_pos d' i (by simpa using hi)] at h9
  simpa using h9
 ·have zrE:=bb (Subtype.val: {x//x∈s.l}->α) k hk h0 d'
  have Rg:(flatK (λx: {x//x∈s.l} =>cellsOf x.1) k d').size=s.l.length*k:=by rw [UQ,hd']
  refine hS.put (i:=0) V ((WB _ k W b n d' os).mono λc l8=>by show s.v.ownBlock=_;rw [hv,l8];rfl) ⟨⟨?_,.inr ⟨b,cap,_,?_,wX _,HF _ k W b n d' os hb,?_,GX,?_,?_⟩⟩,?_,λi hi=>?_⟩ (λc l8=> .inl (by show s.v.ownBlock=some c;rw [hv];exact l8)) (λc l8=>?_) (λc l8 Ye=>?_)
  ·rw [qe]
  ·show Value.slice _ s.l.length cap= .slice _ (d'.toList.map Subtype.val).length cap
   rw [HN]
  ·show (d'.toList.map Subtype.val).length<=cap
   rw [HN];exact hle
  ·rw [BO];exact XH
  ·show List.take ((d'.toList.map Subtype.val).length*zz.sz α) _=qH _
   rw [HN,hk,<-Rg,BQ _ _ (by rw [Rg,XH,hk];exact hnk)]
   exact zrE
  ·show (d'.toList.map Subtype.val).length<=_
   rw [HN];exact hl
  ·have wm:i<d'.toList.length:=by simpa using hi
   show zz.inner (nth (d'.toList.map Subtype.val) i) _
   rw [qq _ _ hi,List.getElem_map]
   exact U5 n os d' _
  ·obtain ⟨i,hi,Wl⟩:=l8
   have hm:nth (d'.toList.map Subtype.val) i∈s.l:=Gi.subset (qb _ _ hi)
   obtain ⟨j,hj⟩:=kG hm
   obtain ⟨qU,e⟩:=List.getElem?_eq_some_iff.1 hj
   exact .inr (.inl ⟨j,qU,by rw [qq _ _ qU,e];exact Wl⟩)
  ·obtain ⟨i,hi,Wl⟩:=Ye
   have hm:nth (d'.toList.map Subtype.val) i∈s.l:=Gi.subset (qb _ _ hi)
   have zrX:c=b:=by
    have:(Value.slice (some ⟨b,0,none⟩) s.l.length cap).ownBlock=some c:=l8
    exact (qA this).symm
   exact gI _ hm (zrX▸Wl)
end
end Go.Proofs.YtmjkobhkkjgplaaGreatDoor
namespace Go.Proofs.YtmjkobhkkjgplaaGreatDoor.Dr
open Go.RowKit
set_option linter.unusedSimpArgs false
set_option linter.unusedVariables false
set_option maxRecDepth 100000
set_option maxHeartbeats 2000000
def vz (a b:Int):Int:=if a<b then-1 else if b<a then 1 else 0
def vS :List Int->List Int->Int
 | [],[]=>0
 | [],_::_=> -1
 |_::_,[]=>1
 |a::l,b::m=>if vz a b≠0 then vz a b else vS l m
def BR :List Int->Int
 | []=>0
 |a::l=>if a≠0 then a else BR l
theorem Qt {l:List Int}{i:Nat}(h:i<l.length):l.drop i=nth l i::l.drop (i+1):=by rw [qq _ _ h];exact JV h
theorem rK {l:List Int}{i:Nat}(h:i<l.length)(hi:BR (l.drop i)=BR l)(hn:¬nth l i=0):nth l i=BR l:=by rw [<-hi,Qt h,BR,if_pos hn]
theorem zbh {l:List Int}{i:Nat}(h:i<l.length)(hi:BR (l.drop i)=BR l)(hn:nth l i=0):BR (l.drop (i+1))=BR l:=by rw [<-hi,Qt h,BR,if_neg (by simpa using hn)]
theorem rL {l:List Int}{i:Nat}(h:i=l.length)(hi:BR (l.drop i)=BR l):0=BR l:=by rw [<-hi,h,List.drop_length];rfl
theorem GK {x y:List Int}{i:Nat}(h:i<x.length)(h2:i<y.length)(hi:vS (x.drop i) (y.drop i)=vS x y)(hn:¬vz (nth x i) (nth y i)=0):vz (nth x i) (nth y i)=vS x y:=by rw [<-hi,Qt h,Qt h2,vS,if_pos hn]
theorem Pu {x y:List Int}{i:Nat}(h:i<x.length)(h2:i<y.length)(hi:vS (x.drop i) (y.drop i)=vS x y)(hn:vz (nth x i) (nth y i)=0):vS (x.drop (i+1)) (y.drop (i+1))=vS x y:=by rw [<-hi,Qt h,Qt h2,vS,if_neg (by simpa using hn)]
theorem We {x y:List Int}{i:Nat}(h:i<x.length)(h2:y.length<=i)(hi:vS (x.drop i) (y.drop i)=vS x y):1=vS x y:=by rw [<-hi,Qt h,List.drop_of_length_le h2];rfl
theorem Qu {x y:List Int}{i:Nat}(h:i=x.length)(hi:vS (x.drop i) (y.drop i)=vS x y):(if i<y.length then-1 else 0)=vS x y:=by
 rw [<-hi,h,List.drop_length]
 by_cases h2:x.length<y.length
 ·rw [if_pos h2,Qt h2];rfl
 ·rw [if_neg h2,List.drop_of_length_le za];rfl
def nb (a b:zC):Int:=BR [vz a.st b.st,vS a.words.l b.words.l,vS a.zd.l b.zd.l]
theorem Sn (a:Int)(W:World):
    zP Tryz.prog 95 [.int .i64 a] W (λv w' =>v= .bool false/\qM W w' []):=by
 refine gen Tryz.func95 Tryz.ntmps95 (qM.start _:Sh (λ_=>False) W W []) V λjP z7=>gG z7<|sG (oM 1 V<|.nl)<|sG (oM 2 V<|QW _ _ V<|oM 1 V<|.nl)<|gR<|λPW A0 QO=>zu (fn:=Tryz.f95) (t:=2) V QO V<|⟨?_,(QO.sh.zY [] V)⟩;clear z7
 simp
theorem Ku (a b:Int)(W:World):
    zP Tryz.prog 55 [.int .i64 a,.int .i64 b] W (λv w' =>v= .int .i64 (vz a b)/\qM W w' []):=by
 refine gen Tryz.func55 Tryz.ntmps55 (qM.start _:Sh (λ_=>False) W W []) V λjP z7=>gG z7<|sG (oM 1 V<|.nl)<|sK λ_ j1=>zn (oM 1 V<|.nl)<|gP (λ_ _ h_=>gQ h_ zak V (Sn a _)) V<|zn (oM 1 V<|.nl)<|nK j1<|sK λ_ Xp=>zn (oM 1 V<|.nl)<|gP (λ_ _ h_=>gQ h_ zak V (Sn b _)) V<|zn (oM 1 V<|.nl)<|nK Xp<|gK λ_ nC=>sG (oM 1 V<|.nl)<|Q1 V V<|gS<|hK nC<|gK λ_ JH=>sG (oM 1 V<|.nl)<|Q1 V V<|gS<|hK JH<|gK λ_ K7=>sG (oM 2 V<|fG _ _ V<|.nl)<|?_;clear z7
 refine gcd V (λGp cZ=>?_) λGp cZ=>?_
 ·skip
  refine sG (oM 1 V<|.nl)<|gR<|uT<|λa24 dN wJ=>zu (fn:=Tryz.f55) (t:=4) V wJ V<|⟨?_,(wJ.sh.zY [] V)⟩
  unfold vz
  first|(rw [if_pos za];done)|(rw [if_neg za,if_pos za];done)|(rw [if_neg za,if_neg za])
 refine gS<|hK K7<|gK λ_ Re=>sG (oM 2 V<|zbm _ _ V<|.nl)<|gcd V (λdb FH=>?_) λdb FH=>?_
 ·skip
  refine sG (oM 1 V<|.nl)<|gR<|uT<|λmg lW w8=>zu (fn:=Tryz.f55) (t:=4) V w8 V<|⟨?_,(w8.sh.zY [] V)⟩
  unfold vz
  first|(rw [if_pos za];done)|(rw [if_neg za,if_pos za];done)|(rw [if_neg za,if_neg za])
 refine gS<|hK Re<|sG (oM 1 V<|.nl)<|gR<|λa31 dM ZW=>zu (fn:=Tryz.f55) (t:=4) V ZW V<|⟨?_,(ZW.sh.zY [] V)⟩
 unfold vz
 first|(rw [if_pos za];done)|(rw [if_neg za,if_pos za];done)|(rw [if_neg za,if_neg za])
theorem Sg (x:Ls Int)(W:World)(hx:x.At W):
    zP Tryz.prog 54 [x.v] W (λv w' =>v= .int .i64 (BR x.l)/\qM W w' []):=by
 refine gen Tryz.func54 Tryz.ntmps54 (qM.ext1 hx:Sh (λ_=>False) W W [.at_ x]) V λjP z7=>gG z7<|sG (oM 1 V<|.nl)<|sG (oM 1 V<|.nl)<|gK λ_ gu=>sK λ_ Xp=>y4 (aA 0 V) λB3=>zn (oM 1 V<|wk zt (aA 0 V) V<|oM 1 V<|.nl)<|nK Xp<|gB<|λa17 By jk=>qE (λm a w=>∃(i:Nat),(i<=x.l.length)/\(BR (x.l.drop i)=BR x.l)/\St 18 (λ_=>False) W a w [(3,.int .i64 0),(6,x.v),(7,.int .i64 ((x.l.length:Nat):Int)),(8,.int .i64 ((i:Nat):Int))] [.at_ x]/\m=x.l.length-i) ⟨_,0,za,(V),jk.nf ⟨V,V,V,V,trivial⟩,V⟩ ?_;clear z7
 clear jk
 rintro m16 BK Hy ⟨i,hi,hor,w9,HM⟩
 refine gG w9<|sG (xk _ _ V<|.nl)<|gK λ_ Va=>gcd V (λwQ Ki=>?_) λwQ Ki=>?_;clear w9
 ·skip
  refine gS<|hK Va<|gK λ_ cH=>gB<|sG (jo zt zj (aA 0 V) _ zp V<|wx zj (aA 0 V) zp V<|oM 1 V<|.nl)<|sG (oM 2 V<|QW _ _ V<|.nl)<|gcd V (λXj oc=>?_) λXj oc=>?_
  ·skip
   refine sG (oM 2 V<|.nl)<|gR<|uB<|uT<|uT<|uB<|uT<|λa26 lX Y0=>zu (fn:=Tryz.f54) (t:=2) V Y0 V<|⟨?_,(Y0.sh.zY [] V)⟩
   congr 1
   first|exact rK za hor za|exact rL za hor
  refine gS<|hK cH<|gL<|zn (yl _ 1 zp V<|oM 1 V<|.nl)<|nN<|λMW MG Ko=>zH ⟨_,?_,i+1,?_,?_,Ko.nf ⟨V,V,V,V,trivial⟩,V⟩
  · rw [HM];first|omega|(simp only [qf];omega)
  · omega
  · exact zbh za hor za
 refine gX<|hK gu<|sG (oM 2 V<|.nl)<|gR<|λmg lW w8=>zu (fn:=Tryz.f54) (t:=2) V w8 V<|⟨?_,(w8.sh.zY [] V)⟩
 congr 1
 first|exact rK za hor za|exact rL za hor
theorem LL (x y:Ls Int)(W:World)(hx:x.At W)(hy:y.At W):
    zP Tryz.prog 140 [x.v,y.v] W (λv w' =>v= .int .i64 (vS x.l y.l)/\qM W w' []):=by
 refine gen Tryz.func140 Tryz.ntmps140 (qM.Jo hx hy:Sh (λ_=>False) W W [.at_ x,.at_ y]) V λjP z7=>gG z7<|sG (oM 1 V<|.nl)<|gK λ_ j1=>sK λ_ gu=>y4 (aA 0 V) λDv=>zn (oM 1 V<|wk zt (aA 0 V) V<|oM 1 V<|.nl)<|nK gu<|gB<|λBK Hy w9=>qE (λm a w=>∃(i:Nat),(i<=x.l.length)/\(vS (x.l.drop i) (y.l.drop i)=vS x.l y.l)/\(i<=y.l.length)/\St 36 (λ_=>False) W a w [(0,x.v),(1,y.v),(9,x.v),(10,.int .i64 ((x.l.length:Nat):Int)),(11,.int .i64 ((i:Nat):Int))] [.at_ x,.at_ y]/\m=x.l.length-i) ⟨_,0,za,(V),za,w9.nf ⟨V,V,V,V,V,trivial⟩,V⟩ ?_;clear z7
 clear w9
 rintro m15 HT Hz ⟨i,hi,GX,hiy,xr,B2⟩
 refine gG xr<|sG (xk _ _ V<|.nl)<|gK λ_ JH=>gcd V (λZB Uv=>?_) λZB Uv=>?_;clear xr
 ·skip
  refine gS<|hK JH<|gK λ_ K7=>gB<|sG (oM 1 V<|jo zt zj (aA 0 V) _ zp V<|wx zj (aA 0 V) zp V<|oM 2 V<|.nl)<|gK λ_ J9=>sK λ_ V6=>y4 (aA 1 V) λzrm=>zn (oM 2 V<|wk zt (aA 1 V) V<|zbn _ _ V<|.nl)<|nK V6<|gcd V (λDI cY=>?_) λDI cY=>?_
  ·skip
   refine sG (oM 1 V<|.nl)<|gR<|uT<|uB<|uT<|uT<|uB<|uT<|λMW MG Ko=>zu (fn:=Tryz.f140) (t:=4) V Ko V<|⟨?_,(Ko.sh.zY [] V)⟩
   congr 1
   first|exact GK za za GX za|exact We za za GX|(rw [<-Qu (show i=x.l.length from za) GX,if_pos za];done)|(rw [<-Qu (show i=x.l.length from za) GX,if_neg za])
  refine gS<|hK J9<|sG (oM 2 V<|jo zt zj (aA 1 V) _ zp V<|wx zj (aA 1 V) zp V<|oM 1 V<|.nl)<|sK λ_ k29=>zn (oM 2 V<|.nl)<|gP (λ_ _ h_=>gQ h_ Bc V (Ku (nth x.l i) (nth y.l i) _)) V<|zn (oM 1 V<|.nl)<|nK k29<|sG (oM 1 V<|QW _ _ V<|.nl)<|gcd V (λI0 n5=>?_) λI0 n5=>?_
  ·skip
   refine sG (oM 2 V<|.nl)<|gF [4] V<|gR<|uB<|uT<|uT<|uB<|uT<|λpz mu YA=>zu (fn:=Tryz.f140) (t:=4) V YA V<|⟨?_,(YA.sh.zY [] V)⟩
   congr 1
   first|exact GK za za GX za|exact We za za GX|(rw [<-Qu (show i=x.l.length from za) GX,if_pos za];done)|(rw [<-Qu (show i=x.l.length from za) GX,if_neg za])
  refine gS<|hK K7<|gL<|zn (yl _ 1 zp V<|oM 1 V<|.nl)<|nN<|λa35 ME Yz=>zH ⟨_,?_,i+1,?_,?_,?_,Yz.nf ⟨V,V,V,V,V,trivial⟩,V⟩
  · rw [B2];first|omega|(simp only [qf];omega)
  · omega
  · exact Pu za za GX za
  · omega
 refine gX<|hK j1<|gK λ_ ia=>sK λ_ Dd=>y4 (aA 1 V) λzxw=>zn (oM 1 V<|wk zt (aA 0 V) V<|oM 1 V<|wk zt (aA 1 V) V<|xk _ _ V<|.nl)<|nK Dd<|gcd V (λzdy zcB=>?_) λzdy zcB=>?_
 ·skip
  refine sG (oM 1 V<|.nl)<|gR<|uT<|λa41 w41 sF=>zu (fn:=Tryz.f140) (t:=4) V sF V<|⟨?_,(sF.sh.zY [] V)⟩
  congr 1
  first|exact GK za za GX za|exact We za za GX|(rw [<-Qu (show i=x.l.length from za) GX,if_pos za];done)|(rw [<-Qu (show i=x.l.length from za) GX,if_neg za])
 refine gS<|hK ia<|sG (oM 1 V<|.nl)<|gR<|λPQ MD J2=>zu (fn:=Tryz.f140) (t:=4) V J2 V<|⟨?_,(J2.sh.zY [] V)⟩
 congr 1
 first|exact GK za za GX za|exact We za za GX|(rw [<-Qu (show i=x.l.length from za) GX,if_pos za];done)|(rw [<-Qu (show i=x.l.length from za) GX,if_neg za])
theorem rJ (o1 o2:zC)(W:World)(ha:zz.inner o1 W)(hb:zz.inner o2 W):
    zP Tryz.prog 98 [.agg #[.int .i64 o1.st,o1.words.v,o1.zd.v],.agg #[.int .i64 o2.st,o2.words.v,o2.zd.v]] W (λv w' =>v= .int .i64 (nb o1 o2)/\qM W w' []):=by
 refine gen Tryz.func98 Tryz.ntmps98 (qM.ext (by intro A hA;simp only [z6,qd,or_false] at hA;rcases hA with rfl|rfl|rfl|rfl;exact ha.1;exact ha.2;exact hb.1;exact hb.2) (by intro A hA b YJ;simp only [z6,qd,or_false] at hA;rcases hA with rfl|rfl|rfl|rfl<;>exact YJ):Sh (λ_=>False) W W [.at_ o1.words,.at_ o1.zd,.at_ o2.words,.at_ o2.zd]) V λjP z7=>gG z7<|sK λ_ kz=>XV V V λxX=>XV V V λgk=>zn (oM 1 V<|.nl)<|nK kz<|gK λ_ Xp=>λHT Hz xr=>ka 15 [] zb zb xr λ_ z16=>qQ xr.fr<|vu (qB Y4 V<|qw 1 zj V V<|qB Y4 V<|qw 0 zj V V<|.nl)<|qP Bc V (λw h=>(Ku o1.st o2.st _))<|vu (qB Y3 V<|qw 1 zV V V<|qB Y3 V<|qw 0 zV V V<|.nl)<|qP Md V (λw h=>(LL o1.words o2.words _ (h.at 2 V) (h.at 4 V)))<|vu (qB Wa V<|qw 1 zV V V<|qB Wa V<|qw 0 zV V V<|.nl)<|qP Md V (λw h=>(LL o1.zd o2.zd _ (h.at 3 V) (h.at 5 V)))<|qN z16<|xb (λ_ _ h_=>qF (n:=3) (cs:= [.int .i64 (vz o1.st o2.st),.int .i64 (vS o1.words.l o2.words.l),.int .i64 (vS o1.zd.l o2.zd.l)]) ([vz o1.st o2.st,vS o1.words.l o2.words.l,vS o1.zd.l o2.zd.l]:List Int) h_ zt zj V V V zf V zb V (λq hq w h=>Flat.inner _ _) (λq hq b hb=>(Flat.on _ _ hb).elim) V V) V λv17=>gP (λ_ _ h_=>gQ h_ zao V (Sg (⟨v17,[vz o1.st o2.st,vS o1.words.l o2.words.l,vS o1.zd.l o2.zd.l]⟩:Ls Int) _ (h_.sh.own 0 V))) V<|zn (oM 1 V<|.nl)<|nK Xp<|gR<|λPS Na XU=>zu (fn:=Tryz.f98) (t:=4) V XU V ?_;clear z7 xr
 exact ⟨V,(XU.sh.zY [] V)⟩
end Go.Proofs.YtmjkobhkkjgplaaGreatDoor.Dr
namespace Go.Proofs.YtmjkobhkkjgplaaGreatDoor
open Go.Shelf
def UN :Go.Shelf.Ren:=⟨λ|6=>103|15=>94|14=>144|28=>138|29=>139|20=>155|21=>156|22=>157|23=>158|24=>159|25=>160|26=>161|27=>162|46=>168|47=>149|48=>150|49=>169|50=>170|57=>175|n=>n,λ|22=>35|24=>39|25=>145|3=>3|39=>143|0=>0|53=>200|55=>202|4=>4|46=>193|45=>192|50=>197|5=>5|9=>9|66=>216|70=>220|76=>234|77=>235|n=>n,λ|n=>n⟩
theorem Nr :Go.Proofs.SlLaysF0.n6 Tryz.prog UN:= {
 mixed:=zb
 f6:=⟨Tryz.f103.name,zf,Tryz.func103.trans (congrArg some zb)⟩
 f14:=⟨Tryz.f144.name,zf,Tryz.func144.trans (congrArg some zb)⟩
 f15:=Tryz.func94.trans (congrArg some zb)
 f20:=⟨Tryz.f155.name,zf,Tryz.func155.trans (congrArg some zb)⟩
 f21:=⟨Tryz.f156.name,zf,Tryz.func156.trans (congrArg some zb)⟩
 f22:=⟨Tryz.f157.name,zf,Tryz.func157.trans (congrArg some zb)⟩
 f23:=⟨Tryz.f158.name,zf,Tryz.func158.trans (congrArg some zb)⟩
 f24:=⟨Tryz.f159.name,zf,Tryz.func159.trans (congrArg some zb)⟩
 f25:=⟨Tryz.f160.name,zf,Tryz.func160.trans (congrArg some zb)⟩
 f26:=⟨Tryz.f161.name,zf,Tryz.func161.trans (congrArg some zb)⟩
 f27:=⟨Tryz.f162.name,zf,Tryz.func162.trans (congrArg some zb)⟩
 f28:=Tryz.func138.trans (congrArg some zb)
 f29:=Tryz.func139.trans (congrArg some zb)
 f46:=⟨Tryz.f168.name,zf,Tryz.func168.trans (congrArg some zb)⟩
 f47:=Tryz.func149.trans (congrArg some zb)
 f48:=Tryz.func150.trans (congrArg some zb)
 f49:=⟨Tryz.f169.name,zf,Tryz.func169.trans (congrArg some zb)⟩
 f50:=⟨Tryz.f170.name,zf,Tryz.func170.trans (congrArg some zb)⟩
 f57:=⟨Tryz.f175.name,zf,Tryz.func175.trans (congrArg some zb)⟩
 t0:=Tryz.underlying0
 a0:=Tryz.isAgg0
 z0:=Tryz.sizeOf0
 v0:=Tryz.zeroValue0
 t3:=Tryz.underlying3
 a3:=Tryz.isAgg3
 z3:=Tryz.sizeOf3
 v3:=Tryz.zeroValue3
 t4:=Tryz.underlying4
 a4:=Tryz.isAgg4
 z4:=Tryz.sizeOf4
 v4:=Tryz.zeroValue4
 t5:=Tryz.underlying5
 a5:=Tryz.isAgg5
 z5:=Tryz.sizeOf5
 v5:=Tryz.zeroValue5
 t9:=Tryz.underlying9
 a9:=Tryz.isAgg9
 z9:=Tryz.sizeOf9
 v9:=Tryz.zeroValue9
 t22:=Tryz.underlying35
 a22:=Tryz.isAgg35
 z22:=Tryz.sizeOf35
 v22:=Tryz.zeroValue35
 t25:=Tryz.underlying145
 a25:=Tryz.isAgg145
 z25:=Tryz.sizeOf145
 v25:=Tryz.zeroValue145
 t39:=Tryz.underlying143
 a39:=Tryz.isAgg143
 z39:=Tryz.sizeOf143
 v39:=Tryz.zeroValue143
 t45:=Tryz.underlying192
 a45:=Tryz.isAgg192
 z45:=Tryz.sizeOf192
 v45:=Tryz.zeroValue192
 t46:=Tryz.underlying193
 a46:=Tryz.isAgg193
 z46:=Tryz.sizeOf193
 v46:=Tryz.zeroValue193
 t50:=Tryz.underlying197
 a50:=Tryz.isAgg197
 z50:=Tryz.sizeOf197
 v50:=Tryz.zeroValue197
 t53:=Tryz.underlying200
 a53:=Tryz.isAgg200
 z53:=Tryz.sizeOf200
 v53:=Tryz.zeroValue200
 t55:=Tryz.underlying202
 a55:=Tryz.isAgg202
 z55:=Tryz.sizeOf202
 v55:=Tryz.zeroValue202
 t66:=Tryz.underlying216
 a66:=Tryz.isAgg216
 z66:=Tryz.sizeOf216
 v66:=Tryz.zeroValue216
 t70:=Tryz.underlying220
 a70:=Tryz.isAgg220
 z70:=Tryz.sizeOf220
 v70:=Tryz.zeroValue220
 t76:=Tryz.underlying234
 a76:=Tryz.isAgg234
 z76:=Tryz.sizeOf234
 v76:=Tryz.zeroValue234
 t77:=Tryz.underlying235
 a77:=Tryz.isAgg235
 z77:=Tryz.sizeOf235
 v77:=Tryz.zeroValue235 }
end Go.Proofs.YtmjkobhkkjgplaaGreatDoor
namespace Go.Proofs.YtmjkobhkkjgplaaGreatDoor
open Go.RowKit
set_option linter.unusedSimpArgs false
set_option linter.unusedVariables false
section
variable {P:Program}{o:Oper}{N:Nat}{K:Nat->Prop}{W w:World}{a:Act}{F:List (Nat×Value)}{L:List zZ}{α:Type}[zz α]
theorem St.zaM (r:Nat){E:TypeId}{s:Ls α}(h:St N K W a w F L)(hi:L[r]? =some (.own E s))(j:Nat)(hj:j<=s.l.length)(h0:0<s.l.length):St N K W a w F (L.set r (.own E (⟨kC s.v j,s.l.take j⟩:Ls α))):=by
 obtain ⟨⟨h1,h2⟩,h3,h4⟩:=h.sh.ok _ (zy hi)
 have Dj:=h.sh.self _ (zy hi)
 have ht:(s.l.take j).length=j:=by rw [vU];omega
 rcases h2 with ⟨_,hn⟩|⟨g,cap,cur,hv,hb,hg,hc,hm,hs,he⟩
 ·omega
 ·have Ou:kC s.v j= .slice (some ⟨g,0,none⟩) j cap:=by rw [hv];rfl
  have hle:j*zz.sz α<=s.l.length*zz.sz α:=WV _ hj
  have BW:∀i,i<(s.l.take j).length->i<s.l.length/\nth (s.l.take j) i=nth s.l i:=λi Yv=>by
   have h9:i<j:=za
   exact ⟨za,by rw [qq _ _ Yv,qq _ _ (show i<s.l.length from za),List.getElem_take]⟩
  refine ⟨h.fr,h.sh.put hi (j2.refl _ _) ⟨⟨?_,.inr ⟨g,cap,cur,?_,hb,hg,?_,hm,hs,?_⟩⟩,?_,?_⟩ ?_ (λb hb=>?_) (λb hb1 hb=>?_)⟩
  ·show (qH (s.l.take j)).length=(s.l.take j).length*_
   rw [XO,vU,h1,ht]
   omega
  ·show kC s.v j= .slice _ (s.l.take j).length cap
   rw [Ou,ht]
  ·show (s.l.take j).length<=cap
   omega
  ·show cur.toList.take ((s.l.take j).length*_)=qH (s.l.take j)
   rw [ht,XO,<-he,List.take_take,JQ hle]
  ·show (s.l.take j).length<=_
   omega
  ·intro i hi
   rw [(BW i hi).2]
   exact h4 i (BW i hi).1
  ·intro b hb
   left
   have xl:(kC s.v j).ownBlock=some b:=hb
   rw [Ou] at xl
   show s.v.ownBlock=some b
   rw [hv]
   exact xl
  ·obtain ⟨i,hi,hb⟩:=hb
   rw [(BW i hi).2] at hb
   exact .inr (.inl ⟨i,(BW i hi).1,hb⟩)
  ·obtain ⟨i,hi,hb⟩:=hb
   rw [(BW i hi).2] at hb
   refine Dj b ?_ ⟨i,(BW i hi).1,hb⟩
   have xl:(kC s.v j).ownBlock=some b:=hb1
   rw [Ou] at xl
   show s.v.ownBlock=some b
   rw [hv]
   exact xl
theorem za0 {T e:TypeId}{g:Bool}{n xf:Nat}{z:List Value}{x y:Operand}{v:Value}{j:Nat}(hT:QA P T=some e)(he:je P e=some (g,n,xf,z))(ho:o.op= .slice T x none (some y) none)(hx:ev F x=some v)(hy:ev F y=some (.int .i64 (j:Int)))
  (hv:∃b m cap,v= .slice (some ⟨b,0,none⟩) m cap/\m<=cap/\j<=m/\0<m):Rn P o N K W F L (kC v j):=λa w h=>by
 obtain ⟨zM,m,cap,rfl,hle,hj,YM⟩:=hv
 obtain ⟨i,d,zv,hi,hd,_,rfl,_⟩:=qR he
 have hu:=yS hT
 have WJ:P.elem T=e:=by simp [Program.elem,hu]
 have dR:P.underlying T=some (.slice (P.elem T)):=by rw [WJ];exact hu
 have hc0:¬cap=0:=za
 have e1:=run_sliceAt_slice (P:=P) w T (.slice (some ⟨zM,0,none⟩) m cap) none (some (.int .i64 (j:Int))) none dR
 have e2:=run_slice_h (P:=P) w T (some ⟨zM,0,none⟩) m cap dR .i64 (j:Int) za za
 rw [WJ,run_sizeOf hi,yQ] at e2
 rw [e2] at e1
 unfold execOp
 simp only [ho,h.fr.ev hx,h.fr.ev hy,ZJ,GR,qS,e1,yQ,q5,sliced,kC]
 simp [wD,hc0]
theorem C5 {E:TypeId}{s:Ls α}{w:World}(h:(zZ.own E s).ok w)(h0:0<s.l.length):∃b cap,s.v= .slice (some ⟨b,0,none⟩) s.l.length cap/\s.l.length<=cap:=by
 obtain ⟨⟨h1,h2⟩,h3,h4⟩:=h
 rcases h2 with ⟨_,hn⟩|⟨g,cap,cur,hv,hb,hg,hc,hm,hs,he⟩
 ·omega
 ·exact ⟨g,cap,hv,hc⟩
theorem tA {v:Value}{b n cap sz i:Nat}(hv:v= .slice (some ⟨b,0,none⟩) n cap):mz (kC v i) sz i n=kQ v sz i:=by subst hv;rfl
theorem Uf {v:Value}{b n cap sz lo q j:Nat}(hv:v= .slice (some ⟨b,0,none⟩) n cap)(hlo:lo<cap):ja (kQ v sz lo) sz q j=ja v sz (lo+q) j:=by
 subst hv
 simp [ja,kQ,bU,A4,show¬cap=lo from za,wD,GP]
theorem tB {v:Value}{i:Nat} :HA (kC v i)=HA v:=by cases v<;>rfl
theorem Zu (x:zC):cellsOf x= [.int .i64 x.st,x.words.v,x.zd.v]:=rfl
theorem bk (x:zC):∀(m:List zC) (i:Nat),i<m.length->qH (m.set i x)=kf (qH m) (i*3) (cellsOf x)
 | [],_,h=>by simp at h
 |y::m,0,_=>by
  have hy:∀(z:zC) (m:List zC),qH (z::m)=cellsOf z++qH m:=λz m=>by simp [qH]
  rw [List.set_cons_zero,hy,hy]
  simp [kf,Zu]
 |y::m,i+1,h=>by
  have hy:∀(z:zC) (m:List zC),qH (z::m)=cellsOf z++qH m:=λz m=>by simp [qH]
  rw [List.set_cons_succ,hy,hy,bk x m i (by simpa using h)]
  have e3:(i+1)*3=3+i*3:=za
  have hc:∀z:zC,(cellsOf z).length=3:=λz=>rfl
  simp only [kf,e3,List.take_append,List.drop_append,hc]
  rw [QR (l:=cellsOf y) (by rw [hc];omega),List.drop_of_length_le (l:=cellsOf y) (by rw [hc];omega)]
  have e4:3+i*3-3=i*3:=za
  have e5:3+i*3+3-3=i*3+3:=za
  rw [e4,e5]
  simp
theorem MY {T:TypeId}{gg:Bool}{xf:Nat}{z:List Value}{x y:Operand}{i j r:Nat}{E:TypeId}{s:Ls zC}(h:St N K W a w F L)(hT:je P T=some (gg,3,xf,z))(ho:o.op= .store T x y)(hd:o.dst=none)
  (hx:ev F x=some (.pointer (some (ja s.v 3 i 0)))) (hr:L[r]? =some (.own E s)) (hi:i<s.l.length) (hj:j<s.l.length) (hy:ev F y=some (.agg #[.int .i64 (nth s.l j).st,(nth s.l j).words.v,(nth s.l j).zd.v])):
  Ex P o a w (λa' w' =>St N K W a' w' F (L.set r (.own E ⟨s.v,s.l.set i (nth s.l j)⟩))):=by
 obtain ⟨ti,e,zv,EZ,he,_,hs,_⟩:=qR hT
 have zR:=h.sh.ok _ (zy hr)
 have Dj:=h.sh.self _ (zy hr)
 obtain ⟨wP,hlen,Kj⟩:=zR
 rcases wP.2 with ⟨_,h0⟩|⟨g,cap,cur,Wj,sC,hg,hn,hm,XH,ig⟩
 ·omega
 have x3:zz.sz zC=3:=rfl
 rw [x3] at XH ig
 have hp:ja s.v 3 i 0=⟨g,i*3,none⟩:=by rw [Wj];simp [ja,bU,A4]
 have hB:xB w g E cur:=hg
 have h4:i*3+3<=cur.size:=by rw [XH];omega
 have OX:=Kj j hj
 obtain ⟨x',MN⟩:∃x',x' =nth s.l j:=⟨_,V⟩
 rw [<-MN] at hy OX⊢
 have yN:=run_storeCells_at P g (i*3) E (cellsOf x') 0 cur w hB (by rw [Zu];simp;omega) (λu hu=>by
  rw [Zu] at hu
  simp only [z6,qd,or_false] at hu
  rcases hu with rfl|rfl|rfl
  ·rfl
  ·exact Ls.At.one (s:=x'.words) OX.1
  ·exact Ls.At.one (s:=x'.zd) OX.2)
 have qg:cur.toList.length=cap*3:=by simpa using XH
 have zdl:(kf cur.toList (i*3) (cellsOf x')).take (s.l.length*3)=qH (s.l.set i x'):=by
  rw [bk x' s.l i hi,<-ig]
  have hvl:(cellsOf x').length=3:=rfl
  simp only [kf,hvl]
  apply Hr
  intro k
  simp only [VI,List.getElem?_append,GS,vU,yX,hvl,v7,qg]
  have e6:min (i*3) (cap*3)=i*3:=za
  have e7:min (i*3) (min (s.l.length*3) (cap*3))=i*3:=za
  simp only [e6,e7]
  repeat' split
  all_goals first|rfl|(exfalso;omega)|(congr 1;omega)
 have Du:∀q,q<(s.l.set i x').length->∃p,p<s.l.length/\nth (s.l.set i x') q=nth s.l p:=λq hq=>by
  have Vq:q<s.l.length:=by simpa using hq
  rw [jt]
  split
  ·exact ⟨j,hj,MN⟩
  ·exact ⟨q,Vq,V⟩
 refine Ex.VV (w' :=w.setRow g (kf cur.toList (i*3) (cellsOf x')).toArray) ?_ ?_
 ·unfold execOp
  have zpJ:(Value.agg #[.int .i64 x'.st,x'.words.v,x'.zd.v]).cells.size=ti.size:=by simp [Value.cells,hs]
  have hce:(Value.agg #[.int .i64 x'.st,x'.words.v,x'.zd.v]).cells.toList=cellsOf x' :=by simp [Value.cells,Zu]
  simp only [ho,h.fr.ev hx,h.fr.ev hy,Instr.storeAt,Instr.sureAddr,storeVar,qS,q5,yQ,run_sizeOf EZ]
  simp only [zpJ,ne_eq,not_true_eq_false,if_false,hce,Kz,hp] at yN⊢
  rw [yN]
  simp [kf]
 ·rw [hd]
  have J0:(zZ.own E s).fp g:=by show s.v.ownBlock=some g;rw [Wj];rfl
  have hch:j2 (λb=>(zZ.own E s).fp b) w (w.setRow g (kf cur.toList (i*3) (cellsOf x')).toArray):=⟨V,V,V,by simp [World.setRow],λb hb Qo=>setRow_other w g b _ (λe=>Qo (by rw [e];exact J0))⟩
  refine ⟨h.fr,h.sh.put hr hch ⟨⟨?_,.inr ⟨g,cap,_,?_,sC,setRow_heap w g _ _ E (0,0) hB,by simpa using hn,hm,?_,?_⟩⟩,by simpa using hlen,λq hq=>?_⟩ (λb hb=> .inl hb) (λb hb=>?_) (λb hb xl=>?_)⟩
  ·rw [qe]
  ·show s.v=_
   rw [Wj,XP]
  ·rw [x3]
   have hvl:(cellsOf x').length=3:=rfl
   simp only [kf]
   rw [bE,yX,yX,vU,v7,hvl,qg]
   omega
  ·rw [x3,XP]
   simpa using zdl
  ·obtain ⟨p,hp9,e9⟩:=Du q hq
   rw [e9]
   refine zz.yB _ w _ (Kj p hp9) λb hb=>hch.same b (zz.lt _ w (Kj p hp9) b hb) λhf=>Dj b hf ⟨p,hp9,hb⟩
  ·obtain ⟨q,hq,hb⟩:=hb
   obtain ⟨p,hp9,e9⟩:=Du q hq
   rw [e9] at hb
   exact .inr (.inl ⟨p,hp9,hb⟩)
  ·obtain ⟨q,hq,I2⟩:=xl
   obtain ⟨p,hp9,e9⟩:=Du q hq
   rw [e9] at I2
   exact Dj b hb ⟨p,hp9,I2⟩
end
section
variable {α:Type}[Inhabited α]
def Yr (eq:α->α->Bool)(l:List α)(i:Nat):Bool:=decide (i=0)|| !eq (nth l i) (nth l (i-1))
def j4 (eq:α->α->Bool)(l:List α)(m:Nat):List α:=((List.range m).filter (Yr eq l)).map (nth l)
theorem XC {eq:α->α->Bool}{l:List α}{m:Nat}(h:Yr eq l m=true):j4 eq l (m+1)=j4 eq l m++ [nth l m]:=by
 unfold j4;rw [YG,bF,yi];simp [h]
theorem Vn {eq:α->α->Bool}{l:List α}{m:Nat}(h:Yr eq l m=false):j4 eq l (m+1)=j4 eq l m:=by
 unfold j4;rw [YG,bF,yi];simp [h]
theorem EH (eq:α->α->Bool)(l:List α)(m:Nat):(j4 eq l m).length<=m:=by
 unfold j4;rw [yw];exact vZ (bI _ _) (by simp)
theorem XD {eq:α->α->Bool}{l:List α}{m:Nat}(hm:m<=l.length)(h:∀i,0<i->i<m->eq (nth l i) (nth l (i-1))=false):j4 eq l m=l.take m:=by
 induction m with
 |zero=>simp [j4]
 |succ m ih=>
  have hk:Yr eq l m=true:=by
   unfold Yr
   rcases Hu m with rfl|h0
   ·rfl
   ·rw [h m h0 (Nat.lt_succ_self m)];simp
  rw [XC hk,ih za (λi h1 h2=>h i h1 za),zS _ _ za]
end
theorem hG {l:List xR}{eq:xR->xR->Bool}(he:∀a b,eq a b=true↔a=b)(hs:l.Pairwise λa b=>yh b a=false):j0 (j4 eq l l.length)/\∀o,o∈j4 eq l l.length↔o∈l:=by
 have key:∀m,m<=l.length->j0 (j4 eq l m)/\(∀o,o∈j4 eq l m↔o∈l.take m):=by
  intro m
  induction m with
  |zero=>intro _;exact ⟨List.Pairwise.nil,λo=>by simp [j4]⟩
  |succ m ih=>
   intro hm
   obtain ⟨h1,h2⟩:=ih za
   have qU:m<l.length:=za
   have hle:∀o∈l.take m,yh (nth l m) o=false:=by
    intro o ho
    obtain ⟨i,hi⟩:=kG ho
    obtain ⟨uN,e⟩:=List.getElem?_eq_some_iff.1 hi
    have Dy:i<m:=by simp at uN;omega
    have h9:=List.pairwise_iff_getElem.1 hs i m za qU Dy
    rw [qq _ _ qU,<-e,List.getElem_take]
    exact h9
   cases hk:Yr eq l m with
   |true=>
    rw [XC hk,zS _ _ qU]
    refine ⟨?_,λo=>by rw [GQ,GQ,h2 o]⟩
    refine List.pairwise_append.2 ⟨h1,WX _ _,λa ha b hb=>?_⟩
    obtain rfl:b=nth l m:=by simpa using hb
    have mb:=(h2 a).1 ha
    have h3:=hle a mb
    cases h4:yh a (nth l m) with
    |true=>rfl
    |false=>
     exfalso
     have e:=Ju h4 h3
     obtain ⟨i,hi⟩:=kG mb
     obtain ⟨uN,e1⟩:=List.getElem?_eq_some_iff.1 hi
     have Dy:i<m:=by simp at uN;omega
     have ON:0<m:=za
     have e2:l[i]'za=l[m]:=by
      have:(l.take m)[i]=l[i]'za:=List.getElem_take
      rw [<-this,e1,e,qq _ _ qU]
     have e3:nth l (m-1)=nth l m:=by
      rw [qq _ _ (show m-1<l.length from za),qq _ _ qU]
      rcases yq i (m-1) with h5|h5
      ·have q1:=List.pairwise_iff_getElem.1 hs i (m-1) za za h5
       have q2:=List.pairwise_iff_getElem.1 hs (m-1) m za qU za
       rw [e2] at q1
       exact Ju q1 q2
      ·have:i=m-1:=za
       subst this
       exact e2
     unfold Yr at hk
     rw [decide_eq_false za,Bool.false_or,e3] at hk
     have:=(he (nth l m) (nth l m)).2 V
     rw [this] at hk
     cases hk
   |false=>
    rw [Vn hk,zS _ _ qU]
    refine ⟨h1,λo=>?_⟩
    rw [h2 o,GQ,Bn]
    refine ⟨.inl,λho=>ho.elim id λe=>?_⟩
    unfold Yr at hk
    have ON:0<m:=by
     rcases Hu m with rfl|h0
     ·rw [decide_eq_true V,Bool.true_or] at hk;cases hk
     ·exact h0
    rw [decide_eq_false za,Bool.false_or] at hk
    have e4:nth l m=nth l (m-1):=(he _ _).1 (by simpa using hk)
    rw [e,e4,qq _ _ (show m-1<l.length from za)]
    exact zy (i:=m-1) (by rw [VI,if_pos za,QS])
 obtain ⟨h1,h2⟩:=key l.length (qC _)
 exact ⟨h1,λo=>by rw [h2 o,Y9]⟩
set_option maxRecDepth 100000
set_option maxHeartbeats 4000000
theorem s4 (a b:Int):Dr.vz a b<0↔a<b:=by unfold Dr.vz;split<;>(try split)<;>omega
theorem Wg (a b:Int):Dr.vz a b=0↔a=b:=by unfold Dr.vz;split<;>(try split)<;>omega
theorem Rt :∀(l m:List Int),Dr.vS l m=0↔l=m
 | [],[]=>by simp [Dr.vS]
 | [],_::_=>by simp [Dr.vS]
 |_::_,[]=>by simp [Dr.vS]
 |a::l,b::m=>by
  unfold Dr.vS
  by_cases h:Dr.vz a b=0
  ·rw [if_neg (by simpa using h),Rt l m,(Wg a b).1 h];simp
  ·rw [if_pos h]
   constructor
   ·intro h2;exact absurd h2 h
   ·intro h2;exact absurd ((Wg a b).2 (Y8 h2).1) h
theorem dA :∀(l m:List Int),Dr.vS l m<0↔ju l m=true
 | [],[]=>by simp [Dr.vS,ju]
 | [],_::_=>by simp [Dr.vS,ju]
 |_::_,[]=>by simp [Dr.vS,ju]
 |a::l,b::m=>by
  unfold Dr.vS ju
  by_cases h:a=b
  ·rw [if_neg (by simpa using (Wg a b).2 h),if_pos h,dA l m]
  ·rw [if_pos (λh2=>h ((Wg a b).1 h2)),if_neg h,s4];simp
theorem NL (a b:zC):Dr.nb a b=0↔a.out=b.out:=by
 unfold Dr.nb zC.out
 have h1:=Wg a.st b.st
 have h2:=Rt a.words.l b.words.l
 have h3:=Rt a.zd.l b.zd.l
 simp only [Dr.BR,xR.mk.injEq]
 by_cases e1:Dr.vz a.st b.st=0
 ·rw [if_neg (by simpa using e1)]
  by_cases e2:Dr.vS a.words.l b.words.l=0
  ·rw [if_neg (by simpa using e2)]
   by_cases e3:Dr.vS a.zd.l b.zd.l=0
   ·rw [if_neg (by simpa using e3)];exact ⟨λ_=>⟨h1.1 e1,h2.1 e2,h3.1 e3⟩,λ_=>rfl⟩
   ·rw [if_pos e3];exact ⟨λh=>absurd h e3,λh=>absurd (h3.2 h.2.2) e3⟩
  ·rw [if_pos e2];exact ⟨λh=>absurd h e2,λh=>absurd (h2.2 h.2.1) e2⟩
 ·rw [if_pos e1];exact ⟨λh=>absurd h e1,λh=>absurd (h1.2 h.1) e1⟩
theorem Ra (a b:zC):Dr.nb a b<0↔yh a.out b.out=true:=by
 unfold Dr.nb yh
 have h1:=Wg a.st b.st
 have h2:=Rt a.words.l b.words.l
 show _↔(if a.st=b.st then (if a.words.l=b.words.l then ju a.zd.l b.zd.l else ju a.words.l b.words.l) else decide (a.st<b.st))=true
 simp only [Dr.BR]
 by_cases e1:Dr.vz a.st b.st=0
 ·rw [if_neg (by simpa using e1),if_pos (h1.1 e1)]
  by_cases e2:Dr.vS a.words.l b.words.l=0
  ·rw [if_neg (by simpa using e2),if_pos (h2.1 e2),<-dA]
   by_cases e3:Dr.vS a.zd.l b.zd.l=0
   ·rw [if_neg (by simpa using e3),e3]
   ·rw [if_pos e3]
  ·rw [if_pos e2,if_neg (λh=>e2 (h2.2 h)),dA]
 ·rw [if_pos e1,if_neg (λh=>e1 (h1.2 h)),s4];simp
def G2 (a b:zC):Bool:=decide (a.out=b.out)
theorem NK (o1 o2:zC)(W:World)(ha:zz.inner o1 W)(hb:zz.inner o2 W):
  zP Tryz.prog 98 [zz.whole o1,zz.whole o2] W (λv w' =>v= .int .i64 (Dr.nb o1 o2)/\qM W w' []):=by
 refine zP.mono (Dr.rJ o1 o2 W ha hb) ?_
 rintro v w' ⟨rfl,hs⟩
 have hc:=hs.J6
 exact ⟨V,⟨⟨hc.os,hc.tape,hc.output,hc.size,hc.same⟩,λA hA=>(by cases hA),λA hA=>(by cases hA),λA hA=>(by cases hA),.nil⟩⟩
theorem tL (K:Nat->Prop)(s:Ls zC)(W:World)(hS:Sh K W W [.own 39 s]):
  zP Tryz.prog 103 [s.v,.func (.func 98) #[] #[]] W (λv w' =>v= .tuple #[]/\∃l' :List zC,l'.Perm s.l/\(l'.map zC.out).Pairwise (λa b=>yh b a=false)/\Sh K W w' [.own 39 (⟨s.v,l'⟩:Ls zC)]):=by
 have eg:∀args w,(callFunc 98 args).run Tryz.prog w= .ok (.enter 98 args) w:=enters_of Tryz.func98 zb V
 have hc:=Ct (P:=Tryz.prog) (ρ:=UN) Nr (k:=3) Tryz.isAgg39 Tryz.sizeOf39 V V zf Dr.nb (λx h=>by rw [Ra,Jv] at h;cases h) (λx y z h1 h2=>by rw [Ra] at*;exact Ya h1 h2)
  (λx y z h1 h2 h3=>by
   rw [Ra] at*
   cases e1:yh z.out y.out with
   |true=>have h4:=Ya h3 e1;exact h1 h4
   |false=>
    have h5:yh y.out z.out=false:=by simpa using h2
    have h6:=Ju h5 e1
    rw [<-h6] at h3
    exact h1 h3) 98 eg hS
  (λx _ y _ W' hx hy=>by
   refine gJ (Dr.rJ x y W' hx hy) ?_
   rintro e w' ⟨v,he,hv,hs⟩
   exact ⟨by rw [he,hv],hs.J6⟩)
 refine zP.mono hc ?_
 rintro v w' ⟨rfl,l',hp,hs,hsh⟩
 refine ⟨V,l',hp,?_,hsh⟩
 rw [List.pairwise_map]
 refine hs.imp ?_
 intro a b h
 cases h2:yh b.out a.out with
 |false=>rfl
 |true=>exact absurd ((Ra b a).2 h2) h
theorem nA {l:List zC}{i:Nat}(hi:0<i/\i<l.length)(ha:∀j,0<j->j<i->G2 (nth l j) (nth l (j-1))=false)(he:G2 (nth l i) (nth l (i-1))=true):l.take i=j4 G2 l (i+1):=by
 rw [Vn (by unfold Yr;rw [he];simp;omega),XD za ha]
theorem EG {l m:List zC}{p q:Nat}(hm:m.take p=j4 G2 l q)(hp:p<m.length)(h0:0<q)(he:G2 (nth l q) (nth l (q-1))=false):(m.set p (nth l q)).take (p+1)=j4 G2 l (q+1):=by
 rw [XC (by unfold Yr;rw [he];simp),<-hm,zS _ _ (by simpa using hp)]
 congr 1
 ·rw [List.take_set_of_le za]
 ·rw [jt,if_pos ⟨V,hp⟩]
theorem Og {l:List zC}{k:List zC}{q:Nat}(hm:k=j4 G2 l q)(h0:0<q)(he:G2 (nth l q) (nth l (q-1))=true):k=j4 G2 l (q+1):=by
 rw [Vn (by unfold Yr;rw [he];simp;omega),hm]
theorem Cy (o1 o2:zC)(W:World)(ha:zz.inner o1 W)(hb:zz.inner o2 W):
    zP Tryz.prog 105 [.agg #[.int .i64 o1.st,o1.words.v,o1.zd.v],.agg #[.int .i64 o2.st,o2.words.v,o2.zd.v]] W (λv w' =>v= .bool (G2 o1 o2)/\qM W w' []):=by
 refine gen Tryz.func105 Tryz.ntmps105 (qM.ext (by intro A hA;simp only [z6,qd,or_false] at hA;rcases hA with rfl|rfl|rfl|rfl;exact ha.1;exact ha.2;exact hb.1;exact hb.2) (by intro A hA b YJ;simp only [z6,qd,or_false] at hA;rcases hA with rfl|rfl|rfl|rfl<;>exact YJ):Sh (λ_=>False) W W [.at_ o1.words,.at_ o1.zd,.at_ o2.words,.at_ o2.zd]) V λjP z7=>gG z7<|sK λ_ kz=>XV V V λxX=>XV V V λgk=>zn (oM 1 V<|.nl)<|nK kz<|sK λ_ Xp=>zn (kt 1 yD V V<|kt 0 yD V V<|.nl)<|gP (λ_ _ h_=>gQ h_ zlF V (NK o1 o2 _ ⟨h_.sh.at 2 V,h_.sh.at 3 V⟩ ⟨h_.sh.at 4 V,h_.sh.at 5 V⟩)) V<|zn (yK _ _ V<|oM 1 V<|.nl)<|nK Xp<|gR<|λBK Hy w9=>zu (fn:=Tryz.f105) (t:=4) V w9 V<|⟨?_,(w9.sh.zY [] V)⟩;clear z7
 congr 1
 unfold G2
 exact decide_eq_decide.2 (NL o1 o2)
theorem zgd {l:List zC}{i:Nat}(h:∀j,0<j->j<i->G2 (nth l j) (nth l (j-1))=false)(h2:G2 (nth l i) (nth l (i-1))=false):∀j,0<j->j<i+1->G2 (nth l j) (nth l (j-1))=false:=λj h3 h4=>by
 rcases yq j i with h5|h5
 ·exact h j h3 h5
 ·obtain rfl:j=i:=za
  exact h2
theorem Ae (K:Nat->Prop)(s:Ls zC)(W:World)(hS:Sh K W W [.own 39 s])(hn:s.l.length<=1000000000):
    zP Tryz.prog 104 [s.v,.func (.func 105) #[] #[]] W (λv w' =>∃u:Ls zC,v=u.v/\u.l=j4 G2 s.l s.l.length/\Sh K W w' [.own 39 u]):=by
 refine gen Tryz.func104 Tryz.ntmps104 hS V λjP z7=>gG z7<|sG (oM 1 V<|.nl)<|gK λ_ j1=>sK λ_ gu=>y4 (aO 0 V) λDv=>zn (oM 1 V<|wk xc (aO 0 V) V<|xk _ 2 V<|.nl)<|nK gu<|?_;clear z7
 refine gcd V (λB6 od=>?_) λB6 od=>?_
 ·skip
  refine sG (oM 2 V<|.nl)<|gR<|uT<|λa17 By jk=>zu (fn:=Tryz.f104) (t:=4) V jk V ?_
  first|exact ⟨s,V,(by rw [XD (qC _) (λj h1 h2=>za),Y9]),jk.sh⟩|exact ⟨s,V,(by rw [XD (qC _) (λj h1 h2=>zO j h1 za),Y9]),jk.sh⟩
 refine gS<|hK j1<|?_
 obtain ⟨gb,cap,Wj,zdn⟩:=C5 (hS.ok _ (xx ..)) (show 0<s.l.length from za)
 refine gK λ_ JH=>sG (oM 1 V<|.nl)<|gB<|λa21 Au Wv=>qE (λm a w=>∃(i:Nat),(1<=i/\i<=s.l.length)/\(∀j,0<j->j<i->G2 (nth s.l j) (nth s.l (j-1))=false)/\St 66 K W a w [(0,s.v),(1,.func (.func 105) #[] #[]),(5,.int .i64 ((i:Nat):Int))] [.own 39 s]/\m=s.l.length-i) ⟨_,1,za,(λj h1 h2=>absurd h2 za),Wv.nf ⟨V,V,V,trivial⟩,V⟩ ?_
 clear Wv
 rintro m20 a20 mw ⟨i,hi,zO,wV,zcZ⟩
 refine gG wV<|gK λ_ J9=>sG (oM 2 V<|wk xc (aO 0 V) V<|xk _ _ V<|.nl)<|?_;clear wV
 refine gcd V (λXj oc=>?_) λXj oc=>?_
 ·skip
  refine gS<|hK J9<|gK λ_ Re=>gB<|gK λ_ De=>rT 10 [] (oM 3 V<|jo xc yD (aO 0 V) _ zp V<|Xz [.int .i64 ((nth s.l i).st),((nth s.l i).words).v,((nth s.l i).zd).v] yD (aO 0 V) zp V<|oM 2 V<|na _ 1 zp V<|jo xc yD (aO 0 V) _ zp V<|Xz [.int .i64 ((nth s.l (i-1)).st),((nth s.l (i-1)).words).v,((nth s.l (i-1)).zd).v] yD (aO 0 V) zp V<|.nl)<|gP (λ_ _ h_=>gQ h_ Mn V (Cy (nth s.l i) (nth s.l (i-1)) _ ((h_.sh.own 0 V).inner i (show i<s.l.length from za)) ((h_.sh.own 0 V).inner (i-1) (show (i-1)<s.l.length from za)))) V<|nK De<|Xl V (λXJ=>?_) λXJ=>?_
  ·skip
   refine sG (oM 2 V<|oV (fj (s:=s) (k:=i) xc yD V V V (λw h=>(h.own 0 V)) (show i<=s.l.length from zp)) V<|oM 1 V<|.nl)<|gK λ_ HH=>sG (oM 1 V<|.nl)<|gB<|λa33 M9 Vb=>qE (λm a w=>∃(p k:Nat) (l:List zC),(1<=k/\i+k<=s.l.length)/\(1<=p/\p+1<=i+k)/\(l.length=s.l.length)/\(l.take p=j4 G2 s.l (i+k))/\(∀j,i+k<=j+1->j<s.l.length->nth l j=nth s.l j)/\St 66 K W a w [(0,s.v),(1,.func (.func 105) #[] #[]),(5,.int .i64 ((p:Nat):Int)),(6,(kQ s.v 3 i)),(7,.int .i64 ((k:Nat):Int))] [.own 39 (⟨s.v,l⟩:Ls zC)]/\m=s.l.length-i-k) ⟨_,i,1,s.l,za,za,(V),(nA za zO zc),(λj _ _=>rfl),Vb.nf ⟨V,V,V,V,V,trivial⟩,V⟩ ?_
   clear Vb
   rintro m32 a32 MF ⟨p,k,l,hk,hp,AD,hkp,SK,JJ,zi4⟩
   refine gG JJ<|gK λ_ BA=>sG (oM 2 V<|oV (Zc (s:=(⟨(kQ s.v 3 i),l.drop i⟩:Ls zC)) (n:=l.length-i) xc V V (λw h=>(Rp (h.own 0 V) (show i<=l.length from zp))) v7) V<|xk _ _ V<|.nl)<|?_;clear JJ
   refine gcd V (λZn Dp=>?_) λZn Dp=>?_
   ·skip
    refine gS<|hK BA<|gK λ_ Dd=>gB<|gK λ_ dP=>rT 10 [] (oM 3 V<|oV (Rn.same (v' := .pointer (some (ja s.v 3 (i+k) 0))) (gD (s:=(⟨(kQ s.v 3 i),l.drop i⟩:Ls zC)) (q:=k) xc yD V V V (λw h=>(Rp (h.own 0 V) (show i<=l.length from zp))) (by rw [v7];exact (show k<l.length-i from zp))) (by rw [Uf Wj za])) V<|Xz [.int .i64 ((nth l (i+k)).st),((nth l (i+k)).words).v,((nth l (i+k)).zd).v] yD (aO 0 V) zp V<|oM 2 V<|na _ 1 zp V<|oV (Rn.same (v' := .pointer (some (ja s.v 3 (i+(k-1)) 0))) (gD (s:=(⟨(kQ s.v 3 i),l.drop i⟩:Ls zC)) (q:=k-1) xc yD V V V (λw h=>(Rp (h.own 0 V) (show i<=l.length from zp))) (by rw [v7];exact (show k-1<l.length-i from zp))) (by rw [Uf Wj za])) V<|Xz [.int .i64 ((nth l (i+(k-1))).st),((nth l (i+(k-1))).words).v,((nth l (i+(k-1))).zd).v] yD (aO 0 V) zp V<|.nl)<|gP (λ_ _ h_=>gQ h_ Mn V (Cy (nth l (i+k)) (nth l (i+(k-1))) _ ((h_.sh.own 0 V).inner (i+k) (show (i+k)<l.length from za)) ((h_.sh.own 0 V).inner (i+(k-1)) (show (i+(k-1))<l.length from za)))) V<|zn (rM V<|.nl)<|nK dP<|Xl V (λoH=>?_) λoH=>?_
    ·have zcT:G2 (nth l (i+k)) (nth l (i+(k-1)))=false:=(wE _).mp oH
     have he1:=SK (i+k) za za;have oB:=SK (i+(k-1)) za za;rw [show i+(k-1)=i+k-1 from za] at oB
     have zc7:=EG hkp za (show 0<i+k from za) (by have h9:=zcT;rw [he1,show i+(k-1)=i+k-1 from za,oB] at h9;first|exact h9|simpa using h9)
     rw [<-he1] at zc7
     refine sK λ_ hU=>y4 (aO 0 V) λ(zxu:l.length<=140737488355328)=>zn (oM 4 V<|oV (Rn.same (v' := .pointer (some (ja s.v 3 (i+k) 0))) (gD (s:=(⟨(kQ s.v 3 i),l.drop i⟩:Ls zC)) (q:=k) xc yD V V V (λw h=>(Rp (h.own 0 V) (show i<=l.length from zp))) (by rw [v7];exact (show k<l.length-i from zp))) (by rw [Uf Wj za])) V<|Xz [.int .i64 ((nth l (i+k)).st),((nth l (i+k)).words).v,((nth l (i+k)).zd).v] yD (aO 0 V) zp V<|jo xc yD (aO 0 V) _ zp V<|.nl)<|gE (λ_ _ h_=>MY (r:=0) (i:=p) (j:=(i+k)) (s:=(⟨s.v,l⟩:Ls zC)) h_ yD V V V V (show p<l.length from zp) (show (i+k)<l.length from zp) V) V<|nK hU<|gF [0,1,5,6,7] V<|gL<|zn (oM 1 V<|yl _ 1 zp V<|oM 1 V<|.nl)<|nK Dd<|gL<|zn (oM 1 V<|yl _ 1 zp V<|oM 1 V<|.nl)<|nN<|λa44 tu Rj=>?_
     refine zH ⟨_,?_,p+1,(k+1),l.set p (nth l (i+k)),?_,?_,?_,?_,?_,Rj.nf ⟨V,V,V,V,V,trivial⟩,V⟩
     · rw [zi4];first|omega|(simp only [qf];omega)
     · omega
     · omega
     · simpa using AD
     · first|exact zc7|exact zjo
     · intro j h1 h2;first|exact SK j za h2|(rw [jt,if_neg za];exact SK j za h2)
    have zcT:G2 (nth l (i+k)) (nth l (i+(k-1)))=true:=(JS _).mp oH
    have he1:=SK (i+k) za za;have oB:=SK (i+(k-1)) za za;rw [show i+(k-1)=i+k-1 from za] at oB
    have zjo:=Og hkp (show 0<i+k from za) (by have h9:=zcT;rw [he1,show i+(k-1)=i+k-1 from za,oB] at h9;first|exact h9|simpa using h9)
    refine gS<|hK Dd<|gL<|zn (oM 1 V<|yl _ 1 zp V<|oM 1 V<|.nl)<|nN<|λa45 w45 dV=>zH ⟨_,?_,p,(k+1),l,?_,?_,?_,?_,?_,dV.nf ⟨V,V,V,V,V,trivial⟩,V⟩
    · rw [zi4];first|omega|(simp only [qf];omega)
    · omega
    · omega
    · simpa using AD
    · first|exact zc7|exact zjo
    · intro j h1 h2;first|exact SK j za h2|(rw [jt,if_neg za];exact SK j za h2)
   refine gX<|hK HH<|sK λ_ k46=>y4 (aO 0 V) λ(zrg:l.length<=140737488355328)=>zn (oM 2 V<|oV (fj (s:=(⟨s.v,l⟩:Ls zC)) (k:=p) xc yD V V V (λw h=>(h.own 0 V)) (show p<=l.length from zp)) V<|.nl)<|λa49 w49 U7=>?_
   have Yy:=U7.zaM 0 V p (show p<=l.length from za) (show 0<l.length from za)
   clear U7
   have Rf:(l.take p).length=p:=by rw [vU];omega
   have Ri:=Yy.same (d:=61) (v' :=mz (kC s.v p) 3 (l.take p).length s.l.length) V (by rw [Rf,tA Wj])
   clear Yy
   refine gG Ri<|gE (λ_ _ h_=>eu (r:=0) (hi:=s.l.length) (s:=(⟨(kC s.v p),(l.take p)⟩:Ls zC)) h_ xc yD V V V V V V (show (l.take p).length<s.l.length/\s.l.length<=HA (kC s.v p) from (by rw [Rf,tB,Wj];exact ⟨za,zdn⟩)) V) V<|nK k46<|sG (oM 2 V<|oV (za0 (v:=s.v) (j:=p) xc yD V V V ⟨gb,_,cap,Wj,zdn,za,za⟩) V<|oM 1 V<|.nl)<|gR<|uB<|uT<|uT<|uB<|uT<|λa53 w53 mf=>?_;clear Ri
   refine zu (fn:=Tryz.f104) (t:=4) V mf V ?_
   exact ⟨⟨kC s.v p,l.take p⟩,V,(by show l.take p=_;rw [hkp,show i+k=s.l.length from za]),mf.sh⟩
  refine gS<|hK Re<|gL<|zn (oM 1 V<|yl _ 1 zp V<|oM 1 V<|.nl)<|nN<|λa54 w54 DL=>zH ⟨_,?_,i+1,?_,?_,DL.nf ⟨V,V,V,trivial⟩,V⟩
  · rw [zcZ];first|omega|(simp only [qf];omega)
  · omega
  · exact zgd zO zc
 refine gX<|hK JH<|sG (oM 2 V<|.nl)<|gR<|λa56 P5 KE=>zu (fn:=Tryz.f104) (t:=4) V KE V ?_
 first|exact ⟨s,V,(by rw [XD (qC _) (λj h1 h2=>za),Y9]),KE.sh⟩|exact ⟨s,V,(by rw [XD (qC _) (λj h1 h2=>zO j h1 za),Y9]),KE.sh⟩
end Go.Proofs.YtmjkobhkkjgplaaGreatDoor
