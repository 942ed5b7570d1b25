/- Part 5 of the texts. -/
import Derived.Test.YtmjkobhkkjgplaaGreatDoorQ4
import Derived.ProofKit
import Derived.OpenShut
import Derived.Deep.Slices
import Derived.Carry
import Derived.SizedLaws
namespace Go.Proofs.YtmjkobhkkjgplaaGreatDoor
open Go.RowKit
set_option linter.unusedSimpArgs false
set_option linter.unusedVariables false
set_option maxRecDepth 100000
set_option maxHeartbeats 20000000
theorem K0 :Jz Tryz.prog 150 9 4:=⟨Tryz.underlying150,Tryz.underlying9,Tryz.zeroValue4⟩
section
variable {F:gN}{code:Ls (Ls Ins)}{zi:Ls Int}{Lk R:Nat}
theorem LX {rows:List q6}{qs:List (List Wt)}{words owner:List Int}(hr:rows.map q6.th=List.replicate code.l.length ⟨0,List.replicate R 0,[]⟩)(hq:qs=List.replicate code.l.length [])(hw:words=zi.l)(ho:owner=List.replicate Lk (-1)):rows.length=code.l.length/\Ql rows qs words owner []=yr (ya code zi Lk R):=by
 have hl:rows.length=code.l.length:=by simpa using congrArg List.length hr
 refine ⟨hl,?_⟩
 unfold Ql yr
 have h1:((List.range rows.length).map λt=>(⟨(nth rows t).pc,(nth rows t).ze.l,nth qs t⟩:Th))=(ya code zi Lk R).code.map λ_=>⟨0,List.replicate (ya code zi Lk R).ze.toNat 0,[]⟩:=by
  refine gi _ _ (by simp [hl,ya,yH]) λi hi=>?_
  have wm:i<rows.length:=by simpa using hi
  have h2:=congrArg (λl=>nth l i) hr
  simp only [zI q6.th _ _ wm,Z2 _ _ _ (show i<code.l.length from za)] at h2
  rw [zI _ _ _ (by simpa using wm),Ug wm,zI _ _ _ (by rw [x8];omega),hq,Z2 _ _ _ za]
  have h3:=congrArg Th.pc h2
  have h4:=congrArg Th.ze h2
  simp only [q6.th] at h3 h4
  rw [h3,h4]
  simp [ya,yH]
 rw [h1,hw,ho]
 simp [ya,yH]
structure PL (K:Nat->Prop)(W:World)(code:Ls (Ls Ins))(gp:Nat)(l:List (yz F)):Prop where
 gp:∀y∈l,y.gp=gp
 rl:∀y∈l,y.rows.length=code.l.length
 ql:∀y∈l,y.qs.length=code.l.length
 nw:∀y∈l,∀b,zz.on y b->K b\/W.heap.size<=b
theorem PL.nil {K:Nat->Prop}{W:World}{gp:Nat} :PL (F:=F) K W code gp []:=⟨λy h=>(by cases h),λy h=>(by cases h),λy h=>(by cases h),λy h=>(by cases h)⟩
theorem PL.snoc {K:Nat->Prop}{W:World}{gp:Nat}{l:List (yz F)}{x:yz F}(h:PL K W code gp l)(h1:x.gp=gp)(h2:x.rows.length=code.l.length)(h3:x.qs.length=code.l.length)(h4:∀b,zz.on x b->K b\/W.heap.size<=b):PL K W code gp (l++ [x]):=by
 have key:∀y∈l++ [x],y∈l\/y=x:=λy hy=>by simpa using hy
 exact ⟨λy hy=>(key y hy).elim (h.gp y) (λe=>e▸h1),λy hy=>(key y hy).elim (h.rl y) (λe=>e▸h2),λy hy=>(key y hy).elim (h.ql y) (λe=>e▸h3),λy hy=>(key y hy).elim (h.nw y) (λe=>e▸h4)⟩
theorem PL.px {K:Nat->Prop}{W:World}{gp:Nat}{l:List (yz F)}{S:List yc}{Fp:yc->Prop}{E:List xR}(h:PL K W code gp l)(hb:BI (ya code zi Lk R) F.m S Fp E)(hs:∀y∈l,y.st∈S)(hn:S.length<=40000){y:yz F}(hy:y∈l):PX code zi Lk R y:=
 ⟨hb.reach _ (hs y hy),h.rl y hy,h.ql y hy,by have h9:y.zd.l.length<=2*S.length:=hb.pr _ (hs y hy);omega⟩
theorem R2 {x:yz F}{w:World}(h:zz.inner x w){b:Nat}(hb:x.zd.on b):zz.on x b:=by
 have h9:∀A∈x.A,A.ok w:=h
 exact ⟨.own 3 x.zd,zy (i:=3) V,qt (h9 _ (zy (i:=3) V)) hb⟩
theorem Oe (zR:yJ (ya code zi Lk R))(ht:Aq F.tq F.Q)(hQ:∀i q,F.Q ((F.mem i).qs q)){S:List yc}{y:yz F}(hy:Reach (ya code zi Lk R) F.m y.st)(hS:∀s∈S,Reach (ya code zi Lk R) F.m s)(hw:y.st.zW.map Th.wait=y.qs)(hSw:∀s∈S,F.Q (s.zW.map Th.wait)):JY F.tq y.st∈S.map (JY F.tq)↔y.st∈S:=by
 constructor
 ·intro h
  obtain ⟨s,hs,e⟩:=List.mem_map.1 h
  have:=EF ht ((hS s hs).wf zR) (hy.wf zR) (hSw s hs) (by rw [hw];exact hQ _ _) e
  exact this▸hs
 ·intro h;exact List.mem_map.2 ⟨_,h,V⟩
theorem aT {l:List zC} :∀n,n<=l.length->(j4 G2 l n).map zC.out=j4 (λa b=>decide (a=b)) (l.map zC.out) n
 |0,_=>rfl
 |n+1,h=>by
  have ih:=aT (l:=l) n za
  have e:Yr G2 l n=Yr (λa b=>decide (a=b)) (l.map zC.out) n:=by
   unfold Yr G2
   rw [zI _ _ _ za,zI _ _ _ za]
  cases hk:Yr G2 l n with
  |true=>rw [XC hk,XC (e▸hk),yi,ih,zI _ _ _ za];rfl
  |false=>rw [Vn hk,Vn (e▸hk),ih]
theorem aS {l:List zC}{n:Nat}(hn:n<=l.length):∀o∈j4 G2 l n,o∈l:=λo ho=>by
 unfold j4 at ho
 obtain ⟨i,hi,rfl⟩:=List.mem_map.1 ho
 have:=(List.mem_filter.1 hi).1
 exact qb _ _ (by have:=List.mem_range.1 this;omega)
theorem LD {l:List (yz F)}{i:Nat}(h:i<l.length):(l.map yz.st).drop i=(nth l i).st::(l.map yz.st).drop (i+1):=by
 rw [<-zI yz.st l i h,qq _ _ (by simpa using h)]
 exact JV (by simpa using h)
theorem cC (zR:yJ (ya code zi Lk R)){x:yz F}(h:PX code zi Lk R x):(vF (ya code zi Lk R) F.m x.st).length<=16:=by
 have hf:=ZN zR h.reach h.rl
 have h8:=(ga zR).2.1
 have h9:=Db (m:=F.m) (zl:=x.rows.map q6.toQ) (owner:=x.owner.l) hf.Dh _ (qC _)
 have e:Ym F.m code (x.rows.map q6.toQ) x.qs x.owner.l code.l.length=vF (ya code zi Lk R) F.m x.st:=aM (zd:=x.zd.l) (words:=x.words.l) h.rl
 rw [<-e];omega
theorem uu {p:Pg}{m:Int}{s:yc}(h:(vF p m s).length<=16):(Yp p m s).length<=17/\(QM p m s).length<=16:=by
 have h1:=Kp (f:=QP p m s) (c:=1) (l:=vF p m s) λv _=>u7 v
 have h2:=Kp (f:=QK p m s) (c:=1) (l:=vF p m s) λv _=>ui v
 unfold Yp QM
 by_cases he:ended p s=true
 ·rw [if_pos he,if_pos he];simp
 ·rw [if_neg he,if_neg he]
  split
  ·exact ⟨by simp,za⟩
  ·exact ⟨za,za⟩
end
theorem zdM (K:Nat->Prop)(F:gN)(ζ:Type)(env:ζ->zZ)(ke:ζ->yc->ζ)(z0:ζ)(fe:FuncId)(us ws:List Value)(i0:F.ι)(q0:(F.mem i0).σ)(code:Ls (Ls Ins))(zi words owner:Ls Int)(pw:Value)(Lk R:Nat)(W:World)(hF:YH Tryz.prog 182 3 204 5 141 F)(hS:Sh K W W [.zM (F.mem i0).g0 182 [words.v,owner.v],.own 3 words,.own 3 owner,(F.mem i0).X q0,.at_ code,env z0])(zR:yJ (ya code zi Lk R))(hR:pH (ya code zi Lk R))(Fv:(F.mem i0).qs q0=List.replicate code.l.length [])(Ys:words.l=zi.l)(ho0:owner.l=List.replicate Lk (-1))(hbe:zN Tryz.prog fe=true)(hEr:∀z b,¬(env z).rd b)(hE:∀(K' :Nat->Prop) (W' :World) (gp:Nat) (x:yz F) (z:ζ),PX code zi Lk R x->x.gp=gp->Sh K' W' W' [env z,.Yd x,.zx gp 25 [code.v,pw,.int .i64 ((Lk:Nat):Int),.int .i64 ((R:Nat):Int)],.at_ code]->zP Tryz.prog fe (us++ [.pointer (some ⟨x.g,0,none⟩)]++ws) W' (λv w' =>v= .tuple #[]/\Sh K' W' w' [env (ke z x.st),.Yd x,.zx gp 25 [code.v,pw,.int .i64 ((Lk:Nat):Int),.int .i64 ((R:Nat):Int)],.at_ code])):
    zP Tryz.prog 61 [.agg #[code.v,pw,.int .i64 ((Lk:Nat):Int),.int .i64 ((R:Nat):Int)],.iface (F.mem i0).T (.pointer (some (F.mem i0).u)),.func (.func fe) us.toArray ws.toArray] W (λv w' =>∃(z:ζ),(v= .tuple #[.slice none 0 0,.bool false]/\pK (ya code zi Lk R) F.m/\Sh K W w' [env z])\/(∃(u:Ls zC) (S:List yc),v= .tuple #[u.v,.bool true]/\j0 (u.l.map zC.out)/\(∀o,o∈u.l.map zC.out↔jq (ya code zi Lk R) F.m o)/\¬pK (ya code zi Lk R) F.m/\z=S.foldl ke z0/\S.Nodup/\(∀s,s∈S↔Reach (ya code zi Lk R) F.m s)/\(∀o∈u.l,∀b,zz.on o b->K b\/W.heap.size<=b)/\u.l.length<=100000/\Sh K W w' [.own 39 u,env z])):=by
 obtain ⟨iL,qg,aV,zq8,hR2⟩:=ga zR
 refine gen Tryz.func61 Tryz.ntmps61 hS V λjP z7=>gG z7<|sK λ_ kz=>XV V V λxX=>zn (oM 2 V<|.nl)<|nK kz<|λee BN xd=>?_;clear z7
 have QO:=xd.toR 0 V
 clear xd
 refine gG QO<|sK λ_ Xe=>zn (oM 1 V<|.nl)<|λa17 By jk=>zL (zD jk zeB V V V V V (C2 (F.mem i0) xX code _ Lk R _ (jk.sh.zx 0 V) (jk.sh.at 5 V) qg hR2)) (zg V _) ?_;clear QO
 rintro HS Hx ⟨_,⟨g18,CD,zf6,rfl,zhM,HK⟩,DF⟩
 have jc:=(⟨DF,jk.sh.call HK (by intro A hA b hb;simp only [z6,qd,or_false] at hA;first|(rcases hA with rfl|rfl|rfl|rfl<;>first|exact (hb:False).elim|exact Flat.qh hb|exact YT hb)|(rcases hA with rfl|rfl;(obtain ⟨i9,Yv,YJ⟩:=hb;exact (zis _ (qb _ _ Yv) b YJ).imp id (λh=>⟨_,xx ..,h⟩));(obtain ⟨i9,Yv,YJ⟩:=hb;exact .inl ((zcO _ (qb _ _ Yv)).2.2.2 b YJ))))⟩:St 83 K W HS Hx _ _)
 clear DF HK
 clear jk
 refine gG jc<|zn (oM 1 V<|.nl)<|nK Xe<|gO [0,1,2,3,5,6,7,8,4,9,10] V<|?_;clear jc
 obtain ⟨x0,SA⟩:∃x,x=(⟨xX,i0,q0,g18,zf6,CD,⟨.slice none 0 0,[]⟩,words,owner⟩:yz F):=⟨_,V⟩
 intro a21 Au Wv
 have OZ:=yz.frz (L:= [.zx xX 25 [code.v,pw,.int .i64 ((Lk:Nat):Int),.int .i64 ((R:Nat):Int)],.at_ code,env z0]) (λi q b=>(hF.ok i).mh q b) (⟨xX,i0,q0,g18,zf6,CD,⟨.slice none 0 0,[]⟩,words,owner⟩:yz F) Wv.sh
 rw [<-SA] at OZ
 have wV:St 83 K W a21 Au _ _:=⟨Wv.fr,OZ.1⟩
 clear Wv
 have sH:=wV.same (d:=8) (v' := .pointer (some ⟨x0.g,0,none⟩)) V (by rw [SA])
 clear wV
 obtain ⟨Fm,zb6⟩:=LX (zi:=zi) (Lk:=Lk) zhM Fv Ys ho0
 have zb6:x0.st=yr (ya code zi Lk R):=by rw [SA];exact zb6
 have Fm:x0.rows.length=code.l.length:=by rw [SA];exact Fm
 have zcj:x0.qs.length=code.l.length:=by rw [SA];show ((F.mem i0).qs q0).length=_;rw [Fv,bJ]
 have zry:x0.gp=xX:=by rw [SA]
 have sC:BI (ya code zi Lk R) F.m [x0.st] (λy=>y=x0.st) []:=BI.first _ zb6
 have zhZ:PL K W code xX [x0]:=PL.nil.snoc zry Fm zcj OZ.2
 have zp3:PX code zi Lk R x0:=zhZ.px sC (λy hy=>by obtain rfl:=List.mem_singleton.1 hy;simp) (by simp) (by simp)
 refine gG sH<|sK λ_ J9=>xb (λ_ _ h_=>tn (T:=150) h_ V V V) V λg23=>zn (oM 1 V<|.nl)<|gP (λ_ _ h_=>gQ h_ Mo V (Sw F x0 _ hF (yz.rd (h_.sh.ok (.Yd x0) (zy (i:=1) V))) (zp3.key zR hR) (by rw [zcj,Fm]))) V<|gE (λ_ _ h_=>tk (i:=0) (k:=(JY F.tq (x0).st)) h_ K0 V V V V V V (by first|exact hnm|simp)) V<|zn (oM 2 V<|.nl)<|nK J9<|sG (oM 1 V<|.nl)<|gK λ_ Rc=>sK λ_ K6=>zn (oM 1 V<|.nl)<|xb (λ_ _ h_=>qF (n:=1) (cs:= [.pointer (some ⟨x0.g,0,none⟩)]) ([x0]:List (yz F)) h_ QE vk V V V zf V zb V (λq hq w h=>by obtain rfl:q=0:=(by simpa using hq);exact h.ok _ (zy (i:=1) V)) (λq hq b hb=>by obtain rfl:q=0:=(by simpa using hq);exact ⟨_,zy (i:=1) V,hb⟩) V V) V λpY=>zn (oM 1 V<|.nl)<|nK K6<|gB<|λa32 MF JJ=>?_;clear sH
 have ZW:=JJ.nil (α:=zC) 39
 clear JJ
 refine qE (λm a w=>∃(S0:List yc) (qo:List (yz F)) (es:List zC) (z:ζ) (ks:List ByteArray) (vl ve:Value),(BI (ya code zi Lk R) F.m (S0++qo.map yz.st) (λy=>y∈qo.map yz.st) (es.map zC.out))/\(ks=(S0++qo.map yz.st).map (JY F.tq))/\(PL K W code xX qo)/\(∀s∈S0++qo.map yz.st,F.Q (s.zW.map Th.wait))/\(S0.length+qo.length<=4000)/\(∀o∈es,∀b,zz.on o b->K b\/W.heap.size<=b)/\(es.length<=17*S0.length)/\(z=S0.foldl ke z0)/\St 83 K W a w [(2,.func (.func fe) us.toArray ws.toArray),(9,.map (some g23)),(10,ve),(11,vl)] [.own 85 (⟨vl,qo⟩:Ls (yz F)),.KN g23 ks,.Yd x0,.zx xX 25 [code.v,pw,.int .i64 ((Lk:Nat):Int),.int .i64 ((R:Nat):Int)],.at_ code,env z,.own 39 (⟨ve,es⟩:Ls zC)]/\m=4001-S0.length) ⟨_,[],[x0],[],z0,([])++ [(JY F.tq (x0).st)],pY,(.slice none 0 0),(sC.mono (λs hs h=> .inl (by rw [h];simp))),(V),(zhZ),((λs hs=>by obtain rfl:s=x0.st:=(by simpa using hs);rw [KU (by rw [zcj,Fm])];exact hF.qQ _ _)),(by simp),(λo ho=>(by cases ho)),(by simp),(V),ZW.wN ⟨V,V,V,V,trivial⟩ [1,2,3,4,5,6,0] V,V⟩ ?_
 clear ZW
 rintro m30 ec ak ⟨S0,qo,es,z,ks,vl,ve,uP,hks,hlx,hqw,uG,hen,WJ,hz,Qp,zq3⟩
 refine gG Qp<|gK λ_ Ur=>sK λ_ BA=>y4 (aO 0 V) λ(Ij:qo.length<=140737488355328)=>zn (oM 1 V<|wk (n:=qo.length) QE (aO 0 V) V<|NU _ 0 V<|.nl)<|nK BA<|?_;clear Qp
 refine gcd V (λZn Dp=>?_) λZn Dp=>?_
 ·skip
  refine gS<|hK Ur<|gB<|gK λ_ Dd=>sG (oM 1 V<|wk (n:=qo.length) QE (aO 0 V) V<|oM 1 V<|.nl)<|gB<|λa40 mr YO=>qE (λm a w=>∃(q:Nat) (z1:ζ),(q<=qo.length)/\(z1=((qo.map yz.st).take q).foldl ke z)/\St 83 K W a w [(2,.func (.func fe) us.toArray ws.toArray),(9,.map (some g23)),(10,ve),(11,vl),(32,vl),(33,.int .i64 ((qo.length:Nat):Int)),(34,.int .i64 ((q:Nat):Int))] [.own 85 (⟨vl,qo⟩:Ls (yz F)),.KN g23 ks,.Yd x0,.zx xX 25 [code.v,pw,.int .i64 ((Lk:Nat):Int),.int .i64 ((R:Nat):Int)],.at_ code,env z1,.own 39 (⟨ve,es⟩:Ls zC)]/\m=qo.length-q) ⟨_,0,z,za,(V),YO.nf ⟨V,V,V,V,V,V,V,trivial⟩,V⟩ ?_
  clear YO
  rintro m39 a39 pV ⟨q,z1,hq,hz1,QC,zq1⟩
  refine gG QC<|sG (xk _ _ V<|.nl)<|gK λ_ Ol=>gcd V (λJ1 n4=>?_) λJ1 n4=>?_;clear QC
  ·skip
   refine gS<|hK Ol<|gK λ_ nB=>gB<|sG (jo QE vk (aO 0 V) _ zp V<|Z1 (.pointer (some ⟨(nth qo q).g,0,none⟩)) vk (aO 0 V) zp V<|oM 1 V<|.nl)<|?_
   have V7:q<qo.length:=za
   have Tb:=qb qo q V7
   have OC:PX code zi Lk R (nth qo q):=hlx.px uP (λy hy=>List.mem_append.2 (.inr (List.mem_map.2 ⟨y,hy,V⟩))) (by rw [yX,yw];omega) Tb
   have OY:(nth qo q).gp=xX:=hlx.gp _ Tb
   intro PO M8 Ws
   have B9:=Ws.Y7 (A:= .Yd (nth qo q)) ((Ws.sh.own 0 V).inner q za) (λb hb=>hb) (λb hb=>⟨.own 85 (⟨vl,qo⟩:Ls (yz F)),zy (i:=0) V,q,(by show q<qo.length;omega),hb⟩)
   clear Ws
   refine gG B9<|gL<|zn (oM 2 V<|.nl)<|gO [6,0,4,5,1,2,3,7] V<|λa53 w53 mf=>?_;clear B9
   have n3:=mf.sh.yT (Lp:= [_,_,_,_])
   refine zL (zD mf hbe V V V V V (hE _ _ xX (nth qo q) z1 OC OY n3)) (zg V _) ?_
   rintro a54 w54 ⟨_,⟨rfl,zhC⟩,zjP⟩
   have DL:St 83 K W a54 w54 _ [_,_,_,_,_,_,_,_]:=⟨zjP,mf.sh.xP (Lp:= [_,_,_,_]) zhC (by intro A hA b hb;simp only [z6,qd,or_false] at hA;rcases hA with rfl|rfl|rfl|rfl<;>first|exact (hb:False).elim|exact Flat.qh hb|exact .inl ⟨_,xx ..,.inr hb⟩|exact (hEr _ _ hb).elim|exact .inl ⟨_,zy (i:=1) V,.inr hb⟩|exact .inl ⟨_,zy (i:=2) V,.inr hb⟩|exact .inl ⟨_,zy (i:=3) V,.inr hb⟩|exact .inl ⟨_,by simp,.inr hb⟩)⟩
   clear zjP zhC
   clear mf
   refine gG DL<|nK nB<|gL<|zn (yl _ 1 zp V<|oM 1 V<|.nl)<|nN<|λa55 P6 GZ=>zH ⟨_,?_,(q+1),(ke z1 (nth qo q).st),?_,?_,GZ.wN ⟨V,V,V,V,V,V,V,trivial⟩ [4,5,6,2,3,0,7] V,V⟩;clear DL
   · rw [zq1];first|omega|(simp only [qf];omega)
   · omega
   · rw [zS _ _ (by simpa using V7),bD,<-hz1,zI _ _ _ V7];rfl
  refine gX<|hK Dd<|sG (oM 1 V<|.nl)<|gK λ_ k57=>sG (oM 1 V<|wk (n:=qo.length) QE (aO 0 V) V<|oM 1 V<|.nl)<|gB<|λa61 P4 me=>?_
  have HQ:=me.nil (α:=yz F) 85
  clear me
  refine qE (λm a w=>∃(i:Nat) (nx:List (yz F)) (lD:List zC) (Sv:List ByteArray) (vn ve2:Value),(i<=qo.length)/\(BI (ya code zi Lk R) F.m (S0++qo.map yz.st++nx.map yz.st) (λy=>y∈(qo.map yz.st).drop i\/y∈nx.map yz.st) (lD.map zC.out))/\(Sv=(S0++qo.map yz.st++nx.map yz.st).map (JY F.tq))/\(PL K W code xX nx)/\(∀s∈S0++qo.map yz.st++nx.map yz.st,F.Q (s.zW.map Th.wait))/\(∀o∈lD,∀b,zz.on o b->K b\/W.heap.size<=b)/\(lD.length<=17*(S0.length+i))/\(nx.length<=16*i)/\St 83 K W a w [(2,.func (.func fe) us.toArray ws.toArray),(9,.map (some g23)),(10,ve2),(14,vn),(42,vl),(43,.int .i64 ((qo.length:Nat):Int)),(44,.int .i64 ((i:Nat):Int))] [.own 85 (⟨vl,qo⟩:Ls (yz F)),.KN g23 Sv,.Yd x0,.zx xX 25 [code.v,pw,.int .i64 ((Lk:Nat):Int),.int .i64 ((R:Nat):Int)],.at_ code,env z1,.own 39 (⟨ve2,lD⟩:Ls zC),.own 85 (⟨vn,nx⟩:Ls (yz F))]/\m=qo.length-i) ⟨_,0,[],es,ks,(.slice none 0 0),ve,za,((by have h9:=uP.mono (F' :=λy=>y∈(qo.map yz.st).drop 0\/y∈([]:List (yz F)).map yz.st) (λs hs h=> .inl (.inl h));simpa using h9)),(by simpa using hks),(PL.nil),(by simpa using hqw),(hen),(WJ),(by simp),HQ.wN ⟨V,V,V,V,V,V,V,trivial⟩ [1,2,3,4,5,6,7,0] V,V⟩ ?_
  clear HQ
  rintro m59 a59 w59 ⟨i,nx,lD,Sv,vn,ve2,hi,I2,OU,l5,zhP,zj3,zrM,ziC,Rh,zqZ⟩
  refine gG Rh<|sG (xk _ _ V<|.nl)<|gK λ_ Oj=>gcd V (λoE FA=>?_) λoE FA=>?_;clear Rh
  ·skip
   refine gS<|hK Oj<|gK λ_ k65=>gB<|sG (jo QE vk (aO 0 V) _ zp V<|Z1 (.pointer (some ⟨(nth qo i).g,0,none⟩)) vk (aO 0 V) zp V<|oM 1 V<|.nl)<|?_
   have V7:i<qo.length:=za
   have Tb:=qb qo i V7
   have OC:PX code zi Lk R (nth qo i):=hlx.px uP (λy hy=>List.mem_append.2 (.inr (List.mem_map.2 ⟨y,hy,V⟩))) (by rw [yX,yw];omega) Tb
   have OY:(nth qo i).gp=xX:=hlx.gp _ Tb
   intro a68 w68 h68
   have AI:=h68.Y7 (A:= .Yd (nth qo i)) ((h68.sh.own 0 V).inner i za) (λb hb=>hb) (λb hb=>⟨.own 85 (⟨vl,qo⟩:Ls (yz F)),zy (i:=0) V,i,(by show i<qo.length;omega),hb⟩)
   clear h68
   refine gG AI<|sK λ_ sa=>zn (oM 1 V<|.nl)<|λa71 w71 dU=>zL (zD dU zeA V V V V V (zbx F (nth qo i) code zi Lk R pw _ hF (yz.rd (dU.sh.ok (.Yd (nth qo i)) (zy (i:=0) V))) (by rw [OY];exact dU.sh.zx 4 V) (dU.sh.at 5 V) zR hR OC)) (zg V _) ?_;clear AI
   rintro a72 w72 ⟨_,⟨os,ns,rfl,zcH,zcP,zcO,zir,zhv⟩,zjH⟩
   have x3:=dU.sh.J6.size
   have zqE:∀o∈os.l,∀b,zz.on o b->K b\/W.heap.size<=b:=λo ho b hb=>(zir o ho b hb).elim (λh=> .inr (vZ x3 h)) (λh=>hlx.nw _ Tb b (R2 (dU.sh.ok (.Yd (nth qo i)) (zy (i:=0) V)) h))
   have zis:∀o∈os.l,∀b,zz.on o b->_\/zz.on (nth qo i) b:=λo ho b hb=>(zir o ho b hb).imp id (λh=>R2 (dU.sh.ok (.Yd (nth qo i)) (zy (i:=0) V)) h)
   have h72:=(⟨zjH,dU.sh.call zhv (by intro A hA b hb;simp only [z6,qd,or_false] at hA;first|(rcases hA with rfl|rfl|rfl|rfl<;>first|exact (hb:False).elim|exact Flat.qh hb|exact YT hb)|(rcases hA with rfl|rfl;(obtain ⟨i9,Yv,YJ⟩:=hb;exact (zis _ (qb _ _ Yv) b YJ).imp id (λh=>⟨_,xx ..,h⟩));(obtain ⟨i9,Yv,YJ⟩:=hb;exact .inl ((zcO _ (qb _ _ Yv)).2.2.2 b YJ))))⟩:St 83 K W a72 w72 _ _)
   clear zjH zhv
   clear dU
   refine gG h72<|Q2 Yj V λb73=>gE (λ_ _ h_=>j3 (i:=0) (vs:= [ns.v,os.v]) (YR:= [ns.v,os.v]) h_ Yj V V V V V V V (zr ((h_.sh.own 2 V)).one (zr ((h_.sh.own 1 V)).one qx)) (y5 V) V) V<|nK sa<|?_;clear h72
   have ziP:(vF (ya code zi Lk R) F.m (nth qo i).st).length<=16:=cC zR OC
   obtain ⟨S7,S9⟩:=uu ziP
   have zqD:os.l.length<=17:=by rw [<-zcH,yw] at S7;exact S7
   have zqL:ns.l.length<=16:=by rw [<-zcP,yw] at S9;exact S9
   have hrx:=uP.reach _ (List.mem_append.2 (.inr (List.mem_map.2 ⟨_,Tb,V⟩)))
   have zcn:=uP.pr _ (List.mem_append.2 (.inr (List.mem_map.2 ⟨_,Tb,V⟩)))
   rw [yX,yw] at zcn
   have zqK:∀y∈ns.l,Reach (ya code zi Lk R) F.m y.st/\y.st.zd.length<=(nth qo i).st.zd.length+2:=λy hy=>nv hrx (by rw [<-zcP];exact List.mem_map.2 ⟨y,hy,V⟩)
   refine sK λ_ k75=>zn (oM 1 V<|qB GB V<|qw 0 ZD V V<|.nl)<|xb (λ_ _ h_=>yu (r:=10) (rm:=1) (s:=(⟨ve2,lD⟩:Ls zC)) (m:=os) h_ xc yD V V V V V V V (λw h=>(h.own 1 V)) (λb hb=>qt (h_.sh.ok _ (zy (i:=1) V)) hb) (λq hq b hb=>⟨q,hq,hb⟩) V V V inferInstance (show (lD.length+os.l.length)*56<=140737488355328/\lD.length+os.l.length<=140737488355328 from zp) V V) V λv76=>zn (oM 1 V<|.nl)<|nK k75<|sK λ_ k77=>y4 (aO 2 V) λzxi=>zn (qB DU V<|qw 0 mG V V<|wk QE (aO 2 V) V<|oM 1 V<|.nl)<|nK k77<|gB<|λa80 w80 aZ=>qE (λm a w=>∃(j:Nat) (Ka:List (yz F)) (ED:List ByteArray) (vn3:Value),(j<=ns.l.length)/\(BI (ya code zi Lk R) F.m (S0++qo.map yz.st++Ka.map yz.st) (λy=>y∈(qo.map yz.st).drop i\/y∈Ka.map yz.st) ((lD++os.l).map zC.out))/\(ED=(S0++qo.map yz.st++Ka.map yz.st).map (JY F.tq))/\(PL K W code xX Ka)/\(∀s∈S0++qo.map yz.st++Ka.map yz.st,F.Q (s.zW.map Th.wait))/\(∀k,k<j->(nth ns.l k).st∈S0++qo.map yz.st++Ka.map yz.st)/\(Ka.length<=16*i+j)/\St 83 K W a w [(2,.func (.func fe) us.toArray ws.toArray),(9,.map (some g23)),(10,v76),(14,vn3),(42,vl),(43,.int .i64 ((qo.length:Nat):Int)),(44,.int .i64 ((i:Nat):Int)),(55,ns.v),(56,.int .i64 ((ns.l.length:Nat):Int)),(57,.int .i64 ((j:Nat):Int))] [.own 39 os,.own 85 ns,.Yd (nth qo i),.own 85 (⟨vl,qo⟩:Ls (yz F)),.KN g23 ED,.Yd x0,.zx xX 25 [code.v,pw,.int .i64 ((Lk:Nat):Int),.int .i64 ((R:Nat):Int)],.at_ code,env z1,.own 39 (⟨v76,lD++os.l⟩:Ls zC),.own 85 (⟨vn3,Ka⟩:Ls (yz F))]/\m=ns.l.length-j) ⟨_,0,nx,Sv,vn,za,((I2.outs (E' :=(lD++os.l).map zC.out) (λo ho=>by rw [yi] at ho;exact (List.mem_append.1 ho).elim (I2.sound o) (λh=>ur hrx (by rw [<-zcH];exact h))) (λo ho=>by rw [yi];exact List.mem_append.2 (.inl ho)))),(OU),(l5),(zhP),(λk hk=>absurd hk za),za,aZ.wN ⟨V,V,V,V,V,V,V,V,V,V,trivial⟩ [1,2,3,4,5,6,7,8,9,10,11] V,V⟩ ?_
   clear aZ
   rintro m79 a79 w79 ⟨j,Ka,ED,vn3,hj,oI,OT,zcM,Oz,hdn,zwW,h79,zi2⟩
   refine gG h79<|sG (xk _ _ V<|.nl)<|gK λ_ k82=>gcd V (λzr7 zqg=>?_) λzr7 zqg=>?_;clear h79
   ·skip
    refine gS<|hK k82<|gK λ_ k84=>gB<|sG (jo QE vk (aO 1 V) _ zp V<|Z1 (.pointer (some ⟨(nth ns.l j).g,0,none⟩)) vk (aO 1 V) zp V<|oM 1 V<|.nl)<|?_
    have hmj:=qb ns.l j za
    obtain ⟨hyg,hyr,hyq,hyn⟩:=zcO _ hmj
    obtain ⟨zbO,zpb⟩:=zqK _ hmj
    have zp2:PX code zi Lk R (nth ns.l j):=⟨zbO,hyr,hyq,by have h9:(nth ns.l j).zd.l.length<=_:=zpb;have h8:=zcn;omega⟩
    have hkm:=Oe zR hF.tq hF.qQ (y:=nth ns.l j) zbO (λs hs=>oI.reach s hs) (KU (by rw [hyq,hyr])) Oz
    rw [<-OT] at hkm
    intro a87 w87 h87
    have h86:=h87.Y7 (A:= .Yd (nth ns.l j)) ((h87.sh.own 1 V).inner j za) (λb hb=>hb) (λb hb=>⟨.own 85 ns,zy (i:=1) V,j,(by show j<ns.l.length;omega),hb⟩)
    clear h87
    refine gG h86<|sK λ_ k88=>zn (oM 1 V<|.nl)<|gP (λ_ _ h_=>gQ h_ Mo V (Sw F (nth ns.l j) _ hF (yz.rd (h_.sh.ok (.Yd (nth ns.l j)) (zy (i:=0) V))) (zp2.key zR hR) (by rw [hyq,hyr]))) V<|zn (oM 1 V<|.nl)<|nK k88<|sG (oM 2 V<|oV (tR (i:=5) (k:=(JY F.tq (nth ns.l j).st)) (l:=ED) K0 V V V V) V<|rM V<|.nl)<|?_;clear h86
    refine Xl V (λIZ=>?_) λIZ=>?_
    ·have zqd:¬((JY F.tq (nth ns.l j).st)∈ED):=by simpa using IZ
     have hnm:¬JY F.tq (nth ns.l j).st∈ED:=by simpa using IZ
     have hnS:=λh=>hnm (hkm.2 h)
     have hSl:(S0++qo.map yz.st++Ka.map yz.st).length=S0.length+qo.length+Ka.length:=by simp [Nat.add_assoc]
     have zgW:(nth ns.l j).st.zd.length<=2*((S0++qo.map yz.st++Ka.map yz.st).length+1):=by rw [hSl];omega
     have zsi:=(oI.add zbO hnS zgW).mono (F' :=λz=>z∈(qo.map yz.st).drop i\/z∈(Ka++ [(nth ns.l j)]).map yz.st) (λs hs h=> .inl (by rw [yi];rcases h with (h|h)|h;exact .inl h;exact .inr (List.mem_append.2 (.inl h));exact .inr (List.mem_append.2 (.inr (by rw [h];exact List.mem_singleton.2 V)))))
     have heS:S0++qo.map yz.st++(Ka++ [(nth ns.l j)]).map yz.st=(S0++qo.map yz.st++Ka.map yz.st)++ [(nth ns.l j).st]:=by rw [yi,<-xi];rfl
     have zdx:BI (ya code zi Lk R) F.m (S0++qo.map yz.st++(Ka++ [(nth ns.l j)]).map yz.st) (λz=>z∈(qo.map yz.st).drop i\/z∈(Ka++ [(nth ns.l j)]).map yz.st) ((lD++os.l).map zC.out):=by rw [heS];exact zsi
     have Io:ED++ [JY F.tq (nth ns.l j).st]=(S0++qo.map yz.st++(Ka++ [(nth ns.l j)]).map yz.st).map (JY F.tq):=by rw [heS,yi,<-OT];rfl
     have F4:=zcM.snoc (hyg.trans OY) hyr hyq (λb hb=> .inr (vZ x3 (hyn b hb)))
     have Ft:∀s∈S0++qo.map yz.st++(Ka++ [(nth ns.l j)]).map yz.st,F.Q (s.zW.map Th.wait):=by rw [heS];exact λs hs=>(List.mem_append.1 hs).elim (Oz s) (λh=>by obtain rfl:=List.mem_singleton.1 h;rw [KU (by rw [hyq,hyr])];exact hF.qQ _ _)
     have zdk:∀k,k<j+1->(nth ns.l k).st∈S0++qo.map yz.st++(Ka++ [(nth ns.l j)]).map yz.st:=by rw [heS];exact λk hk=>List.mem_append.2 ((yq k j).imp (hdn k) (λh=>by obtain rfl:k=j:=za;exact List.mem_singleton.2 V))
     have F7:(Ka++ [(nth ns.l j)]).length<=16*i+(j+1):=by rw [yX];simp only [yY,xY];omega
     refine sK λ_ k92=>zn (oM 2 V<|.nl)<|gE (λ_ _ h_=>AN (i:=5) (k:=(JY F.tq (nth ns.l j).st)) h_ K0 V V V V V V (by first|exact hnm|simp)) V<|nK k92<|gL<|zn (oM 2 V<|.nl)<|xb (λ_ _ h_=>qF (n:=1) (cs:= [.pointer (some ⟨(nth ns.l j).g,0,none⟩)]) ([nth ns.l j]:List (yz F)) h_ QE vk V V V zf V zb V (λq hq w h=>by obtain rfl:q=0:=(by simpa using hq);exact h.ok _ (zy (i:=0) V)) (λq hq b hb=>by obtain rfl:q=0:=(by simpa using hq);exact ⟨_,zy (i:=0) V,hb⟩) V V) V λv94=>xb (λ_ _ h_=>yu (r:=12) (rm:=0) (s:=(⟨vn3,Ka⟩:Ls (yz F))) (m:=(⟨v94,[nth ns.l j]⟩:Ls (yz F))) h_ QE vk V V V V V V V (λw h=>(h.own 0 V)) (λb hb=>qt (h_.sh.ok _ (zy (i:=0) V)) hb) (λq hq b hb=>⟨q,hq,hb⟩) V V V inferInstance (show (Ka.length+([nth ns.l j]).length)*8<=140737488355328/\Ka.length+([nth ns.l j]).length<=140737488355328 from zp) V V) V λv95=>zn (oM 1 V<|.nl)<|nK k84<|gL<|zn (yl _ 1 zp V<|oM 1 V<|.nl)<|nN<|λa96 w96 sE=>zH ⟨_,?_,(j+1),Ka++([nth ns.l j]),ED++ [(JY F.tq (nth ns.l j).st)],v95,?_,?_,?_,?_,?_,?_,?_,sE.wN ⟨V,V,V,V,V,V,V,V,V,V,trivial⟩ [2,3,4,5,6,7,8,9,10,11,12] V,V⟩
     · rw [zi2];first|omega|(simp only [qf];omega)
     · omega
     · exact zdx
     · exact Io
     · exact F4
     · exact Ft
     · exact zdk
     · exact F7
    have zqd:(JY F.tq (nth ns.l j).st)∈ED:=by simpa using IZ
    have hyS:=hkm.1 (by simpa using IZ)
    have zdx:=oI;have Io:=OT;have F4:=zcM;have Ft:=Oz
    have zdk:∀k,k<j+1->(nth ns.l k).st∈S0++qo.map yz.st++Ka.map yz.st:=λk hk=>by rcases yq k j with h|h;exact hdn k h;obtain rfl:k=j:=za;exact hyS
    have F7:Ka.length<=16*i+(j+1):=za
    refine gS<|hK k84<|gL<|zn (yl _ 1 zp V<|oM 1 V<|.nl)<|nN<|λa97 w97 uU=>zH ⟨_,?_,(j+1),Ka,ED,vn3,?_,?_,?_,?_,?_,?_,?_,uU.wN ⟨V,V,V,V,V,V,V,V,V,V,trivial⟩ [1,2,3,4,5,6,7,8,9,10,11] V,V⟩
    · rw [zi2];first|omega|(simp only [qf];omega)
    · omega
    · exact zdx
    · exact Io
    · exact F4
    · exact Ft
    · exact zdk
    · exact F7
   refine gX<|hK k65<|gL<|zn (yl _ 1 zp V<|oM 1 V<|.nl)<|nN<|?_
   have hlN:∀z∈QM (ya code zi Lk R) F.m (nth qo i).st,z∈S0++qo.map yz.st++Ka.map yz.st:=λz hz=>by rw [<-zcP] at hz;obtain ⟨y,hy,rfl⟩:=List.mem_map.1 hz;obtain ⟨k,hk,rfl⟩:=List.mem_iff_getElem.1 hy;have h9:=hdn k za;rwa [qq _ _ hk] at h9
   have zrI:=Ew (p:=(ya code zi Lk R)) (m:=F.m) (s:=(nth qo i).st) (E:=(lD++os.l).map zC.out) (λo ho=>by rw [yi];exact List.mem_append.2 (.inr (by rw [zcH];exact ho))) hlN
   have hb4:=oI.mono (F' :=λy=>y∈(qo.map yz.st).drop (i+1)\/y∈Ka.map yz.st) (λs hs h=>by rcases h with h|h;rw [LD V7] at h;rcases List.mem_cons.1 h with rfl|h;exact .inr zrI;exact .inl (.inl h);exact .inl (.inr h))
   have zrK:∀o∈lD++os.l,∀b,zz.on o b->K b\/W.heap.size<=b:=λo ho=>(List.mem_append.1 ho).elim (zj3 o) (zqE o)
   have zrL:(lD++os.l).length<=17*(S0.length+(i+1)):=by rw [yX];omega
   intro a98 w98 MR
   refine zH ⟨_,?_,(i+1),Ka,lD++os.l,ED,vn3,v76,?_,?_,?_,?_,?_,?_,?_,?_,MR.wN ⟨V,V,V,V,V,V,V,trivial⟩ [3,4,5,6,7,8,9,10] V,V⟩
   · rw [zqZ];first|omega|(simp only [qf];omega)
   · omega
   · exact hb4
   · exact OT
   · exact zcM
   · exact Oz
   · exact zrK
   · exact zrL
   · omega
  refine gX<|hK k57<|gK λ_ k99=>sG (oM 1 V<|oV (tS (i:=1) (l:=Sv) K0 V V V) V<|NU _ 4000 V<|.nl)<|gcd V (λYx iB=>?_) λYx iB=>?_
  ·skip
   have zrq:Sv.length=S0.length+qo.length+nx.length:=by rw [OU,yw,yX,yX,yw,yw]
   have zr0:=I2.x5 (by rw [yX,yX,yw,yw];omega)
   refine sG (oM 2 V<|.nl)<|gR<|uT<|uB<|uT<|uB<|uT<|λzta znH oP=>WY (fn:=Tryz.f61) (t:=6) (u:=7) V oP V V ?_
   exact ⟨z1,.inl ⟨V,zr0,(oP.sh.zY [5] V)⟩⟩
  refine gS<|hK k99<|gL<|zn (oM 2 V<|.nl)<|nN<|λzl9 zf1 dp=>?_
  change∃_m,_m<_/\_
  have zr1:=I2.mono (F' :=λy=>y∈nx.map yz.st) (λs hs h=> .inl (h.elim (λh=>by rw [List.drop_of_length_le (by simp;omega)] at h;cases h) id))
  have zrq:Sv.length=S0.length+qo.length+nx.length:=by rw [OU,yw,yX,yX,yw,yw]
  refine ⟨_,?_,(S0++qo.map yz.st),nx,lD,z1,Sv,vn,ve2,?_,?_,?_,?_,?_,?_,?_,?_,dp.wN ⟨V,V,V,V,trivial⟩ [7,1,2,3,4,5,6] V,V⟩
  · rw [zq3];(rw [yX,yw];omega)
  · exact zr1
  · exact OU
  · exact l5
  · exact zhP
  · (rw [yX,yw];omega)
  · exact zj3
  · (rw [yX,yw];omega)
  · rw [hz1,hz,bD,QR (by simp;omega)]
 refine gX<|hK Rc<|sK λ_ zbG=>zn (oM 1 V<|.nl)<|gO [6,0,1,2,3,4,5] V<|λzl8 zfZ J3=>?_
 have zil:=J3.sh.yT (Lp:= [_])
 refine zL (zD J3 zez V V V V V (tL _ (⟨ve,es⟩:Ls zC) _ zil)) (zg V _) ?_
 rintro Mu A3 ⟨_,⟨rfl,l9,Gi,zhn,iw⟩,iZ⟩
 have UC:St 83 K W Mu A3 _ [_,_,_,_,_,_,_]:=⟨iZ,J3.sh.xP (Lp:= [_]) iw (by intro A hA b hb;simp only [z6,qd,or_false] at hA;rcases hA with rfl<;>first|exact (hb:False).elim|exact Flat.qh hb|exact .inl ⟨_,xx ..,.inr hb⟩|(obtain ⟨i9,Yv,YJ⟩:=hb;have hm9:=Gi.subset (qb _ _ Yv);obtain ⟨k9,KD,e9⟩:=List.mem_iff_getElem.1 hm9;exact .inl ⟨_,xx ..,.inr ⟨k9,KD,by rw [qq _ _ KD,e9];exact YJ⟩⟩)|exact .inl ⟨_,by simp,.inr hb⟩)⟩
 clear iZ iw
 clear J3
 refine gG UC<|nK zbG<|sK λ_ zo3=>zn (oM 1 V<|.nl)<|λa117 Nf YP=>?_;clear UC
 have zik:=YP.sh.yT (Lp:= [_])
 refine zL (zD YP zey V V V V V (Ae _ (⟨ve,l9⟩:Ls zC) _ zik (by show l9.length<=_;rw [Gi.length_eq];show es.length<=_;omega))) (zg V _) ?_
 rintro Mt tz ⟨_,⟨u9,rfl,hu9,U2⟩,iX⟩
 have UB:St 83 K W Mt tz _ [_,_,_,_,_,_,_]:=⟨iX,YP.sh.xP (Lp:= [_]) U2 (by intro A hA b hb;simp only [z6,qd,or_false] at hA;rcases hA with rfl<;>first|exact (hb:False).elim|exact Flat.qh hb|exact .inl ⟨_,xx ..,.inr hb⟩|(obtain ⟨i9,Yv,YJ⟩:=hb;have hm8:nth u9.l i9∈j4 G2 l9 l9.length:=(by rw [<-show u9.l=j4 G2 l9 l9.length from hu9];exact qb _ _ Yv);have hm9:=aS (qC _) _ hm8;obtain ⟨k9,KD,e9⟩:=List.mem_iff_getElem.1 hm9;exact .inl ⟨.own 39 (⟨ve,l9⟩:Ls zC),xx ..,.inr ⟨k9,KD,by rw [qq _ _ KD,e9];exact YJ⟩⟩)|exact .inl ⟨_,by simp,.inr hb⟩)⟩
 clear iX U2
 clear YP
 refine gG UB<|zn (oM 2 V<|.nl)<|nK zo3<|gR<|λa119 zfW ae=>WY (fn:=Tryz.f61) (t:=6) (u:=7) V ae V V ?_;clear UB
 have zjd:qo= []:=JW za
 have hFf:∀s∈S0++qo.map yz.st,¬s∈qo.map yz.st:=by rw [zjd];intro s _ h;cases h
 have hks:=hG (l:=l9.map zC.out) (eq:=λa b=>decide (a=b)) (λa b=>decide_eq_true_iff) zhn
 have hue:u9.l.map zC.out=j4 (λa b=>decide (a=b)) (l9.map zC.out) (l9.map zC.out).length:=by rw [hu9,yw];exact aT _ (qC _)
 refine ⟨z,.inr ⟨u9,S0++qo.map yz.st,V,by rw [hue];exact hks.1,λo=>?_,uP.small hFf (by rw [yX,yw];omega),by rw [zjd];show z=(S0++ []).foldl ke z0;rw [k6];exact hz,uP.nd,uP.zF hFf,λo ho b hb=>hen o (Gi.subset (aS (qC _) _ (hu9▸ho))) b hb,?_,(ae.sh.zY [0,6] V)⟩⟩
 · rw [hue,hks.2 o,(Gi.map zC.out).mem_iff];exact uP.all hFf o
 · rw [hu9];have h9:=EH G2 l9 l9.length;have h8:=Gi.length_eq;have h7:l9.length<=17*S0.length:=(by rw [h8];exact WJ);show (j4 G2 l9 l9.length).length<=_;omega
theorem Sh.Sq {K:Nat->Prop}{W w:World}{Lp Lr:List zZ}(h:Sh K W w (Lp++Lr)){b:Nat}(hb:(∃A∈Lp,A.fp b)\/w.heap.size<=b):K b\/W.heap.size<=b:=
 hb.elim (λ⟨A,hA,hf⟩=>h.Zj A (List.mem_append.2 (.inl hA)) b hf) (λh9=> .inr (vZ h.J6.size h9))
structure KB (p:Pg)(m:Int){ζ:Type}(ke:ζ->yc->ζ)(z0:ζ)(K:Nat->Prop)(W:World)(ok:Bool)(u:Ls zC)(z:ζ):Prop where
 x5:ok=false->pK p m/\u.l= []
 QZ:ok=true->¬pK p m/\j0 (u.l.map zC.out)/\(∀o,o∈u.l.map zC.out↔jq p m o)/\∃S:List yc,z=S.foldl ke z0/\S.Nodup/\∀s,s∈S↔Reach p m s
 nw:∀o∈u.l,∀b,zz.on o b->K b\/W.heap.size<=b
 len:u.l.length<=100000
theorem KB.up {p:Pg}{m:Int}{ζ:Type}{ke:ζ->yc->ζ}{z0:ζ}{K K' :Nat->Prop}{W W' :World}{ok:Bool}{u:Ls zC}{z:ζ}(h:KB p m ke z0 K W ok u z)(hb:∀b,K b\/W.heap.size<=b->K' b\/W'.heap.size<=b):KB p m ke z0 K' W' ok u z:=⟨h.x5,h.QZ,λo ho b h9=>hb b (h.nw o ho b h9),h.len⟩
theorem KB.zok {p:Pg}{m:Int}{ζ:Type}{ke:ζ->yc->ζ}{z0:ζ}{K:Nat->Prop}{W:World}{u:Ls zC}{z:ζ}(h:KB p m ke z0 K W false u z):KB p m ke z0 K W false (⟨.slice none 0 0,[]⟩:Ls zC) z:=⟨λh9=>⟨(h.x5 h9).1,V⟩,λh9=>(by cases h9),λo ho=>(by cases ho),wX _⟩
theorem sI (K:Nat->Prop)(F:gN)(ζ:Type)(env:ζ->zZ)(ke:ζ->yc->ζ)(z0:ζ)(fe:FuncId)(us ws:List Value)(i0:F.ι)(q0:(F.mem i0).σ)(code:Ls (Ls Ins))(zi words owner:Ls Int)(pw:Value)(Lk R:Nat)(W:World)(hF:YH Tryz.prog 182 3 204 5 141 F)
  (hS:Sh K W W [.zM (F.mem i0).g0 182 [words.v,owner.v],.own 3 words,.own 3 owner,(F.mem i0).X q0,.at_ code,env z0]) (zR:yJ (ya code zi Lk R)) (hR:pH (ya code zi Lk R)) (Fv:(F.mem i0).qs q0=List.replicate code.l.length []) (Ys:words.l=zi.l) (ho0:owner.l=List.replicate Lk (-1)) (hbe:zN Tryz.prog fe=true) (hEr:∀z b,¬(env z).rd b)
  (hE:∀(K' :Nat->Prop) (W' :World) (gp:Nat) (x:yz F) (z:ζ),PX code zi Lk R x->x.gp=gp->Sh K' W' W' [env z,.Yd x,.zx gp 25 [code.v,pw,.int .i64 ((Lk:Nat):Int),.int .i64 ((R:Nat):Int)],.at_ code]->zP Tryz.prog fe (us++ [.pointer (some ⟨x.g,0,none⟩)]++ws) W' (λv w' =>v= .tuple #[]/\Sh K' W' w' [env (ke z x.st),.Yd x,.zx gp 25 [code.v,pw,.int .i64 ((Lk:Nat):Int),.int .i64 ((R:Nat):Int)],.at_ code])):
  zP Tryz.prog 61 [.agg #[code.v,pw,.int .i64 ((Lk:Nat):Int),.int .i64 ((R:Nat):Int)],.iface (F.mem i0).T (.pointer (some (F.mem i0).u)),.func (.func fe) us.toArray ws.toArray] W (λv w' =>∃(u:Ls zC) (ok:Bool) (z:ζ),v= .tuple #[u.v,.bool ok]/\KB (ya code zi Lk R) F.m ke z0 K W ok u z/\Sh K W w' [.own 39 u,env z]):=by
 refine zP.mono (zdM K F ζ env ke z0 fe us ws i0 q0 code zi words owner pw Lk R W hF hS zR hR Fv Ys ho0 hbe hEr hE) ?_
 rintro v w' ⟨z,⟨rfl,hb,hs⟩|⟨u,S,rfl,h1,h2,h3,h4,h5,h6,h7,h8,hs⟩⟩
 ·exact ⟨⟨.slice none 0 0,[]⟩,false,z,V,⟨λ_=>⟨hb,V⟩,λh=>(by cases h),λo ho=>(by cases ho),wX _⟩,hs.nil 39⟩
 ·exact ⟨u,true,z,V,⟨λh=>(by cases h),λ_=>⟨h3,h1,h2,S,h4,h5,h6⟩,h7,h8⟩,hs⟩
theorem M6 (K:Nat->Prop)(ζ:Type)(env:ζ->zZ)(ke:ζ->yc->ζ)(z0:ζ)(fe:FuncId)(us ws:List Value)(code:Ls (Ls Ins))(zi:Ls Int)(Lk R:Nat)(W:World)(hS:Sh K W W [.at_ code,.at_ zi,env z0])(zR:yJ (ya code zi Lk R))(hR:pH (ya code zi Lk R))(hbe:zN Tryz.prog fe=true)(hEr:∀z b,¬(env z).rd b)(hE:∀(K' :Nat->Prop) (W' :World) (gp:Nat) (x:yz FP) (z:ζ),PX code zi Lk R x->x.gp=gp->Sh K' W' W' [env z,.Yd x,.zx gp 25 [code.v,zi.v,.int .i64 ((Lk:Nat):Int),.int .i64 ((R:Nat):Int)],.at_ code]->zP Tryz.prog fe (us++ [.pointer (some ⟨x.g,0,none⟩)]++ws) W' (λv w' =>v= .tuple #[]/\Sh K' W' w' [env (ke z x.st),.Yd x,.zx gp 25 [code.v,zi.v,.int .i64 ((Lk:Nat):Int),.int .i64 ((R:Nat):Int)],.at_ code])):
    zP Tryz.prog 49 [.agg #[code.v,zi.v,.int .i64 ((Lk:Nat):Int),.int .i64 ((R:Nat):Int)],.bool false,.func (.func fe) us.toArray ws.toArray] W (λv w' =>∃(u:Ls zC) (ok:Bool) (z:ζ),v= .tuple #[u.v,.bool ok]/\KB (ya code zi Lk R) 0 ke z0 K W ok u z/\Sh K W w' [.own 39 u,env z]):=by
 obtain ⟨iL,qg,aV,gv,hR2⟩:=ga zR
 refine gen Tryz.func49 Tryz.ntmps49 hS V λjP z7=>gG z7<|sK λ_ kz=>XV V V λxX=>zn (oM 2 V<|.nl)<|nK kz<|gK λ_ gu=>sG (oM 1 V<|.nl)<|Q1 V V<|gS<|hK gu<|gK λ_ Xe=>gF [0,1,2,3,8] V<|λa17 By jk=>Wz ((λΦ Ψ S a w=>(S 2=false/\S 5=false/\kH 25 S Φ Ψ a/\Sh K W w [.zM xX 25 [code.v,zi.v,.int .i64 ((Lk:Nat):Int),.int .i64 ((R:Nat):Int)],.at_ code,.at_ zi,env z0])\/(S 2=true/\S 5=false/\∃(yf:Nat) (qJ:Ls Int) (qK:Ls Int),(qJ.l=zi.l)/\(qK.l=List.replicate Lk (-1))/\kH 25 S Φ (Ψ++ [(2,19,.pointer (some ⟨yf,0,none⟩)),(3,20,.iface (Kc yf).T (.pointer (some (Kc yf).u)))]) a/\Sh K W w [.zM yf 182 [qJ.v,qK.v],.own 3 qJ,.own 3 qK,(Kc yf).X code.l.length,.zM xX 25 [code.v,zi.v,.int .i64 ((Lk:Nat):Int),.int .i64 ((R:Nat):Int)],.at_ code,.at_ zi,env z0])\/(S 2=true/\S 5=true/\∃(yf:Nat) (qJ:Ls Int) (qK:Ls Int) (Yh:Ls zC) (Zh:Bool) (JB:ζ),(qJ.l=zi.l)/\(qK.l=List.replicate Lk (-1))/\(KB (ya code zi Lk R) 0 ke z0 K W Zh Yh JB)/\kH 25 S Φ (Ψ++ [(2,19,.pointer (some ⟨yf,0,none⟩)),(3,20,.iface (Kc yf).T (.pointer (some (Kc yf).u))),(5,22,.tuple #[Yh.v,.bool Zh]),(6,23,Yh.v),(7,24,.bool Zh),(8,6,Yh.v),(9,7,.bool Zh)]) a/\Sh K W w [.own 39 Yh,env JB,.zM xX 25 [code.v,zi.v,.int .i64 ((Lk:Nat):Int),.int .i64 ((R:Nat):Int)],.at_ zi])) [(0,.agg #[code.v,zi.v,.int .i64 ((Lk:Nat):Int),.int .i64 ((R:Nat):Int)]),(1,.bool false),(2,.func (.func fe) us.toArray ws.toArray),(3,.pointer (some ⟨xX,0,none⟩)),(8,.bool false)] [(0,17,.agg #[code.v,zi.v,.int .i64 ((Lk:Nat):Int),.int .i64 ((R:Nat):Int)]),(1,18,.agg #[code.v,zi.v,.int .i64 ((Lk:Nat):Int),.int .i64 ((R:Nat):Int)]),(4,21,.func (.func fe) us.toArray ws.toArray)]) zb zb (Or.inl (⟨V,V,kH.start jk.fr,jk.sh.drew⟩)) ?_ ?_;clear z7
 ·intro S i o ho qn qg zX a w hI
  clear jk
  rcases i with _|_|_|_|_|_|_|_|_|_|i
  ·obtain rfl:_=o:=qA ho
   rcases hI with ⟨yj,jb,φ,ς⟩|⟨yj,jb,yf,qJ,qK,yd,ye,φ,ς⟩|⟨_,jb,_⟩
   ·exact sq φ φ.yv ς (Jd (i:=0) (vs:= [code.v,zi.v,.int .i64 ((Lk:Nat):Int),.int .i64 ((R:Nat):Int)]) qu V V V V V) 0 V V V V V V λa hg=>Or.inl (⟨un V yj,un V jb,hg,ς⟩)
   ·exact sq φ φ.yv ς (Jd (i:=4) (vs:= [code.v,zi.v,.int .i64 ((Lk:Nat):Int),.int .i64 ((R:Nat):Int)]) qu V V V V V) 0 V V V V V V λa hg=>Or.inr (Or.inl (⟨un V yj,un V jb,yf,qJ,qK,yd,ye,hg,ς⟩))
   ·exact zh (cA qg 5 0 V jb) qn
  ·obtain rfl:_=o:=qA ho
   rcases hI with ⟨yj,jb,φ,ς⟩|⟨yj,_⟩|⟨yj,_⟩
   ·exact sq φ φ.yv ς (Jd (i:=0) (vs:= [code.v,zi.v,.int .i64 ((Lk:Nat):Int),.int .i64 ((R:Nat):Int)]) qu V V V V V) 1 V V V V V V λa hg=>Or.inl (⟨un V yj,un V jb,hg,ς⟩)
   ·exact zh (cA qg 2 1 V yj) qn
   ·exact zh (cA qg 2 1 V yj) qn
  ·obtain rfl:_=o:=qA ho
   have Wo:S 1=true:=zK zX 0 V V
   rcases hI with ⟨yj,jb,φ,ς⟩|⟨yj,_⟩|⟨yj,_⟩
   ·have hs:=St.mk (Fr.cons φ.yv (φ.at_ 1 1 18 _ V Wo)) ς
    refine yG (zD hs ta V V V V V (NH zi Lk code.l.length code.v ((R:Nat):Int) _ (hs.sh.at 2 V) aV gv)) (zg V _) ?_
    rintro a24 dN ⟨_,⟨g24,zop,zox,rfl,ziJ,ziT,Gd⟩,DE⟩ ⟨v0,zb2⟩
    have wJ:=(⟨DE,hs.sh.call Gd (by intro A hA b hb;simp only [km,z6,qd,or_false] at hA;first|(subst hA;exact Flat.qh hb)|(rcases hA with rfl|rfl|rfl|rfl<;>first|exact (hb:False).elim|exact Flat.qh hb))⟩:St 25 K W a24 dN _ _)
    clear DE Gd
    exact Or.inr (Or.inl (⟨qV _ _,un V jb,g24,zop,zox,ziJ,ziT,φ.wU qg qn [0,1,2] zb zb zb2 wJ.fr.defers (wJ.fr.at_ 19 _ V) 3 V V V V,(wJ.sh.zY [0,1,2,3,4,5,6,7] V)⟩))
   ·exact zh yj qn
   ·exact zh yj qn
  ·obtain rfl:_=o:=qA ho
   have QI:S 2=true:=zK zX 0 V V
   rcases hI with ⟨yj,_⟩|⟨yj,jb,yf,qJ,qK,yd,ye,φ,ς⟩|⟨_,jb,_⟩
   ·exact zh QI yj
   ·exact sq φ (Fr.cons φ.yv (φ.at_ 3 2 19 _ V QI)) ς (Rn.same (H3 (T:=123) Tryz.underlying123 V V) V) 4 V V V V V V λa hg=>Or.inr (Or.inl (⟨un V yj,un V jb,yf,qJ,qK,yd,ye,hg,ς⟩))
   ·exact zh (cA qg 5 3 V jb) qn
  ·obtain rfl:_=o:=qA ho
   rcases hI with ⟨yj,jb,φ,ς⟩|⟨yj,jb,yf,qJ,qK,yd,ye,φ,ς⟩|⟨_,jb,_⟩
   ·exact sq φ φ.yv ς (zG V V) 2 V V V V V V λa hg=>Or.inl (⟨un V yj,un V jb,hg,ς⟩)
   ·exact sq φ φ.yv ς (zG V V) 2 V V V V V V λa hg=>Or.inr (Or.inl (⟨un V yj,un V jb,yf,qJ,qK,yd,ye,hg,ς⟩))
   ·exact zh (cA qg 5 4 V jb) qn
  ·obtain rfl:_=o:=qA ho
   have BE:S 0=true:=zK zX 0 V V
   have Wn:S 3=true:=zK zX 1 V V
   have XG:S 4=true:=zK zX 2 V V
   have QI:S 2=true:=zK zX 3 V V
   rcases hI with ⟨yj,_⟩|⟨yj,jb,yf,qJ,qK,yd,ye,φ,ς⟩|⟨_,jb,_⟩
   ·exact zh QI yj
   ·have hs:=St.mk (Fr.cons (Fr.cons (Fr.cons φ.yv (φ.at_ 0 0 17 _ V BE)) (φ.at_ 4 3 20 _ V Wn)) (φ.at_ 2 4 21 _ V XG)) ς
    have U8:=hs.zY (L' := [_,_,_,_,_,_,_,_]) [0,1,2,3,5,7,4,6] V
    have ob:=U8.sh.yT (Lp:= [_,_,_,_,_,_])
    refine yG (zD U8 zan V V V V V (sI _ FP ζ env ke z0 fe us ws yf code.l.length code zi qJ qK _ Lk R _ zaw ob zR hR V yd ye hbe hEr hE)) (zg V _) ?_
    rintro ec ak ⟨_,⟨u30,zbl,z30,rfl,Tp,Yt⟩,Vt⟩ ⟨v0,zpG⟩
    have zjy:=Tp.up (K' :=K) (W' :=W) (λb hb=>U8.sh.Sq (Lp:= [.zM yf 182 [qJ.v,qK.v],.own 3 qJ,.own 3 qK,(Kc yf).X code.l.length,.at_ code,env z0]) hb)
    have Qp:St 25 K W ec ak _ [_,_,_,_]:=⟨Vt,U8.sh.xP (Lp:= [_,_,_,_,_,_]) Yt (by intro A hA b hb;simp only [z6,qd,or_false] at hA;rcases hA with rfl|rfl<;>first|exact (hb:False).elim|exact Flat.qh hb|exact .inl ⟨_,xx ..,.inr hb⟩|exact (hEr _ _ hb).elim|(obtain ⟨i9,Yv,YJ⟩:=hb;exact (Tp.nw _ (qb _ _ Yv) _ YJ).elim (λ⟨A9,hA9,B4⟩=> .inl ⟨A9,hA9,.inl B4⟩) (λh9=> .inr (.inr h9)))|exact .inl ⟨_,by simp,.inr hb⟩)⟩
    clear Vt Yt
    exact Or.inr (Or.inr (⟨un V yj,qV _ _,yf,qJ,qK,u30,zbl,z30,yd,ye,zjy,φ.wU qg qn [0,1,2,3,4] zb zb zpG Qp.fr.defers (Qp.fr.at_ 22 _ V) 5 V V V V,(Qp.sh.zY [0,1,2,3] V)⟩))
   ·exact zh jb qn
  ·obtain rfl:_=o:=qA ho
   have Kk:S 5=true:=zK zX 0 V V
   rcases hI with ⟨yj,_⟩|⟨_,jb,_⟩|⟨yj,jb,yf,qJ,qK,Yh,Zh,JB,yd,ye,QX,φ,ς⟩
   ·exact zh (cA qg 5 2 V Kk) yj
   ·exact zh Kk jb
   ·exact sq φ (Fr.cons φ.yv (φ.at_ 5 5 22 _ V Kk)) ς (Xw V V V) 6 V V V V V V λa hg=>Or.inr (Or.inr (⟨un V yj,un V jb,yf,qJ,qK,Yh,Zh,JB,yd,ye,QX,hg,ς⟩))
  ·obtain rfl:_=o:=qA ho
   have Kk:S 5=true:=zK zX 0 V V
   rcases hI with ⟨yj,_⟩|⟨_,jb,_⟩|⟨yj,jb,yf,qJ,qK,Yh,Zh,JB,yd,ye,QX,φ,ς⟩
   ·exact zh (cA qg 5 2 V Kk) yj
   ·exact zh Kk jb
   ·exact sq φ (Fr.cons φ.yv (φ.at_ 5 5 22 _ V Kk)) ς (Xw V V V) 7 V V V V V V λa hg=>Or.inr (Or.inr (⟨un V yj,un V jb,yf,qJ,qK,Yh,Zh,JB,yd,ye,QX,hg,ς⟩))
  ·obtain rfl:_=o:=qA ho
   have Uw:S 6=true:=zK zX 0 V V
   have Kk:S 5=true:=zK zX 1 V V
   have QI:S 2=true:=zK zX 4 V V
   rcases hI with ⟨yj,_⟩|⟨_,jb,_⟩|⟨yj,jb,yf,qJ,qK,Yh,Zh,JB,yd,ye,QX,φ,ς⟩
   ·exact zh QI yj
   ·exact zh Kk jb
   ·exact sq φ (Fr.cons φ.yv (φ.at_ 6 6 23 _ V Uw)) ς (Zd V V) 8 V V V V V V λa hg=>Or.inr (Or.inr (⟨un V yj,un V jb,yf,qJ,qK,Yh,Zh,JB,yd,ye,QX,hg,ς⟩))
  ·obtain rfl:_=o:=qA ho
   have Gn:S 7=true:=zK zX 0 V V
   have QI:S 2=true:=zK zX 4 V V
   have Kk:S 5=true:=zK zX 7 V V
   rcases hI with ⟨yj,_⟩|⟨_,jb,_⟩|⟨yj,jb,yf,qJ,qK,Yh,Zh,JB,yd,ye,QX,φ,ς⟩
   ·exact zh QI yj
   ·exact zh Kk jb
   ·exact sq φ (Fr.cons φ.yv (φ.at_ 7 7 24 _ V Gn)) ς (Zd V V) 9 V V V V V V λa hg=>Or.inr (Or.inr (⟨un V yj,un V jb,yf,qJ,qK,Yh,Zh,JB,yd,ye,QX,hg,ς⟩))
  · simp at ho
 intro S zO a w hI
 clear jk
 rcases hI with ⟨yj,jb,φ,ς⟩|⟨yj,jb,yf,qJ,qK,yd,ye,φ,ς⟩|⟨yj,jb,yf,qJ,qK,Yh,Zh,JB,yd,ye,QX,φ,ς⟩
 · exact zh (zO 2 zf) yj
 · exact zh (zO 5 zf) jb
 have Yz:St 25 K W a w _ _:=⟨(Fr.cons (Fr.cons φ.yv (φ.at_ 8 8 6 _ V (zO 8 zf))) (φ.at_ 9 9 7 _ V (zO 9 zf))),ς⟩
 clear zO φ ς yj jb
 refine gG Yz<|hK Xe<|gR<|λpy lV QJ=>WY (fn:=Tryz.f49) (t:=6) (u:=7) V QJ V V ?_;clear Yz
 exact ⟨Yh,Zh,JB,V,QX,(QJ.sh.zY [0,1] V)⟩
structure Cl where
 th:Int
 at_:Int
 UW:Int
 wh:Int
 wd:Int
 deriving DecidableEq
instance : Inhabited Cl:=⟨⟨0,0,0,0,0⟩⟩
def Cl.cell (x:Cl):Nat->Value
 |0=> .int .i64 x.th
 |1=> .int .i64 x.at_
 |2=> .int .i64 x.UW
 |3=> .int .i64 x.wh
 |_=> .int .i64 x.wd
def Cl.val (x:Cl):Value:= .agg #[.int .i64 x.th,.int .i64 x.at_,.int .i64 x.UW,.int .i64 x.wh,.int .i64 x.wd]
instance : zz Cl where
 sz:=5
 cell:=Cl.cell
 whole:=Cl.val
 agg:=true
 inner _ _:=True
 on _ _:=False
 one h:=by cases h
 many _ _:=rfl
 yB _ _ _ h _:=h
 lt _ _ _ _ h:=h.elim
instance : One Cl:=⟨λx _ _ q _=>by match q with|0=>rfl|1=>rfl|2=>rfl|3=>rfl|_+4=>rfl⟩
instance : Flat Cl:=⟨λ_ _ h=>h,λ_ _=>trivial⟩
def k4 :List Cl->Nat->List MapEntry
 | [],_=> []
 |x::r,i=>⟨x.val,.bool true,i⟩::k4 r (i+1)
theorem Hd (x:Cl):∀(l:List Cl) (i:Nat),k4 (l++ [x]) i=k4 l i++ [⟨x.val,.bool true,i+l.length⟩]
 | [],_=>rfl
 |y::r,i=>by
  rw [QQ,k4,Hd x r (i+1),k4,QQ,yY]
  congr 3
  simp;omega
theorem lE :∀(l:List Cl) (i:Nat),(k4 l i).length=l.length
 | [],_=>rfl
 |x::r,i=>by rw [k4,yY,lE r,yY]
theorem DZ {e:MapEntry} :∀ {l:List Cl} {i:Nat},e∈k4 l i->∃j,j<l.length/\e=⟨(nth l j).val,.bool true,i+j⟩
 | [],_,h=>by cases h
 |x::r,i,h=>by
  rw [k4] at h
  rcases List.mem_cons.1 h with rfl|h
  ·exact ⟨0,by simp,V⟩
  ·obtain ⟨j,hj,rfl⟩:=DZ h
   exact ⟨j+1,by simpa using hj,by rw [show i+1+j=i+(j+1) from za];rfl⟩
theorem lF {l:List Cl}{i j:Nat}(h:j<l.length):⟨(nth l j).val,.bool true,i+j⟩∈k4 l i:=by
 induction l generalizing i j with
 |nil=>cases h
 |cons x r ih=>
  rw [k4]
  cases j with
  |zero=>exact xx ..
  |succ j=>
   have:=ih (i:=i+1) (j:=j) (by simpa using h)
   rw [show i+1+j=i+(j+1) from za] at this
   exact xe _ this
theorem bj :∀(l:List Cl) (i:Nat),(k4 l i).map (·.born)=List.range' i l.length
 | [],_=>rfl
 |x::r,i=>by rw [k4,xA,bj r,yY,List.range'_succ]
def Bu (w:World)(g:Nat)(l:List Cl):Prop:=w.heap[g]? =some (.map (k4 l 0).toArray l.length)
theorem Bu.lt {w:World}{g:Nat}{l:List Cl}(h:Bu w g l):g<w.heap.size:=(Array.getElem?_eq_some_iff.1 h).1
def zZ.Wy (g:Nat)(l:List Cl):zZ where
 fp b:=g=b
 rd _:=False
 ok w:=Bu w g l
 yB w w' h hb:=(hb g (.inl V)).trans h
 lt w h b hb:=by
  rcases hb with rfl|hb
  ·exact h.lt
  ·exact hb.elim
def zZ.itO (r g n:Nat)(ps:List Nat):zZ where
 fp b:=r=b
 rd _:=False
 ok w:=w.heap[r]? =some (.mapIter (some g) n ps.toArray n)
 yB w w' h hb:=(hb r (.inl V)).trans h
 lt w h b hb:=by
  rcases hb with rfl|hb
  ·exact (Array.getElem?_eq_some_iff.1 h).1
  ·exact hb.elim
def atC (k:Cl):List Cl->Nat->Option (Nat×Value)
 | [],_=>none
 |j::r,i=>if k=j then some (i,.bool true) else atC k r (i+1)
theorem lN (k:Cl):∀(l:List Cl) (i:Nat),(∃j,atC k l i=some (i+j,.bool true)/\l[j]? =some k)\/(atC k l i=none/\k∉l)
 | [],i=> .inr ⟨V,by simp⟩
 |x::r,i=>by
  unfold atC
  by_cases h:k=x
  ·subst h;exact .inl ⟨0,by rw [if_pos V];rfl,V⟩
  ·rw [if_neg h]
   rcases lN k r (i+1) with ⟨j,h1,h2⟩|⟨h1,h2⟩
   ·exact .inl ⟨j+1,by rw [h1,show i+1+j=i+(j+1) from za],by simpa using h2⟩
   ·exact .inr ⟨h1,by simp [h,h2]⟩
theorem CB (x y:Cl)(w:World):(Op.equal 58 x.val y.val).run Tryz.prog w= .ok (decide (x=y)) w:=by
 obtain ⟨a,b,c,d,e⟩:=x
 obtain ⟨a',b',c',d',e'⟩:=y
 simp [Cl.val,Op.equal,Op.maxDepth,go_sem]
 by_cases h1:a=a' <;>by_cases h2:b=b' <;>by_cases h3:c=c' <;>by_cases h4:d=d' <;>by_cases h5:e=e' <;>simp [h1,h2,h3,h4,h5]
theorem fh (b:Bool)(x:Cl)(w:World):(Instr.checkKey b 10000 58 x.val).run Tryz.prog w= .ok () w:=by
 have hp:∀(n:Int) (w:World),(Instr.checkKey b 9999 3 (.int .i64 n)).run Tryz.prog w= .ok () w:=λn w=>vJ w b 9998 3 _ Tryz.underlying3
 rw [Instr.checkKey]
 simp [Cl.val,go_sem,hp]
theorem az (k:Cl)(w:World):∀(l:List Cl) (i j:Nat),(Instr.findAsking 58 k.val (k4 l j) i).run Tryz.prog w= .ok (atC k l i) w
 | [],i,j=>by rw [k4,Instr.findAsking,q5];rfl
 |x::r,i,j=>by
  rw [k4,Instr.findAsking]
  simp only [qS,CB,yQ]
  unfold atC
  by_cases h:k=x
  ·rw [if_pos h,decide_eq_true h];rfl
  ·rw [if_neg h,decide_eq_false h]
   simp only [Bool.false_eq_true,if_false]
   exact az k w r (i+1) (j+1)
theorem mN (k:Cl)(l:List Cl)(w:World):(Instr.findKey 58 k.val (k4 l 0)).run Tryz.prog w= .ok (atC k l 0) w:=by
 unfold Instr.findKey
 rw [qS,run_underlying Tryz.underlying58,yQ]
 cases l with
 |nil=>rfl
 |cons x r=>
  have e:∀fs,Instr.findNow (.struct fs) k.val (k4 (x::r) 0) 0=none:=λfs=>rfl
  simp only [e]
  exact az k w (x::r) 0 0
def J7 (l:List Cl)(k:Cl):List Cl:=if k∈l then l else l++ [k]
section
variable {o:Oper}{N:Nat}{K:Nat->Prop}{W w:World}{a:Act}{F:List (Nat×Value)}{L:List zZ}{l:List Cl}{k:Cl}{g:Nat}
theorem AR {d:Nat}(h:St N K W a w F L)(ho:o.op= .makeMap 82 none)(hd:o.dst=some d)(wz:Nat.blt d N=true):Ex Tryz.prog o a w (λa' w' =>∃g:Nat,St N K W a' w' ((d,.map (some g))::F) (.Wy g []::L)):=by
 have yN:(Instr.makeMap 82 none).run Tryz.prog w= .ok (.map (some w.heap.size)) (w.alloc (.map #[] 0)):=run_makeMap 82 w
 refine Ex.j8 (v:= .map (some w.heap.size)) (w' :=w.alloc (.map #[] 0)) ?_ ⟨w.heap.size,?_⟩
 ·unfold execOp
  simp only [ho,GR,qS,yN,yQ,q5]
 ·rw [hd]
  have h1:Sh K W (w.alloc (.map #[] 0)) (.Wy w.heap.size []::L):=
   h.sh.push (j2.alloc _ w _) (Go.heap_alloc_new w _) (λb hb=>by rw [<-(show w.heap.size=b from hb)];exact qC _) (λb hb=>hb.elim) (λb _ hb=>hb)
  exact ⟨h.fr.put d (by simpa [yV] using wz) _,h1⟩
theorem UX {l:List Cl}{i:Nat}(hi:l[i]? =some k):((k4 l 0).toArray.modify i λe=> { e with key:=k.val,val:= .bool true })=(k4 l 0).toArray:=by
 apply Array.ext_getElem?
 intro j
 rw [bH]
 split
 ·rename_i e
  subst e
  have qU:=(List.getElem?_eq_some_iff.1 hi).1
  have key:∀(l:List Cl) (i j:Nat),l[i]? =some k->(k4 l j)[i]? =some ⟨k.val,.bool true,j+i⟩:=by
   intro l
   induction l with
   |nil=>intro i j h;simp at h
   |cons x r ih=>
    intro i j h
    cases i with
    |zero=>
     obtain rfl:x=k:=by simpa using h
     rfl
    |succ i=>rw [k4,JT,ih i (j+1) (by simpa using h)];congr 2;omega
  have e9:=key l i 0 hi
  simp [e9]
 ·rfl
theorem pM {x y z:Operand}{i:Nat}(h:St N K W a w F L)(ho:o.op= .mapUpdate 82 x y z)(hd:o.dst=none)(hx:ev F x=some (.map (some g)))(hy:ev F y=some k.val)(hz:ev F z=some (.bool true))(hi:L[i]? =some (.Wy g l)):
  Ex Tryz.prog o a w (λa' w' =>St N K W a' w' F (L.set i (.Wy g (J7 l k)))):=by
 have h1:Bu w g l:=h.sh.ok _ (zy hi)
 have qU:=h1.lt
 have e0:(getObj g).run Tryz.prog w= .ok (.map (k4 l 0).toArray l.length) w:=by simp [getObj,Sem.run,show w.heap[g]? =_ from h1]
 have e1:=mN k l w
 have e2:=fh false k w
 have hm:Tryz.prog.underlying 82=some (.map 58 4):=Tryz.underlying82
 have yN:(Instr.mapUpdate 82 (.map (some g)) k.val (.bool true)).run Tryz.prog w= .ok () (World.ji w g (k4 (J7 l k) 0).toArray (J7 l k).length):=by
  rcases lN k l 0 with ⟨j,h3,h4⟩|⟨h3,h4⟩
  ·rw [h3] at e1
   have hk:J7 l k=l:=if_pos (zy h4)
   rw [hk]
   have e3:((k4 l 0).toArray[0+j]?).map (·.key)=some k.val:=by
    have hj:=(List.getElem?_eq_some_iff.1 h4).1
    have:=UX h4
    have e9:=congrArg (λx:Array MapEntry=>x[j]?) this
    simp only [bH,if_true] at e9
    rw [WS]
    cases hq:(k4 l 0).toArray[j]? with
    |none=>
     have:j<(k4 l 0).toArray.size:=by simp [lE,hj]
     rw [Xa this] at hq;cases hq
    |some e=>
     rw [hq] at e9
     simp only [ZJ,Qx] at e9
     rw [ZJ,<-e9]
   have e4:(Instr.keyThatStays k.val k.val).run Tryz.prog w= .ok k.val w:=by
    have hs:Instr.sameBits 10000 k.val k.val=true:=by
     simp [Cl.val,Instr.sameBits]
    unfold Instr.keyThatStays
    rw [if_pos hs];rfl
   have e5:=UX h4
   simp only [Instr.mapUpdate,qS,run_underlying hm,e0,e1,e2,yQ,e3,Hq,e4]
   rw [WS,e5]
   simp [setObj,Sem.run,show w.heap[g]? =_ from h1,World.ji]
  ·rw [h3] at e1
   have hk:J7 l k=l++ [k]:=if_neg h4
   rw [hk,Hd]
   simp only [Instr.mapUpdate,qS,run_underlying hm,e0,e1,e2,yQ]
   simp [setObj,Sem.run,show w.heap[g]? =_ from h1,World.ji]
 refine Ex.VV (w' :=World.ji w g (k4 (J7 l k) 0).toArray (J7 l k).length) ?_ ?_
 ·unfold execOp
  simp only [ho,h.fr.ev hx,h.fr.ev hy,h.fr.ev hz,qS,yN,yQ,q5]
 ·rw [hd]
  have hg:w.grownBy (World.ji w g (k4 (J7 l k) 0).toArray (J7 l k).length) (some g):=⟨V,V,V,by simp [World.ji],λj hj Qo=>by
   have:g≠j:=λe=>Qo (by rw [e])
   simp [World.ji,wG,this]⟩
  exact ⟨h.fr,h.sh.put hi (j2.grown hg (λb hb=>qA hb)) (by show (World.ji _ _ _ _).heap[g]? =_;simp [World.ji,qU]) (λb hb=> .inl hb) (λb hb=>hb.elim) (λb _ hb=>hb)⟩
theorem tm {x:Operand}{i d:Nat}(h:St N K W a w F L)(ho:o.op= .range 82 x)(hd:o.dst=some d)(wz:Nat.blt d N=true)(hx:ev F x=some (.map (some g)))(hi:L[i]? =some (.Wy g l)):
  Ex Tryz.prog o a w (λa' w' =>∃r:Nat,St N K W a' w' ((d,.pointer (some ⟨r,0,none⟩))::F) (.itO r g l.length []::L)):=by
 have h1:Bu w g l:=h.sh.ok _ (zy hi)
 have yN:=run_range_map (P:=Tryz.prog) w 82 58 4 g _ _ Tryz.underlying82 h1
 refine Ex.j8 (v:= .pointer (some ⟨w.heap.size,0,none⟩)) (w' :=w.alloc (.mapIter (some g) l.length #[] l.length)) ?_ ⟨w.heap.size,?_⟩
 ·unfold execOp
  simp only [ho,h.fr.ev hx,qS,yN,yQ,q5]
 ·rw [hd]
  have h1:Sh K W (w.alloc (.mapIter (some g) l.length #[] l.length)) (.itO w.heap.size g l.length []::L):=
   h.sh.push (j2.alloc _ w _) (Go.heap_alloc_new w _) (λb hb=>by rw [<-(show w.heap.size=b from hb)];exact qC _) (λb hb=>hb.elim) (λb _ hb=>hb)
  exact ⟨h.fr.put d (by simpa [yV] using wz) _,h1⟩
theorem AQ {x:Operand}{i j d r n:Nat}{ps:List Nat}(h:St N K W a w F L)(ho:o.op= .next x false)(hd:o.dst=some d)(wz:Nat.blt d N=true)(hx:ev F x=some (.pointer (some ⟨r,0,none⟩)))(hi:L[i]? =some (.Wy g l))(hj:L[j]? =some (.itO r g n ps))(hn:n=l.length):
  Ex Tryz.prog o a w (λa' w' =>((∀q,q<l.length->q∈ps)/\St N K W a' w' ((d,.tuple #[.bool false])::F) L)\/(∃q,q<l.length/\q∉ps/\St N K W a' w' ((d,.tuple #[.bool true,(nth l q).val,.bool true])::F) (L.set j (.itO r g n (ps++ [q]))))):=by
 subst hn
 have h1:Bu w g l:=h.sh.ok _ (zy hi)
 have h2:w.heap[r]? =some (.mapIter (some g) l.length ps.toArray l.length):=h.sh.ok _ (zy hj)
 have hr:=(Array.getElem?_eq_some_iff.1 h2).1
 rcases run_next_at (P:=Tryz.prog) w o.type r g l.length l.length ps.toArray (k4 l 0).toArray l.length h2 h1 (λe he=>by
   obtain ⟨q,hq,rfl⟩:=DZ (by simpa using he)
   show 0+q<l.length;omega) (qC _) with ⟨h0,yN⟩|⟨e,he,w1,Oq,yN⟩
 ·refine Ex.j8 (v:= .tuple #[.bool false]) (w' :=w) ?_ (.inl ⟨λq hq=>?_,?_⟩)
  ·unfold execOp
   simp only [ho,h.fr.ev hx,qS,yN,yQ,q5]
  ·have:=all_seen _ _ h0 _ (by rw [List.toList_toArray];exact lF (i:=0) hq)
   have h9:q∈ps:=by simpa using this
   exact h9
  ·rw [hd];exact ⟨h.fr.put d (by simpa [yV] using wz) _,h.sh⟩
 ·obtain ⟨hm,F6⟩:=mem_left he
  obtain ⟨q,hq,rfl⟩:=DZ (by simpa using hm)
  have Fv:q∉ps:=by
   intro h9
   have:ps.toArray.contains (0+q)=true:=by simpa using h9
   rw [this] at F6;cases F6
  refine Ex.j8 (v:= .tuple #[.bool true,(nth l q).val,.bool true]) (w' :=ChangeMaps.setBlock w1 r (.mapIter (some g) l.length (ps.toArray.push (0+q)) l.length)) ?_ (.inr ⟨q,hq,Fv,?_⟩)
  ·unfold execOp
   simp only [ho,h.fr.ev hx,qS,yN,yQ,q5]
  ·rw [hd]
   refine ⟨h.fr.put d (by simpa [yV] using wz) _,h.sh.put hj ?_ ?_ (λb hb=> .inl hb) (λb hb=>hb.elim) (λb _ hb=>hb)⟩
   ·rcases Oq with rfl|rfl
    ·exact ⟨V,V,V,by simp [ChangeMaps.setBlock],λb hb Qo=>by
      have:r≠b:=λe=>Qo e
      simp [ChangeMaps.setBlock,wG,this]⟩
    ·exact ⟨V,V,V,by simp [ChangeMaps.setBlock],λb hb Qo=>by
      have:r≠b:=λe=>Qo e
      simp [ChangeMaps.setBlock,wG,this];rfl⟩
   ·show (ChangeMaps.setBlock w1 r _).heap[r]? =_
    have hs:r<w1.heap.size:=by rcases Oq with rfl|rfl<;>exact hr
    simp [ChangeMaps.setBlock,hs]
theorem tT {x:Operand}{i j r n q:Nat}{ps:List Nat}(ho:o.op= .entry x)(hx:ev F x=some (.pointer (some ⟨r,0,none⟩)))(hi:L[i]? =some (.Wy g l))(hj:L[j]? =some (.itO r g n (ps++ [q])))(hn:n=l.length)(hq:q<l.length):Rn Tryz.prog o N K W F L (.tuple #[(nth l q).val,.bool true]):=λa w h=>by
 subst hn
 have h1:Bu w g l:=h.sh.ok _ (zy hi)
 have h2:w.heap[r]? =some (.mapIter (some g) l.length (ps++ [q]).toArray l.length):=h.sh.ok _ (zy hj)
 have yN:=run_entry_at (P:=Tryz.prog) w r g l.length ps.toArray (k4 l 0).toArray l.length ⟨(nth l q).val,.bool true,0+q⟩ (by rw [h2];simp) h1 (by rw [List.toList_toArray];exact lF hq) (by rw [List.toList_toArray,bj];exact List.nodup_range')
 unfold execOp
 simp only [ho,h.fr.ev hx,qS,yN,yQ,q5]
theorem Xb {P:Program}{fn:Func}{t u t3:Nat}{v v' v3:Value}{R:Value->World->Prop}(hs:fn.results= #[.tmp t,.tmp u,.tmp t3])(h:St N K W a w F L)(ht:lk F t=some v)(hu:lk F u=some v')(h3:lk F t3=some v3)(hR:R (.tuple #[v,v',v3]) w):bodyPost P fn (λe w' =>∃v,e= .returned v/\R v w') .ret a w:=by
 have e0:(results fn a.tmps).run P w= .ok (.tuple #[a.tmps.getD t undef,a.tmps.getD u undef,a.tmps.getD t3 undef]) w:=by simp [results,hs]
 refine ⟨h.fr.defers,.tuple #[v,v',v3],?_,_,V,hR⟩
 rw [e0]
 have h1:=h.fr.at_ t v ht
 have h2:=h.fr.at_ u v' hu
 have h4:=h.fr.at_ t3 v3 h3
 simp [x7,h1,h2,h4]
end
end Go.Proofs.YtmjkobhkkjgplaaGreatDoor
namespace Go.Proofs.YtmjkobhkkjgplaaGreatDoor.Dr
open Go.RowKit
set_option linter.unusedSimpArgs false
set_option linter.unusedVariables false
set_option maxRecDepth 100000
set_option maxHeartbeats 2000000
def NM (x y:Cl):Int:=BR [vz x.th y.th,vz x.at_ y.at_,vz x.UW y.UW,vz x.wh y.wh,vz x.wd y.wd]
theorem zdZ (x y:Cl)(W:World):
    zP Tryz.prog 53 [.agg #[.int .i64 x.th,.int .i64 x.at_,.int .i64 x.UW,.int .i64 x.wh,.int .i64 x.wd],.agg #[.int .i64 y.th,.int .i64 y.at_,.int .i64 y.UW,.int .i64 y.wh,.int .i64 y.wd]] W (λv w' =>v= .int .i64 (NM x y)/\qM W w' []):=by
 refine gen Tryz.func53 Tryz.ntmps53 (qM.start _:Sh (λ_=>False) W W []) V λjP z7=>gG z7<|sK λ_ kz=>XV V V λxX=>XV V V λgk=>zn (oM 1 V<|.nl)<|nK kz<|gK λ_ Xp=>λHT Hz xr=>ka 25 [] zb zb xr λ_ z16=>qQ xr.fr<|vu (qB sP V<|qw 1 zj V V<|qB sP V<|qw 0 zj V V<|.nl)<|qP Bc V (λw h=>(Ku x.th y.th _))<|vu (qB sO V<|qw 1 zj V V<|qB sO V<|qw 0 zj V V<|.nl)<|qP Bc V (λw h=>(Ku x.at_ y.at_ _))<|vu (qB sN V<|qw 1 zj V V<|qB sN V<|qw 0 zj V V<|.nl)<|qP Bc V (λw h=>(Ku x.UW y.UW _))<|vu (qB sM V<|qw 1 zj V V<|qB sM V<|qw 0 zj V V<|.nl)<|qP Bc V (λw h=>(Ku x.wh y.wh _))<|vu (qB sL V<|qw 1 zj V V<|qB sL V<|qw 0 zj V V<|.nl)<|qP Bc V (λw h=>(Ku x.wd y.wd _))<|qN z16<|xb (λ_ _ h_=>qF (n:=5) (cs:= [.int .i64 (vz x.th y.th),.int .i64 (vz x.at_ y.at_),.int .i64 (vz x.UW y.UW),.int .i64 (vz x.wh y.wh),.int .i64 (vz x.wd y.wd)]) ([vz x.th y.th,vz x.at_ y.at_,vz x.UW y.UW,vz x.wh y.wh,vz x.wd y.wd]:List Int) h_ zt zj V V V zf V zb V (λq hq w h=>Flat.inner _ _) (λq hq b hb=>(Flat.on _ _ hb).elim) V V) V λv17=>gP (λ_ _ h_=>gQ h_ zao V (Sg (⟨v17,[vz x.th y.th,vz x.at_ y.at_,vz x.UW y.UW,vz x.wh y.wh,vz x.wd y.wd]⟩:Ls Int) _ (h_.sh.own 0 V))) V<|zn (oM 1 V<|.nl)<|nK Xp<|gF [4] V<|gR<|λPS Na XU=>zu (fn:=Tryz.f53) (t:=4) V XU V ?_;clear z7 xr
 exact ⟨V,(XU.sh.zY [] V)⟩
end Go.Proofs.YtmjkobhkkjgplaaGreatDoor.Dr
namespace Go.Proofs.YtmjkobhkkjgplaaGreatDoor
open Go.RowKit
set_option linter.unusedSimpArgs false
set_option linter.unusedVariables false
def qp (i:Ins)(ze:List Int)(W:Nat):Option (Int×Bool):=
 if i.op=8 then some (i.b,false)
 else if i.op=9 then some (i.a,true)
 else if i.op=13 then some (i.a,false)
 else if i.op=10 then (if 0<=nth ze i.b.toNat/\nth ze i.b.toNat<(W:Int) then some (nth ze i.b.toNat,false) else none)
 else if i.op=11 then (if 0<=nth ze i.a.toNat/\nth ze i.a.toNat<(W:Int) then some (nth ze i.a.toNat,true) else none)
 else none
def xC (c:List Ins)(x:TS):Option (Int×Bool):=if vT c x=true then qp (zo c x.pc) x.ze x.words.length else none
theorem kO {c:List Ins}{x:TS}(h:vT c x=false):xC c x=none:=by unfold xC;rw [h];rfl
theorem wH {c:List Ins}{x:TS}(h:vT c x=true):xC c x=qp (zo c x.pc) x.ze x.words.length:=by unfold xC;rw [h];rfl
theorem ZY {i:Ins}{ze:List Int}{W:Nat}(h:i.op=8):qp i ze W=some (i.b,false):=by unfold qp;rw [if_pos h]
theorem ZX {i:Ins}{ze:List Int}{W:Nat}(h:i.op=9):qp i ze W=some (i.a,true):=by unfold qp;rw [if_neg za,if_pos h]
theorem kR {i:Ins}{ze:List Int}{W:Nat}(h:i.op=13):qp i ze W=some (i.a,false):=by unfold qp;rw [if_neg za,if_neg za,if_pos h]
theorem kU {i:Ins}{ze:List Int}{W:Nat}{b:Bool}(h:i.op=10)(hb:b=true↔0<=nth ze i.b.toNat/\nth ze i.b.toNat<(W:Int)):qp i ze W=if b=true then some (nth ze i.b.toNat,false) else none:=by
 unfold qp
 rw [if_neg za,if_neg za,if_neg za,if_pos h]
 by_cases hc:b=true
 ·rw [if_pos (hb.1 hc),if_pos hc]
 ·rw [if_neg λh=>hc (hb.2 h),if_neg hc]
theorem kS {i:Ins}{ze:List Int}{W:Nat}{b:Bool}(h:i.op=11)(hb:b=true↔0<=nth ze i.a.toNat/\nth ze i.a.toNat<(W:Int)):qp i ze W=if b=true then some (nth ze i.a.toNat,true) else none:=by
 unfold qp
 rw [if_neg za,if_neg za,if_neg za,if_neg za,if_pos h]
 by_cases hc:b=true
 ·rw [if_pos (hb.1 hc),if_pos hc]
 ·rw [if_neg λh=>hc (hb.2 h),if_neg hc]
theorem vD {i:Ins}{ze:List Int}{W:Nat}(h8:i.op≠8)(h9:i.op≠9)(QO:i.op≠13)(z7:i.op≠10)(Pb:i.op≠11):qp i ze W=none:=by
 unfold qp
 rw [if_neg h8,if_neg h9,if_neg QO,if_neg z7,if_neg Pb]
set_option maxRecDepth 100000
set_option maxHeartbeats 8000000
theorem Xn {a b:Bool}(h:a=false):(a&&b)=false:=by rw [h];rfl
theorem PN {c:List Ins}{x:TS}(h:vT c x=true):x.pc<(c.length:Int):=by
 unfold vT at h
 simp only [qI,decide_eq_true_eq] at h
 exact h.1
theorem M4 (M:Qy)(g gp:Nat)(code:Ls (Ls Ins))(zl:Ls jn)(words owner:Ls Int)(q:M.σ)(pw pv:Value)(zm z8:Int)(zq:Bool)(t:Nat)(ze:Ls Int)(W:World)(hM:KA Tryz.prog 182 3 M)(hB:xB W g 173 #[.iface M.T (.pointer (some M.u)),.pointer (some ⟨gp,0,none⟩),zl.v,pv,.bool zq])(hP:xB W gp 25 #[code.v,pw,.int .i64 zm,.int .i64 z8])(wg:code.At W)(vM:zl.At W)(hR:ZK 182 M W words owner q)(BU:(M.qs q).length=code.l.length)(Dh:∀t,t<code.l.length->(nth (M.qs q) t).length<=3)(Zz:zl.l.length=code.l.length)(JZ:∀t,t<code.l.length->0<=(nth zl.l t).pc/\(nth zl.l t).pc<=(nth code.l t).l.length)(gv:∀t,t<code.l.length->∀i,i<(nth code.l t).l.length->(nth (nth code.l t).l i).op=17->0<=(nth (nth code.l t).l i).a/\(nth (nth code.l t).l i).a<owner.l.length)(Vs:∀v∈owner.l,-1<=v)(ht:t<code.l.length)(Dm:(nth zl.l t).rv=ze.v)(Uu:ze.At W)(hir:(nth zl.l t).pc<((nth code.l t).l.length:Int)->GV ze.l.length words.l.length owner.l.length (zo (nth code.l t).l (nth zl.l t).pc)):
    zP Tryz.prog 91 [.pointer (some ⟨g,0,none⟩),.int .i64 ((t:Nat):Int)] W (λv w' =>∃(wd:Int) (st_ ok:Bool),v= .tuple #[.int .i64 wd,.bool st_,.bool ok]/\xC (nth code.l t).l (⟨(nth zl.l t).pc,ze.l,nth (M.qs q) t,words.l,owner.l,[],false⟩:TS)=(if ok=true then some (wd,st_) else none)/\qM W w' []):=by
 have zh0:=JZ t ht
 refine gen Tryz.func91 Tryz.ntmps91 (qM.ext (by intro A hA;simp only [z6,qd,or_false] at hA;rcases hA with rfl|rfl|rfl|rfl|rfl|rfl|rfl|rfl|rfl;exact hB;exact hP;exact wg;exact vM;exact hR.zM;exact hR.wa;exact hR.oa;exact (λA hA=>by obtain rfl:=List.mem_singleton.1 hA;exact hR.x);exact Uu) (by intro A hA b hb;simp only [z6,qd,or_false] at hA;rcases hA with rfl|rfl|rfl|rfl|rfl|rfl|rfl|rfl|rfl<;>exact hb):Sh (λ_=>False) W W [.zx g 173 [.iface M.T (.pointer (some M.u)),.pointer (some ⟨gp,0,none⟩),zl.v,pv,.bool zq],.zx gp 25 [code.v,pw,.int .i64 zm,.int .i64 z8],.at_ code,.at_ zl,.zx M.g0 182 [words.v,owner.v],.at_ words,.at_ owner,.ro [M.X q],.at_ ze]) V λjP z7=>gG z7<|sG (oM 3 V<|.nl)<|sK λ_ j1=>zn (oM 2 V<|.nl)<|λee BN xd=>zL (zD xd dH V V V V V (H5 M g gp code zl words owner q _ _ _ _ _ t _ hM (xd.sh.zx 0 V) (xd.sh.zx 1 V) (xd.sh.at 2 V) (xd.sh.at 3 V) ⟨xd.sh.zx 4 V,xd.sh.at 5 V,xd.sh.at 6 V,(xd.sh.ok _ (zy (i:=7) V)) _ (List.mem_singleton.2 V)⟩ za za za)) (zg V _) ?_;clear z7
 rintro HT Hz ⟨_,⟨nI,Gf⟩,Gm⟩
 obtain ⟨ins,xv⟩:∃i,i=zo (nth code.l t).l (nth zl.l t).pc:=⟨_,V⟩
 rw [<-xv] at nI
 subst nI
 have xr:St 77 (λ_=>False) W HT Hz _ _:=⟨Gm,xd.sh.jv Gf⟩
 clear Gm Gf
 clear xd
 refine gG xr<|zn (oM 1 V<|kK V<|kK V<|.nl)<|Q2 qG V λb16=>YK 0 qG V V V<|zn (oM 1 V<|.nl)<|nK j1<|gK λ_ JH=>sK λ_ Va=>zn (oM 1 V<|rM V<|oM 1 V<|.nl)<|?_;clear xr
 rcases JU (!(decide ((nth zl.l t).pc<((nth code.l t).l.length:Int)))) with wQ|wQ
 ·have zqU:decide ((nth zl.l t).pc<((nth code.l t).l.length:Int))=false:=(wE _).mp wQ
  refine zn (Zy 4 wQ V V<|QV wQ V<|.nl)<|nK Va<|BJ V V<|sG (oM 3 V<|.nl)<|gR<|uT<|λa22 eI V8=>Xb (fn:=Tryz.f91) (t:=4) (u:=5) (t3:=6) V V8 V V V<|⟨0,false,false,V,?_,(V8.sh.zY [] V)⟩
  first|(rw [kO (by first|exact ha|exact Xn zc)];rfl)|(rw [wH ha];show qp (zo (nth code.l t).l (nth zl.l t).pc) ze.l words.l.length=_;rw [<-xv];first|exact ZY (i:=ins) za|exact ZX (i:=ins) za|exact kR (i:=ins) za|exact vD (i:=ins) za za za za za|exact kU (i:=ins) za (by first|(simp;done)|(simp;omega))|exact kS (i:=ins) za (by first|(simp;done)|(simp;omega)))
 have zqU:decide ((nth zl.l t).pc<((nth code.l t).l.length:Int))=true:=(JS _).mp wQ
 refine zn (oG wQ (zG V V) V<|oG wQ (zG V V) V<|.nl)<|λa23 tx kq=>zL (zD kq Me V V V V V (rF M g gp code zl words owner q _ _ _ _ _ t _ hM (kq.sh.zx 1 V) (kq.sh.zx 2 V) (kq.sh.at 3 V) (kq.sh.at 4 V) ⟨kq.sh.zx 5 V,kq.sh.at 6 V,kq.sh.at 7 V,(kq.sh.ok _ (zy (i:=8) V)) _ (List.mem_singleton.2 V)⟩ BU Dh Zz JZ gv Vs za)) (jx kq.fr V V V V wQ) ?_
 rintro a24 dN ⟨_,⟨rfl,Gd⟩,DE⟩
 have wJ:St 77 (λ_=>False) W a24 dN _ _:=⟨DE,kq.sh.jv Gd⟩
 clear DE Gd
 clear kq
 refine gG wJ<|zn (oG wQ (WD V V) V<|Zx wQ V<|.nl)<|nK Va<|?_;clear wJ
 refine Xl V (λDI=>?_) λDI=>?_
 ·have zcU:Qw code zl.l (M.qs q) owner.l t=false:=(wE _).mp DI
  have ha:vT (nth code.l t).l (⟨(nth zl.l t).pc,ze.l,nth (M.qs q) t,words.l,owner.l,[],false⟩:TS)=false:=zcU
  refine sG (oM 3 V<|.nl)<|gR<|uT<|λMW MG Ko=>Xb (fn:=Tryz.f91) (t:=4) (u:=5) (t3:=6) V Ko V V V<|⟨0,false,false,V,?_,(Ko.sh.zY [] V)⟩
  first|(rw [kO (by first|exact ha|exact Xn zc)];rfl)|(rw [wH ha];show qp (zo (nth code.l t).l (nth zl.l t).pc) ze.l words.l.length=_;rw [<-xv];first|exact ZY (i:=ins) za|exact ZX (i:=ins) za|exact kR (i:=ins) za|exact vD (i:=ins) za za za za za|exact kU (i:=ins) za (by first|(simp;done)|(simp;omega))|exact kS (i:=ins) za (by first|(simp;done)|(simp;omega)))
 have zcU:Qw code zl.l (M.qs q) owner.l t=true:=(JS _).mp DI
 have ha:vT (nth code.l t).l (⟨(nth zl.l t).pc,ze.l,nth (M.qs q) t,words.l,owner.l,[],false⟩:TS)=true:=zcU
 have zq7:=PN ha
 have Yv:=hir zq7
 rw [<-xv] at Yv
 refine gS<|hK JH<|sK λ_ K6=>y4 (aA 4 V) λzxy=>zn (oM 1 V<|jA xM V<|w7 1 wb V V<|oM 1 V<|jo wL kI (aA 4 V) _ zp V<|QB XL V<|oV (Rn.same (x6 (s:=zl) (i:=t) (v:=((nth zl.l t).rv)) zV V V V (λw h=>(h.at 4 V)) (show t<zl.l.length from zp) (y5 V) V) Dm) V<|oM 1 V<|.nl)<|nK K6<|gF [0,5,7,9] V<|gK λ_ HH=>sG (qB xL V<|qw 0 zj V V<|.nl)<|gB<|sG (yK _ _ V<|oM 1 V<|.nl)<|gcd V (λQY cX=>?_) λQY cX=>?_
 ·skip
  refine sG (qB qZ V<|qw 0 zj V V<|oM 3 V<|.nl)<|gR<|uB<|uT<|λa35 ME Yz=>Xb (fn:=Tryz.f91) (t:=4) (u:=5) (t3:=6) V Yz V V V<|⟨ins.b,false,true,V,?_,(Yz.sh.zY [] V)⟩
  first|(rw [kO (by first|exact ha|exact Xn zc)];rfl)|(rw [wH ha];show qp (zo (nth code.l t).l (nth zl.l t).pc) ze.l words.l.length=_;rw [<-xv];first|exact ZY (i:=ins) za|exact ZX (i:=ins) za|exact kR (i:=ins) za|exact vD (i:=ins) za za za za za|exact kU (i:=ins) za (by first|(simp;done)|(simp;omega))|exact kS (i:=ins) za (by first|(simp;done)|(simp;omega)))
 refine sG (yK _ _ V<|oM 1 V<|.nl)<|gcd V (λgw cV=>?_) λgw cV=>?_
 ·skip
  refine sG (qB qm V<|qw 0 zj V V<|oM 3 V<|.nl)<|gR<|uB<|uT<|λa39 pV QC=>Xb (fn:=Tryz.f91) (t:=4) (u:=5) (t3:=6) V QC V V V<|⟨ins.a,true,true,V,?_,(QC.sh.zY [] V)⟩
  first|(rw [kO (by first|exact ha|exact Xn zc)];rfl)|(rw [wH ha];show qp (zo (nth code.l t).l (nth zl.l t).pc) ze.l words.l.length=_;rw [<-xv];first|exact ZY (i:=ins) za|exact ZX (i:=ins) za|exact kR (i:=ins) za|exact vD (i:=ins) za za za za za|exact kU (i:=ins) za (by first|(simp;done)|(simp;omega))|exact kS (i:=ins) za (by first|(simp;done)|(simp;omega)))
 refine sG (yK _ _ V<|oM 1 V<|.nl)<|gcd V (λB5 cU=>?_) λB5 cU=>?_
 ·skip
  refine sG (qB qm V<|qw 0 zj V V<|oM 3 V<|.nl)<|gR<|uB<|uT<|λPQ MD J2=>Xb (fn:=Tryz.f91) (t:=4) (u:=5) (t3:=6) V J2 V V V<|⟨ins.a,false,true,V,?_,(J2.sh.zY [] V)⟩
  first|(rw [kO (by first|exact ha|exact Xn zc)];rfl)|(rw [wH ha];show qp (zo (nth code.l t).l (nth zl.l t).pc) ze.l words.l.length=_;rw [<-xv];first|exact ZY (i:=ins) za|exact ZX (i:=ins) za|exact kR (i:=ins) za|exact vD (i:=ins) za za za za za|exact kU (i:=ins) za (by first|(simp;done)|(simp;omega))|exact kS (i:=ins) za (by first|(simp;done)|(simp;omega)))
 refine sG (yK _ _ V<|oM 1 V<|.nl)<|gcd V (λc9 FD=>?_) λc9 FD=>?_
 ·skip
  have OX:=(Yv.o10 za).2
  refine gL<|y4 (aA 9 V) λzc3=>zn (oM 1 V<|qB qZ V<|qw 0 zj V V<|vC zt zj (aA 9 V) zp V<|wx zj (aA 9 V) zp V<|oM 1 V<|.nl)<|nK HH<|gK λ_ EL=>λAo tt Yy=>wS zb zb Yy λ_ z49=>qQ Yy.fr<|vu (oM 3 V<|nc _ _ V<|oM 1 V<|.nl)<|?_
  rcases G3 (0<=nth ze.l ins.b.toNat) with ⟨Zm,cT⟩|⟨Zm,cT⟩
  ·skip
   refine vu (oG Zm (zG V V) V<|oG Zm (zG V V) V<|oG Zm (jC V V) V<|oG Zm (zT (r:=0) yU V V V) V<|oG Zm (kh kc V V (λw h=>h.zx 1 V) V) V<|.nl)<|λ_ hq=>XZ hq V V V (jx hq V V V V Zm) V V (λw h=>(hM.base _ words owner q ⟨h.zx 5 V,h.at 6 V,h.at 7 V,(h.ok _ (zy (i:=8) V)) _ (List.mem_singleton.2 V)⟩))<|vu (oG Zm (jC V V) V<|oG Zm (zT (r:=0) kW V V V) V<|oG Zm (kh zV V V (λw h=>h.zx 5 V) V) V<|.nl)<|?_
   have OQ:words.l.length<=140737488355328:=(Yy.sh.at 6 V).len
   refine vu (oG Zm (Zc (s:=words) (n:=words.l.length) zt V V (λw h=>(h.at 6 V)) V) V<|oG Zm (Jc (p:=nth ze.l ins.b.toNat) (q:=((words.l.length:Nat):Int)) V V V) V<|QV Zm V<|oM 3 V<|.nl)<|qN z49<|?_;clear Yy
   refine hK EL<|gF [4,5,6] V<|gR<|λa63 w63 U6=>Xb (fn:=Tryz.f91) (t:=4) (u:=5) (t3:=6) V U6 V V V<|⟨nth ze.l ins.b.toNat,false,decide (nth ze.l ins.b.toNat<((words.l.length:Nat):Int)),V,?_,(U6.sh.zY [] V)⟩
   first|(rw [kO (by first|exact ha|exact Xn zc)];rfl)|(rw [wH ha];show qp (zo (nth code.l t).l (nth zl.l t).pc) ze.l words.l.length=_;rw [<-xv];first|exact ZY (i:=ins) za|exact ZX (i:=ins) za|exact kR (i:=ins) za|exact vD (i:=ins) za za za za za|exact kU (i:=ins) za (by first|(simp;done)|(simp;omega))|exact kS (i:=ins) za (by first|(simp;done)|(simp;omega)))
  refine vu (Zy 11 Zm V V<|Zx Zm V<|oM 3 V<|.nl)<|qN z49<|?_;clear Yy
  refine hK EL<|gF [4,5,6] V<|gR<|λa65 w65 Uz=>Xb (fn:=Tryz.f91) (t:=4) (u:=5) (t3:=6) V Uz V V V<|⟨nth ze.l ins.b.toNat,false,false,V,?_,(Uz.sh.zY [] V)⟩
  first|(rw [kO (by first|exact ha|exact Xn zc)];rfl)|(rw [wH ha];show qp (zo (nth code.l t).l (nth zl.l t).pc) ze.l words.l.length=_;rw [<-xv];first|exact ZY (i:=ins) za|exact ZX (i:=ins) za|exact kR (i:=ins) za|exact vD (i:=ins) za za za za za|exact kU (i:=ins) za (by first|(simp;done)|(simp;omega))|exact kS (i:=ins) za (by first|(simp;done)|(simp;omega)))
 refine sG (yK _ _ V<|oM 1 V<|.nl)<|gcd V (λzse zqp=>?_) λzse zqp=>?_
 ·skip
  have OX:=(Yv.o10 za).1
  refine gL<|y4 (aA 9 V) λzrc=>zn (oM 1 V<|qB qm V<|qw 0 zj V V<|vC zt zj (aA 9 V) zp V<|wx zj (aA 9 V) zp V<|oM 2 V<|.nl)<|nK HH<|gK λ_ sa=>λa70 w70 BH=>wS zb zb BH λ_ z71=>qQ BH.fr<|vu (oM 3 V<|nc _ _ V<|oM 1 V<|.nl)<|?_
  rcases G3 (0<=nth ze.l ins.a.toNat) with ⟨kN,nY⟩|⟨kN,nY⟩
  ·skip
   refine vu (oG kN (zG V V) V<|oG kN (zG V V) V<|oG kN (jC V V) V<|oG kN (zT (r:=0) yU V V V) V<|oG kN (kh kc V V (λw h=>h.zx 1 V) V) V<|.nl)<|λ_ hq=>XZ hq V V V (jx hq V V V V kN) V V (λw h=>(hM.base _ words owner q ⟨h.zx 5 V,h.at 6 V,h.at 7 V,(h.ok _ (zy (i:=8) V)) _ (List.mem_singleton.2 V)⟩))<|vu (oG kN (jC V V) V<|oG kN (zT (r:=0) kW V V V) V<|oG kN (kh zV V V (λw h=>h.zx 5 V) V) V<|.nl)<|?_
   have zjf:words.l.length<=140737488355328:=(BH.sh.at 6 V).len
   refine vu (oG kN (Zc (s:=words) (n:=words.l.length) zt V V (λw h=>(h.at 6 V)) V) V<|oG kN (Jc (p:=nth ze.l ins.a.toNat) (q:=((words.l.length:Nat):Int)) V V V) V<|QV kN V<|oM 3 V<|.nl)<|qN z71<|?_;clear BH
   refine hK sa<|gF [4,5,6] V<|gR<|λa85 w85 I9=>Xb (fn:=Tryz.f91) (t:=4) (u:=5) (t3:=6) V I9 V V V<|⟨nth ze.l ins.a.toNat,true,decide (nth ze.l ins.a.toNat<((words.l.length:Nat):Int)),V,?_,(I9.sh.zY [] V)⟩
   first|(rw [kO (by first|exact ha|exact Xn zc)];rfl)|(rw [wH ha];show qp (zo (nth code.l t).l (nth zl.l t).pc) ze.l words.l.length=_;rw [<-xv];first|exact ZY (i:=ins) za|exact ZX (i:=ins) za|exact kR (i:=ins) za|exact vD (i:=ins) za za za za za|exact kU (i:=ins) za (by first|(simp;done)|(simp;omega))|exact kS (i:=ins) za (by first|(simp;done)|(simp;omega)))
  refine vu (Zy 11 kN V V<|Zx kN V<|oM 3 V<|.nl)<|qN z71<|?_;clear BH
  refine hK sa<|gF [4,5,6] V<|gR<|λa87 w87 h87=>Xb (fn:=Tryz.f91) (t:=4) (u:=5) (t3:=6) V h87 V V V<|⟨nth ze.l ins.a.toNat,true,false,V,?_,(h87.sh.zY [] V)⟩
  first|(rw [kO (by first|exact ha|exact Xn zc)];rfl)|(rw [wH ha];show qp (zo (nth code.l t).l (nth zl.l t).pc) ze.l words.l.length=_;rw [<-xv];first|exact ZY (i:=ins) za|exact ZX (i:=ins) za|exact kR (i:=ins) za|exact vD (i:=ins) za za za za za|exact kU (i:=ins) za (by first|(simp;done)|(simp;omega))|exact kS (i:=ins) za (by first|(simp;done)|(simp;omega)))
 refine sG (oM 3 V<|.nl)<|gR<|uB<|uT<|λa89 w89 oL=>Xb (fn:=Tryz.f91) (t:=4) (u:=5) (t3:=6) V oL V V V<|⟨0,false,false,V,?_,(oL.sh.zY [] V)⟩
 first|(rw [kO (by first|exact ha|exact Xn zc)];rfl)|(rw [wH ha];show qp (zo (nth code.l t).l (nth zl.l t).pc) ze.l words.l.length=_;rw [<-xv];first|exact ZY (i:=ins) za|exact ZX (i:=ins) za|exact kR (i:=ins) za|exact vD (i:=ins) za za za za za|exact kU (i:=ins) za (by first|(simp;done)|(simp;omega))|exact kS (i:=ins) za (by first|(simp;done)|(simp;omega)))
theorem zge (g:Nat)(M:Qy)(gp:Nat)(zl:Ls jn)(pv:Value)(zq:Bool)(t:Nat)(W:World)(hB:xB W g 173 #[.iface M.T (.pointer (some M.u)),.pointer (some ⟨gp,0,none⟩),zl.v,pv,.bool zq])(vM:zl.At W)(ht:t<zl.l.length):
    zP Tryz.prog 92 [.pointer (some ⟨g,0,none⟩),.int .i64 ((t:Nat):Int)] W (λv w' =>v= .int .i64 (nth zl.l t).pc/\qM W w' []):=by
 refine gen Tryz.func92 Tryz.ntmps92 (qM.ext (by intro A hA;simp only [z6,qd,or_false] at hA;rcases hA with rfl|rfl;exact hB;exact vM) (by intro A hA b hb;simp only [z6,qd,or_false] at hA;rcases hA with rfl|rfl<;>exact hb):Sh (λ_=>False) W W [.zx g 173 [.iface M.T (.pointer (some M.u)),.pointer (some ⟨gp,0,none⟩),zl.v,pv,.bool zq],.at_ zl]) V λjP z7=>gG z7<|sG (oM 1 V<|.nl)<|sK λ_ j1=>y4 (aA 1 V) λc7=>zn (oM 1 V<|jA xM V<|w7 0 wb V V<|oM 1 V<|jo wL kI (aA 1 V) _ zp V<|QB Qq V<|wx zj (aA 1 V) zp V<|oM 1 V<|.nl)<|nK j1<|gR<|λee BN xd=>zu (fn:=Tryz.f92) (t:=4) V xd V ?_;clear z7
 exact ⟨V,(xd.sh.zY [] V)⟩
def vI (p:Pg)(s:yc)(a b:Nat):Option Cl:=match xC (nth p.code a) (s.view a),xC (nth p.code b) (s.view b) with
 |some q,some r=>if q.1=r.1/\(q.2||r.2)=true then some ⟨(a:Int),(nth s.zW a).pc,(b:Int),(nth s.zW b).pc,q.1⟩ else none
 |_,_=>none
def pt (l:List Cl):Option Cl->List Cl
 |some c=>J7 l c
 |none=>l
def RO (p:Pg)(s:yc)(a j:Nat)(l:List Cl):List Cl:=(List.range' (a+1) j).foldl (λl b=>pt l (vI p s a b)) l
def dB (p:Pg)(s:yc)(k:Nat)(l:List Cl):List Cl:=(List.range k).foldl (λl a=>RO p s a (p.code.length-(a+1)) l) l
def VB (p:Pg)(l:List Cl)(s:yc):List Cl:=dB p s p.code.length l
section
variable {p:Pg}{s:yc}{a b j k:Nat}{l:List Cl}{c:Cl}
theorem zaV :RO p s a 0 l=l:=rfl
theorem kr :RO p s a (j+1) l=pt (RO p s a j l) (vI p s a (a+1+j)):=by
 unfold RO
 rw [List.range'_1_concat,bD];rfl
theorem Wh :dB p s (k+1) l=RO p s k (p.code.length-(k+1)) (dB p s k l):=by
 unfold dB
 rw [YG,bD];rfl
theorem Ba {NT NS s1 s2:Bool}{w1 w2:Int}(h1:xC (nth p.code a) (s.view a)=if NT=true then some (w1,s1) else none)(h2:xC (nth p.code b) (s.view b)=if NS=true then some (w2,s2) else none):
  vI p s a b=if NT=true/\NS=true/\w1=w2/\(s1||s2)=true then some ⟨(a:Int),(nth s.zW a).pc,(b:Int),(nth s.zW b).pc,w1⟩ else none:=by
 unfold vI
 rw [h1,h2]
 cases NT<;>cases NS<;>simp
theorem Hh {NT NS s1 s2:Bool}{w1 w2:Int}(h1:xC (nth p.code a) (s.view a)=if NT=true then some (w1,s1) else none)(h2:xC (nth p.code b) (s.view b)=if NS=true then some (w2,s2) else none)(g1:NT=true)(g2:NS=true)(g3:w1=w2)(g4:s1=true\/s2=true):
 vI p s a b=some ⟨(a:Int),(nth s.zW a).pc,(b:Int),(nth s.zW b).pc,w1⟩:=by rw [Ba h1 h2,if_pos ⟨g1,g2,g3,by simpa using g4⟩]
theorem Jq {NT NS s1 s2:Bool}{w1 w2:Int}(h1:xC (nth p.code a) (s.view a)=if NT=true then some (w1,s1) else none)(h2:xC (nth p.code b) (s.view b)=if NS=true then some (w2,s2) else none)(g:NT=false\/NS=false\/w1≠w2\/(s1=false/\s2=false)):
  vI p s a b=none:=by
 rw [Ba h1 h2,if_neg]
 rintro ⟨g1,g2,g3,g4⟩
 rcases g with g|g|g|g
 ·rw [g] at g1;cases g1
 ·rw [g] at g2;cases g2
 ·exact g g3
 ·rw [g.1,g.2] at g4;cases g4
theorem Es {k:Cl} :c∈J7 l k↔c∈l\/c=k:=by
 unfold J7
 split
 ·rename_i h
  exact ⟨.inl,λh2=>h2.elim id λe=>e▸h⟩
 ·simp
theorem nm {k:Cl}(h:l.Nodup):(J7 l k).Nodup:=by
 unfold J7
 split
 ·exact h
 ·rename_i hk
  exact List.nodup_append.2 ⟨h,by simp,λa ha b hb=>by obtain rfl:=List.mem_singleton.1 hb;exact λe=>hk (e▸ha)⟩
theorem Er {o:Option Cl} :c∈pt l o↔c∈l\/o=some c:=by
 cases o with
 |none=>simp [pt]
 |some k=>rw [pt,Es];simp [eq_comm]
theorem nk {o:Option Cl}(h:l.Nodup):(pt l o).Nodup:=by
 cases o with
 |none=>exact h
 |some k=>exact nm h
theorem Em :c∈RO p s a j l↔c∈l\/∃b,a<b/\b<a+1+j/\vI p s a b=some c:=by
 induction j with
 |zero=>
  rw [zaV]
  exact ⟨.inl,λh=>h.elim id λ⟨b,h1,h2,_⟩=>za⟩
 |succ j ih=>
  rw [kr,Er,ih]
  constructor
  ·rintro ((h|⟨b,h1,h2,h3⟩)|h)
   ·exact .inl h
   ·exact .inr ⟨b,h1,za,h3⟩
   ·exact .inr ⟨a+1+j,za,za,h⟩
  ·rintro (h|⟨b,h1,h2,h3⟩)
   ·exact .inl (.inl h)
   ·by_cases e:b=a+1+j
    ·subst e;exact .inr h3
    ·exact .inl (.inr ⟨b,h1,za,h3⟩)
theorem nh (h:l.Nodup):(RO p s a j l).Nodup:=by
 induction j with
 |zero=>exact h
 |succ j ih=>rw [kr];exact nk ih
theorem Eo (hk:k<=p.code.length):c∈dB p s k l↔c∈l\/∃a b,a<k/\a<b/\b<p.code.length/\vI p s a b=some c:=by
 induction k with
 |zero=>exact ⟨.inl,λh=>h.elim id λ⟨a,b,h1,_⟩=>za⟩
 |succ k ih=>
  rw [Wh,Em,ih za]
  constructor
  ·rintro ((h|⟨a,b,h1,h2⟩)|⟨b,h1,h2,h3⟩)
   ·exact .inl h
   ·exact .inr ⟨a,b,za,h2⟩
   ·exact .inr ⟨k,b,za,h1,za,h3⟩
  ·rintro (h|⟨a,b,h1,h2,h3,h4⟩)
   ·exact .inl (.inl h)
   ·by_cases e:a=k
    ·subst e;exact .inr ⟨b,h2,za,h4⟩
    ·exact .inl (.inr ⟨a,b,za,h2,h3,h4⟩)
theorem ni (h:l.Nodup):(dB p s k l).Nodup:=by
 induction k with
 |zero=>exact h
 |succ k ih=>rw [Wh];exact nh ih
theorem Ep {S:List yc} :c∈S.foldl (VB p) l↔c∈l\/∃s∈S,∃a b,a<b/\b<p.code.length/\vI p s a b=some c:=by
 induction S generalizing l with
 |nil=>simp
 |cons s S ih=>
  rw [List.foldl_cons,ih]
  unfold VB
  rw [Eo (qC _)]
  constructor
  ·rintro ((h|⟨a,b,h1,h2,h3,h4⟩)|⟨x,hx,h⟩)
   ·exact .inl h
   ·exact .inr ⟨s,by simp,a,b,h2,h3,h4⟩
   ·exact .inr ⟨x,by simp [hx],h⟩
  ·rintro (h|⟨x,hx,a,b,h1,h2,h3⟩)
   ·exact .inl (.inl h)
   ·rcases List.mem_cons.1 hx with rfl|hx
    ·exact .inl (.inr ⟨a,b,za,h1,h2,h3⟩)
    ·exact .inr ⟨x,hx,a,b,h1,h2,h3⟩
theorem nj {S:List yc}(h:l.Nodup):(S.foldl (VB p) l).Nodup:=by
 induction S generalizing l with
 |nil=>exact h
 |cons s S ih=>exact ih (ni h)
theorem Ms {o:Option Cl} :(pt l o).length<=l.length+1:=by
 cases o with
 |none=>exact Nat.le_succ _
 |some k=>
  show (J7 l k).length<=_
  unfold J7
  split
  ·exact Nat.le_succ _
  ·simp
theorem CE :(RO p s a j l).length<=l.length+j:=by
 induction j with
 |zero=>exact qC _
 |succ j ih=>rw [kr];have:=Ms (l:=RO p s a j l) (o:=vI p s a (a+1+j));omega
theorem LN :(dB p s k l).length<=l.length+k*p.code.length:=by
 induction k with
 |zero=>exact Nat.le_add_right _ _
 |succ k ih=>
  rw [Wh,Nat.succ_mul]
  have:=CE (p:=p) (s:=s) (a:=k) (j:=p.code.length-(k+1)) (l:=dB p s k l)
  omega
theorem LO {S:List yc} :(S.foldl (VB p) l).length<=l.length+S.length*(p.code.length*p.code.length):=by
 induction S generalizing l with
 |nil=>exact Nat.le_add_right _ _
 |cons s S ih=>
  rw [List.foldl_cons,yY,Nat.succ_mul]
  have h1:=ih (l:=VB p l s)
  have h2:(VB p l s).length<=l.length+p.code.length*p.code.length:=LN
  omega
end
def ZG (x y:Cl):Bool:=if x.th=y.th then (if x.at_=y.at_ then (if x.UW=y.UW then (if x.wh=y.wh then decide (x.wd<y.wd) else decide (x.wh<y.wh)) else decide (x.UW<y.UW)) else decide (x.at_<y.at_)) else decide (x.th<y.th)
theorem uw (x:Cl):ZG x x=false:=by simp [ZG]
theorem UY {x y z:Cl}(h:ZG x y=true)(h2:ZG y z=true):ZG x z=true:=by
 unfold ZG at*
 (repeat' split at h)<;>(repeat' split at h2)<;>(repeat' split)<;>simp only [decide_eq_true_eq] at* <;>omega
theorem aQ {x y:Cl}(h:ZG x y=false)(h2:ZG y x=false):x=y:=by
 obtain ⟨a,b,c,d,e⟩:=x
 obtain ⟨a',b',c',d',e'⟩:=y
 unfold ZG at*
 simp only at h h2
 (repeat' split at h)<;>(repeat' split at h2)<;>simp only [decide_eq_false_iff_not] at h h2<;>first|omega|(simp only [Cl.mk.injEq];omega)
theorem eh {F:gN}(hF:YH Tryz.prog 182 3 204 5 141 F)(x:yz F)(code:Ls (Ls Ins))(zi:Ls Int)(Lk R:Nat)(pw:Value)(W:World)(hX:x.Rd W)(hP:xB W x.gp 25 #[code.v,pw,.int .i64 ((Lk:Nat):Int),.int .i64 ((R:Nat):Int)])(qY:code.At W)(zR:yJ (ya code zi Lk R))(h:PX code zi Lk R x)(t:Nat)(ht:t<code.l.length):
  zP Tryz.prog 91 [.pointer (some ⟨x.g,0,none⟩),.int .i64 ((t:Nat):Int)] W (λv w' =>∃(wd:Int) (st_ ok:Bool),v= .tuple #[.int .i64 wd,.bool st_,.bool ok]/\xC (nth (ya code zi Lk R).code t) (x.st.view t)=(if ok=true then some (wd,st_) else none)/\qM W w' []):=by
 have hf:=ZN zR h.reach h.rl
 have hM:=hF.ok x.i
 have Wk:=h.rl
 have uF:t<x.rows.length:=by rw [Wk];exact ht
 have hq:=QD uF
 refine zP.mono (M4 (F.mem x.i) x.g x.gp code ⟨x.vt,x.rows.map q6.toQ⟩ x.words x.owner x.q pw x.zd.v Lk R false t (nth x.rows t).ze W hM hX.zM hP qY hX.zl hX.mem h.ql hf.Dh (by show (x.rows.map q6.toQ).length=_;rw [yw];exact Wk) hf.JZ hf.gv hf.Vs ht (by show (nth (x.rows.map q6.toQ) t).rv=_;rw [hq];rfl) (hX.row _ (qb _ _ uF)) (λqU=>by
   rw [hf.Uu t ht,hf.ZU,hf.Vr]
   exact nD zR ht (hf.JZ t ht).1 qU)) ?_
 rintro v w' ⟨wd,st_,ok,rfl,e,hs⟩
 refine ⟨wd,st_,ok,V,?_,hs⟩
 have e2:xC (nth code.l t).l ⟨(nth (x.rows.map q6.toQ) t).pc,(nth x.rows t).ze.l,nth x.qs t,x.words.l,x.owner.l,[],false⟩=_:=e
 rw [hq] at e2
 rw [jj ht,KV uF]
 exact e2
theorem pL {F:gN}(hF:YH Tryz.prog 182 3 204 5 141 F)(x:yz F)(code:Ls (Ls Ins))(zi:Ls Int)(Lk R:Nat)(pw:Value)(W:World)(hX:x.Rd W)(hP:xB W x.gp 25 #[code.v,pw,.int .i64 ((Lk:Nat):Int),.int .i64 ((R:Nat):Int)])(qY:code.At W)(zR:yJ (ya code zi Lk R))(h:PX code zi Lk R x)(t:Nat)(ht:t<code.l.length):
  zP Tryz.prog 92 [.pointer (some ⟨x.g,0,none⟩),.int .i64 ((t:Nat):Int)] W (λv w' =>v= .int .i64 (nth x.st.zW t).pc/\qM W w' []):=by
 have uF:t<x.rows.length:=by rw [h.rl];exact ht
 refine zP.mono (zge x.g (F.mem x.i) x.gp ⟨x.vt,x.rows.map q6.toQ⟩ x.zd.v false t W hX.zM hX.zl (by show t<(x.rows.map q6.toQ).length;rw [yw];exact uF)) ?_
 rintro v w' ⟨rfl,hs⟩
 refine ⟨?_,hs⟩
 show Value.int .i64 (nth (x.rows.map q6.toQ) t).pc=_
 rw [QD uF,(mW uF).1];rfl
theorem Ah (K:Nat->Prop)(F:gN)(x:yz F)(code:Ls (Ls Ins))(zi:Ls Int)(Lk R:Nat)(pw:Value)(g:Nat)(l0:List Cl)(W:World)(hF:YH Tryz.prog 182 3 204 5 141 F)(zR:yJ (ya code zi Lk R))(hx:PX code zi Lk R x)(hS:Sh K W W [.Wy g l0,.Yd x,.zx x.gp 25 [code.v,pw,.int .i64 ((Lk:Nat):Int),.int .i64 ((R:Nat):Int)],.at_ code]):
    zP Tryz.prog 51 [.agg #[code.v,pw,.int .i64 ((Lk:Nat):Int),.int .i64 ((R:Nat):Int)],.pointer (some ⟨x.g,0,none⟩),.map (some g)] W (λv w' =>v= .tuple #[]/\Sh K W w' [.Wy g (VB (ya code zi Lk R) l0 x.st),.Yd x,.zx x.gp 25 [code.v,pw,.int .i64 ((Lk:Nat):Int),.int .i64 ((R:Nat):Int)],.at_ code]):=by
 have zxY:=(ga zR).2.1
 refine gen Tryz.func51 Tryz.ntmps51 hS V λjP z7=>gG z7<|sK λ_ kz=>XV V V λxX=>nK kz<|sK λ_ gu=>y4 (aA 4 V) λDv=>zn (qB jZ V<|qw 0 ZE V V<|wk vp (aA 4 V) V<|oM 1 V<|.nl)<|nK gu<|gB<|λBK Hy w9=>qE (λm a w=>∃(k:Nat) (l1:List Cl),(k<=code.l.length)/\(l1=dB (ya code zi Lk R) x.st k l0)/\St 70 K W a w [(1,.pointer (some ⟨x.g,0,none⟩)),(2,.map (some g)),(3,.pointer (some ⟨xX,0,none⟩)),(16,.int .i64 ((code.l.length:Nat):Int)),(17,.int .i64 ((k:Nat):Int))] [.zM xX 25 [code.v,pw,.int .i64 ((Lk:Nat):Int),.int .i64 ((R:Nat):Int)],.Wy g l1,.Yd x,.zx x.gp 25 [code.v,pw,.int .i64 ((Lk:Nat):Int),.int .i64 ((R:Nat):Int)],.at_ code]/\m=code.l.length-k) ⟨_,0,l0,za,(V),w9.nf ⟨V,V,V,V,V,trivial⟩,V⟩ ?_;clear z7
 clear w9
 rintro m15 HT Hz ⟨k,l1,hk,iL,xr,B2⟩
 refine gG xr<|sG (xk _ _ V<|.nl)<|gK λ_ JH=>gcd V (λZB Uv=>?_) λZB Uv=>?_;clear xr
 ·skip
  refine gS<|hK JH<|gK λ_ K7=>gB<|sG (oM 2 V<|.nl)<|sG (oM 1 V<|yl _ 1 zp V<|oM 1 V<|.nl)<|gB<|λa24 dN wJ=>qE (λm a w=>∃(j:Nat) (l2:List Cl),(k+1+j<=code.l.length)/\(l2=RO (ya code zi Lk R) x.st k j l1)/\St 70 K W a w [(1,.pointer (some ⟨x.g,0,none⟩)),(2,.map (some g)),(3,.pointer (some ⟨xX,0,none⟩)),(6,.int .i64 ((k:Nat):Int)),(7,.int .i64 (((k+1+j):Nat):Int)),(16,.int .i64 ((code.l.length:Nat):Int)),(17,.int .i64 ((k:Nat):Int))] [.zM xX 25 [code.v,pw,.int .i64 ((Lk:Nat):Int),.int .i64 ((R:Nat):Int)],.Wy g l2,.Yd x,.zx x.gp 25 [code.v,pw,.int .i64 ((Lk:Nat):Int),.int .i64 ((R:Nat):Int)],.at_ code]/\m=code.l.length-(k+1+j)) ⟨_,0,l1,za,(V),wJ.nf ⟨V,V,V,V,V,V,V,trivial⟩,V⟩ ?_
  clear wJ
  rintro m23 a23 tx ⟨j,l2,hj,AE,kq,iH⟩
  refine gG kq<|gK λ_ Re=>sG (oM 1 V<|qB jZ V<|qw 0 ZE V V<|wk vp (aA 4 V) V<|xk _ _ V<|.nl)<|?_;clear kq
  refine gcd V (λdb FH=>?_) λdb FH=>?_
  ·skip
   refine gS<|hK Re<|gK λ_ K6=>gB<|sK λ_ k29=>zn (oM 2 V<|.nl)<|gC (λ_ _ h_=>gQ h_ zal V (eh hF x code zi Lk R pw _ (yz.rd (h_.sh.ok (.Yd x) (zy (i:=2) V))) (h_.sh.zx 3 V) (h_.sh.at 4 V) zR hx k za)) V<|?_
   rintro _ _ ak ⟨eH,zn4,zbl,rfl,aX,Yt⟩
   refine dZ Yt V<|gU<|zn (oM 1 V<|kK V<|kK V<|kK V<|oM 3 V<|.nl)<|nK k29<|sK λ_ lY=>zn (oM 2 V<|.nl)<|gC (λ_ _ h_=>gQ h_ zal V (eh hF x code zi Lk R pw _ (yz.rd (h_.sh.ok (.Yd x) (zy (i:=2) V))) (h_.sh.zx 3 V) (h_.sh.at 4 V) zR hx (k+1+j) za)) V<|?_;clear Yt
   rintro _ _ MF ⟨zfL,zvK,zoc,rfl,aW,Fc⟩
   refine dZ Fc V<|gU<|zn (oM 1 V<|kK V<|kK V<|kK V<|oM 3 V<|.nl)<|nK lY<|sK λ_ Ur=>zn (oM 2 V<|.nl)<|?_;clear Fc
   rcases JU zbl with Wq|Wq
   ·skip
    refine zn (oG Wq (zG V V) V<|QV Wq V<|oM 1 V<|.nl)<|?_
    rcases JU zoc with da|da
    ·skip
     refine zn (oG da (zG V V) V<|oG da (zG V V) V<|oG da (kJ (p:=eH) (q:=zfL) V V V) V<|QV da V<|oM 1 V<|.nl)<|?_
     rcases G3 (eH=zfL) with ⟨Zn,Dp⟩|⟨Zn,Dp⟩
     ·skip
      refine zn (oG Zn (zG V V) V<|oG Zn (zG V V) V<|.nl)<|?_
      rcases JU zn4 with gw|gw
      ·skip
       refine zn (oK gw V<|oG Zn (cb V V gw V) V<|QV Zn V<|.nl)<|nK Ur<|gF [1,2,3,6,7,8,16,17,57] V<|BJ V V<|gL<|zn (oM 4 V<|.nl)<|gC (λ_ _ h_=>gQ h_ s9 V (pL hF x code zi Lk R pw _ (yz.rd (h_.sh.ok (.Yd x) (zy (i:=2) V))) (h_.sh.zx 3 V) (h_.sh.at 4 V) zR hx k za)) V<|?_
       rintro _ _ w38 ⟨rfl,uI⟩
       refine dZ uI V<|gU<|zn (oM 3 V<|.nl)<|gC (λ_ _ h_=>gQ h_ s9 V (pL hF x code zi Lk R pw _ (yz.rd (h_.sh.ok (.Yd x) (zy (i:=2) V))) (h_.sh.zx 3 V) (h_.sh.at 4 V) zR hx (k+1+j) za)) V<|?_;clear uI
       rintro _ _ pV ⟨rfl,cS⟩
       refine dZ cS V<|gU<|zn (oM 1 V<|oV (q8 (cs:= [.int .i64 ((k:Nat):Int),.int .i64 ((nth x.st.zW k).pc),.int .i64 (((k+1+j):Nat):Int),.int .i64 ((nth x.st.zW (k+1+j)).pc),.int .i64 eH]) V V zb) V<|.nl)<|gE (λ_ _ h_=>pM (i:=1) (l:=l2) (k:=(⟨((k:Nat):Int),(nth x.st.zW k).pc,(((k+1+j):Nat):Int),(nth x.st.zW (k+1+j)).pc,eH⟩:Cl)) h_ V V V V V V) V<|nK K6<|gL<|zn (oM 1 V<|yl _ 1 zp V<|oM 1 V<|.nl)<|nN<|?_;clear cS
       have IY:=Hh aX aW zc zc zc (by first|exact .inl zc|exact .inr zc)
       intro a41 w41 sF
       refine zH ⟨_,?_,(j+1),J7 l2 (⟨((k:Nat):Int),(nth x.st.zW k).pc,(((k+1+j):Nat):Int),(nth x.st.zW (k+1+j)).pc,eH⟩:Cl),?_,?_,sF.nf ⟨V,V,V,V,V,V,V,trivial⟩,V⟩
       · rw [iH];first|omega|(simp only [qf];omega)
       · omega
       · rw [kr,<-AE,IY];rfl
      refine zn (oG gw (zG V V) V<|oG Zn (cc V V gw V) V<|QV Zn V<|.nl)<|nK Ur<|gF [1,2,3,6,7,8,16,17,57] V<|Xl V (λuQ=>?_) λuQ=>?_
      ·skip
       refine gL<|zn (oM 4 V<|.nl)<|gC (λ_ _ h_=>gQ h_ s9 V (pL hF x code zi Lk R pw _ (yz.rd (h_.sh.ok (.Yd x) (zy (i:=2) V))) (h_.sh.zx 3 V) (h_.sh.at 4 V) zR hx k za)) V<|?_
       rintro _ _ MD ⟨rfl,zhH⟩
       refine dZ zhH V<|gU<|zn (oM 3 V<|.nl)<|gC (λ_ _ h_=>gQ h_ s9 V (pL hF x code zi Lk R pw _ (yz.rd (h_.sh.ok (.Yd x) (zy (i:=2) V))) (h_.sh.zx 3 V) (h_.sh.at 4 V) zR hx (k+1+j) za)) V<|?_;clear zhH
       rintro _ _ tu ⟨rfl,Kh⟩
       refine dZ Kh V<|gU<|zn (oM 1 V<|oV (q8 (cs:= [.int .i64 ((k:Nat):Int),.int .i64 ((nth x.st.zW k).pc),.int .i64 (((k+1+j):Nat):Int),.int .i64 ((nth x.st.zW (k+1+j)).pc),.int .i64 eH]) V V zb) V<|.nl)<|gE (λ_ _ h_=>pM (i:=1) (l:=l2) (k:=(⟨((k:Nat):Int),(nth x.st.zW k).pc,(((k+1+j):Nat):Int),(nth x.st.zW (k+1+j)).pc,eH⟩:Cl)) h_ V V V V V V) V<|nK K6<|gL<|zn (oM 1 V<|yl _ 1 zp V<|oM 1 V<|.nl)<|nN<|?_;clear Kh
       have IY:=Hh aX aW zc zc zc (by first|exact .inl zc|exact .inr zc)
       intro a46 w46 B9
       refine zH ⟨_,?_,(j+1),J7 l2 (⟨((k:Nat):Int),(nth x.st.zW k).pc,(((k+1+j):Nat):Int),(nth x.st.zW (k+1+j)).pc,eH⟩:Cl),?_,?_,B9.nf ⟨V,V,V,V,V,V,V,trivial⟩,V⟩
       · rw [iH];first|omega|(simp only [qf];omega)
       · omega
       · rw [kr,<-AE,IY];rfl
      refine gS<|hK K6<|gL<|zn (oM 1 V<|yl _ 1 zp V<|oM 1 V<|.nl)<|nN<|?_
      have IY:=Jq aX aW (by first|exact .inl zc|exact .inr (.inl zc)|exact .inr (.inr (.inl zc))|exact .inr (.inr (.inr ⟨zc,zc⟩)))
      intro PO M8 Ws
      refine zH ⟨_,?_,(j+1),l2,?_,?_,Ws.nf ⟨V,V,V,V,V,V,V,trivial⟩,V⟩
      · rw [iH];first|omega|(simp only [qf];omega)
      · omega
      · rw [kr,<-AE,IY];rfl
     refine zn (Zy 2 Zn V V<|NV V<|oK Zn V<|Zx Zn V<|.nl)<|nK Ur<|gF [1,2,3,6,7,8,16,17,57] V<|Q1 V V<|gS<|hK K6<|gL<|zn (oM 1 V<|yl _ 1 zp V<|oM 1 V<|.nl)<|nN<|?_
     have IY:=Jq aX aW (by first|exact .inl zc|exact .inr (.inl zc)|exact .inr (.inr (.inl zc))|exact .inr (.inr (.inr ⟨zc,zc⟩)))
     intro Ao tt Yy
     refine zH ⟨_,?_,(j+1),l2,?_,?_,Yy.nf ⟨V,V,V,V,V,V,V,trivial⟩,V⟩
     · rw [iH];first|omega|(simp only [qf];omega)
     · omega
     · rw [kr,<-AE,IY];rfl
    refine zn (Zy 3 da V V<|Zx da V<|oM 1 V<|Zy 2 V V V<|NV V<|oK V V<|Zx V V<|.nl)<|nK Ur<|gF [1,2,3,6,7,8,16,17,57] V<|Q1 V V<|gS<|hK K6<|gL<|zn (oM 1 V<|yl _ 1 zp V<|oM 1 V<|.nl)<|nN<|?_
    have IY:=Jq aX aW (by first|exact .inl zc|exact .inr (.inl zc)|exact .inr (.inr (.inl zc))|exact .inr (.inr (.inr ⟨zc,zc⟩)))
    intro a49 w49 U7
    refine zH ⟨_,?_,(j+1),l2,?_,?_,U7.nf ⟨V,V,V,V,V,V,V,trivial⟩,V⟩
    · rw [iH];first|omega|(simp only [qf];omega)
    · omega
    · rw [kr,<-AE,IY];rfl
   refine zn (oK Wq V<|Zx Wq V<|oM 1 V<|Zy 3 V V V<|Zx V V<|oM 1 V<|Zy 2 V V V<|NV V<|oK V V<|Zx V V<|.nl)<|nK Ur<|gF [1,2,3,6,7,8,16,17,57] V<|Q1 V V<|gS<|hK K6<|gL<|zn (oM 1 V<|yl _ 1 zp V<|oM 1 V<|.nl)<|nN<|?_
   have IY:=Jq aX aW (by first|exact .inl zc|exact .inr (.inl zc)|exact .inr (.inr (.inl zc))|exact .inr (.inr (.inr ⟨zc,zc⟩)))
   intro a50 w50 Ri
   refine zH ⟨_,?_,(j+1),l2,?_,?_,Ri.nf ⟨V,V,V,V,V,V,V,trivial⟩,V⟩
   · rw [iH];first|omega|(simp only [qf];omega)
   · omega
   · rw [kr,<-AE,IY];rfl
  refine gX<|hK K7<|gL<|zn (yl _ 1 zp V<|oM 1 V<|.nl)<|nN<|λa51 MC YZ=>zH ⟨_,?_,(k+1),l2,?_,?_,YZ.nf ⟨V,V,V,V,V,trivial⟩,V⟩
  · rw [B2];first|omega|(simp only [qf];omega)
  · omega
  · rw [Wh,<-iL,AE,x8];congr 1;omega
 refine gX<|λMV MB G0=>?_
 try simp only [Exit.then,Exit.inBlock,if_true]
 refine qj (fn:=Tryz.f51) V G0 ?_
 have e9:l1=VB (ya code zi Lk R) l0 x.st:=by rw [iL,show k=code.l.length from za];unfold VB;rw [x8]
 refine ⟨V,?_⟩
 rw [<-e9]
 exact (G0.sh.zY [1,2,3,4] V)
theorem Pj (K:Nat->Prop)(F:gN)(x:yz F)(code:Ls (Ls Ins))(zi:Ls Int)(Lk R:Nat)(pw:Value)(g:Nat)(l0:List Cl)(b1 b5:Nat)(W:World)(hF:YH Tryz.prog 182 3 204 5 141 F)(zR:yJ (ya code zi Lk R))(hx:PX code zi Lk R x)(hS:Sh K W W [.zM b1 25 [code.v,pw,.int .i64 ((Lk:Nat):Int),.int .i64 ((R:Nat):Int)],.zM b5 82 [.map (some g)],.Wy g l0,.Yd x,.zx x.gp 25 [code.v,pw,.int .i64 ((Lk:Nat):Int),.int .i64 ((R:Nat):Int)],.at_ code]):
    zP Tryz.prog 50 [.pointer (some ⟨x.g,0,none⟩),.pointer (some ⟨b1,0,none⟩),.pointer (some ⟨b5,0,none⟩)] W (λv w' =>v= .tuple #[]/\Sh K W w' [.zM b1 25 [code.v,pw,.int .i64 ((Lk:Nat):Int),.int .i64 ((R:Nat):Int)],.zM b5 82 [.map (some g)],.Wy g (VB (ya code zi Lk R) l0 x.st),.Yd x,.zx x.gp 25 [code.v,pw,.int .i64 ((Lk:Nat):Int),.int .i64 ((R:Nat):Int)],.at_ code]):=by
 refine gen Tryz.func50 Tryz.ntmps50 hS V λjP z7=>gG z7<|gL<|zn (kt 0 qu V V<|oM 1 V<|qw 1 p6 V V<|.nl)<|gO [2,3,4,5,0,1] V<|λBK Hy w9=>?_;clear z7
 have od:=w9.sh.yT (Lp:= [_,_,_,_])
 refine zL (zD w9 zlR V V V V V (Ah _ F x code zi Lk R pw g l0 _ hF zR hx od)) (zg V _) ?_
 rintro a17 By ⟨_,⟨rfl,Ff⟩,zj1⟩
 have jk:St 8 K W a17 By _ [_,_,_,_,_,_]:=⟨zj1,w9.sh.xP (Lp:= [_,_,_,_]) Ff (by intro A hA b hb;simp only [z6,qd,or_false] at hA;rcases hA with rfl|rfl|rfl|rfl<;>first|exact (hb:False).elim|exact Flat.qh hb|exact .inl ⟨_,xx ..,.inr hb⟩|exact .inl ⟨_,by simp,.inr hb⟩)⟩
 clear zj1 Ff
 clear w9
 refine gG jk<|nN<|λHS Hx jc=>?_;clear jk
 try simp only [Exit.then,Exit.inBlock,if_true]
 refine qj (fn:=Tryz.f50) V jc ?_
 exact ⟨V,(jc.sh.zY [4,5,0,1,2,3] V)⟩
end Go.Proofs.YtmjkobhkkjgplaaGreatDoor
namespace Go.Proofs.YtmjkobhkkjgplaaGreatDoor
open Go.Shelf
def UO :Go.Shelf.Ren:=⟨λ|6=>52|15=>94|14=>93|28=>138|29=>139|20=>130|21=>131|22=>132|23=>133|24=>134|25=>135|26=>136|27=>137|46=>148|47=>149|48=>150|49=>151|50=>152|57=>166|n=>n,λ|22=>41|24=>58|25=>91|3=>3|39=>143|0=>0|53=>200|55=>202|4=>4|46=>193|45=>192|50=>197|5=>5|9=>9|66=>216|70=>220|76=>234|77=>235|n=>n,λ|n=>n⟩
theorem Ns :Go.Proofs.SlLaysF0.n6 Tryz.prog UO:= {
 mixed:=zb
 f6:=⟨Tryz.f52.name,zf,Tryz.func52.trans (congrArg some zb)⟩
 f14:=⟨Tryz.f93.name,zf,Tryz.func93.trans (congrArg some zb)⟩
 f15:=Tryz.func94.trans (congrArg some zb)
 f20:=⟨Tryz.f130.name,zf,Tryz.func130.trans (congrArg some zb)⟩
 f21:=⟨Tryz.f131.name,zf,Tryz.func131.trans (congrArg some zb)⟩
 f22:=⟨Tryz.f132.name,zf,Tryz.func132.trans (congrArg some zb)⟩
 f23:=⟨Tryz.f133.name,zf,Tryz.func133.trans (congrArg some zb)⟩
 f24:=⟨Tryz.f134.name,zf,Tryz.func134.trans (congrArg some zb)⟩
 f25:=⟨Tryz.f135.name,zf,Tryz.func135.trans (congrArg some zb)⟩
 f26:=⟨Tryz.f136.name,zf,Tryz.func136.trans (congrArg some zb)⟩
 f27:=⟨Tryz.f137.name,zf,Tryz.func137.trans (congrArg some zb)⟩
 f28:=Tryz.func138.trans (congrArg some zb)
 f29:=Tryz.func139.trans (congrArg some zb)
 f46:=⟨Tryz.f148.name,zf,Tryz.func148.trans (congrArg some zb)⟩
 f47:=Tryz.func149.trans (congrArg some zb)
 f48:=Tryz.func150.trans (congrArg some zb)
 f49:=⟨Tryz.f151.name,zf,Tryz.func151.trans (congrArg some zb)⟩
 f50:=⟨Tryz.f152.name,zf,Tryz.func152.trans (congrArg some zb)⟩
 f57:=⟨Tryz.f166.name,zf,Tryz.func166.trans (congrArg some zb)⟩
 t0:=Tryz.underlying0
 a0:=Tryz.isAgg0
 z0:=Tryz.sizeOf0
 v0:=Tryz.zeroValue0
 t3:=Tryz.underlying3
 a3:=Tryz.isAgg3
 z3:=Tryz.sizeOf3
 v3:=Tryz.zeroValue3
 t4:=Tryz.underlying4
 a4:=Tryz.isAgg4
 z4:=Tryz.sizeOf4
 v4:=Tryz.zeroValue4
 t5:=Tryz.underlying5
 a5:=Tryz.isAgg5
 z5:=Tryz.sizeOf5
 v5:=Tryz.zeroValue5
 t9:=Tryz.underlying9
 a9:=Tryz.isAgg9
 z9:=Tryz.sizeOf9
 v9:=Tryz.zeroValue9
 t22:=Tryz.underlying41
 a22:=Tryz.isAgg41
 z22:=Tryz.sizeOf41
 v22:=Tryz.zeroValue41
 t25:=Tryz.underlying91
 a25:=Tryz.isAgg91
 z25:=Tryz.sizeOf91
 v25:=Tryz.zeroValue91
 t39:=Tryz.underlying143
 a39:=Tryz.isAgg143
 z39:=Tryz.sizeOf143
 v39:=Tryz.zeroValue143
 t45:=Tryz.underlying192
 a45:=Tryz.isAgg192
 z45:=Tryz.sizeOf192
 v45:=Tryz.zeroValue192
 t46:=Tryz.underlying193
 a46:=Tryz.isAgg193
 z46:=Tryz.sizeOf193
 v46:=Tryz.zeroValue193
 t50:=Tryz.underlying197
 a50:=Tryz.isAgg197
 z50:=Tryz.sizeOf197
 v50:=Tryz.zeroValue197
 t53:=Tryz.underlying200
 a53:=Tryz.isAgg200
 z53:=Tryz.sizeOf200
 v53:=Tryz.zeroValue200
 t55:=Tryz.underlying202
 a55:=Tryz.isAgg202
 z55:=Tryz.sizeOf202
 v55:=Tryz.zeroValue202
 t66:=Tryz.underlying216
 a66:=Tryz.isAgg216
 z66:=Tryz.sizeOf216
 v66:=Tryz.zeroValue216
 t70:=Tryz.underlying220
 a70:=Tryz.isAgg220
 z70:=Tryz.sizeOf220
 v70:=Tryz.zeroValue220
 t76:=Tryz.underlying234
 a76:=Tryz.isAgg234
 z76:=Tryz.sizeOf234
 v76:=Tryz.zeroValue234
 t77:=Tryz.underlying235
 a77:=Tryz.isAgg235
 z77:=Tryz.sizeOf235
 v77:=Tryz.zeroValue235 }
end Go.Proofs.YtmjkobhkkjgplaaGreatDoor
namespace Go.Proofs.YtmjkobhkkjgplaaGreatDoor
open Go.RowKit
set_option linter.unusedSimpArgs false
set_option linter.unusedVariables false
set_option maxRecDepth 100000
set_option maxHeartbeats 8000000
theorem VA (a b:Int):Dr.vz a b<0↔a<b:=by unfold Dr.vz;split<;>(try split)<;>omega
theorem k5 (a b:Int):Dr.vz a b=0↔a=b:=by unfold Dr.vz;split<;>(try split)<;>omega
theorem Rb (a b:Cl):Dr.NM a b<0↔ZG a b=true:=by
 unfold Dr.NM ZG
 simp only [Dr.BR]
 by_cases e1:a.th=b.th
 ·rw [if_neg (by simpa using (k5 _ _).2 e1),if_pos e1]
  by_cases e2:a.at_=b.at_
  ·rw [if_neg (by simpa using (k5 _ _).2 e2),if_pos e2]
   by_cases e3:a.UW=b.UW
   ·rw [if_neg (by simpa using (k5 _ _).2 e3),if_pos e3]
    by_cases e4:a.wh=b.wh
    ·rw [if_neg (by simpa using (k5 _ _).2 e4),if_pos e4]
     by_cases e5:a.wd=b.wd
     ·rw [if_neg (by simpa using (k5 _ _).2 e5)];simp [e5]
     ·rw [if_pos (λh=>e5 ((k5 _ _).1 h)),VA];simp
    ·rw [if_pos (λh=>e4 ((k5 _ _).1 h)),if_neg e4,VA];simp
   ·rw [if_pos (λh=>e3 ((k5 _ _).1 h)),if_neg e3,VA];simp
  ·rw [if_pos (λh=>e2 ((k5 _ _).1 h)),if_neg e2,VA];simp
 ·rw [if_pos (λh=>e1 ((k5 _ _).1 h)),if_neg e1,VA];simp
theorem tM (K:Nat->Prop)(s:Ls Cl)(W:World)(hS:Sh K W W [.own 58 s]):
  zP Tryz.prog 52 [s.v,.func (.func 53) #[] #[]] W (λv w' =>v= .tuple #[]/\∃l' :List Cl,l'.Perm s.l/\l'.Pairwise (λa b=>ZG b a=false)/\Sh K W w' [.own 58 (⟨s.v,l'⟩:Ls Cl)]):=by
 have eg:∀args w,(callFunc 53 args).run Tryz.prog w= .ok (.enter 53 args) w:=enters_of Tryz.func53 zb V
 have hc:=Ct (P:=Tryz.prog) (ρ:=UO) Ns (k:=5) Tryz.isAgg58 Tryz.sizeOf58 V V zf Dr.NM (λx h=>by rw [Rb,uw] at h;cases h) (λx y z h1 h2=>by rw [Rb] at*;exact UY h1 h2)
  (λx y z h1 h2 h3=>by
   rw [Rb] at*
   cases e1:ZG z y with
   |true=>have h4:=UY h3 e1;exact h1 h4
   |false=>
    have h5:ZG y z=false:=by simpa using h2
    have h6:=aQ h5 e1
    rw [<-h6] at h3
    exact h1 h3) 53 eg hS
  (λx _ y _ W' hx hy=>by
   refine gJ (Dr.zdZ x y W') ?_
   rintro e w' ⟨v,he,hv,hs⟩
   exact ⟨by rw [he,hv],hs.J6⟩)
 refine zP.mono hc ?_
 rintro v w' ⟨rfl,l',hp,hs,hsh⟩
 refine ⟨V,l',hp,?_,hsh⟩
 refine hs.imp ?_
 intro a b h
 cases h2:ZG b a with
 |false=>rfl
 |true=>exact absurd ((Rb b a).2 h2) h
theorem uh {α:Type}{l:List α}(h:l.Nodup){a b:Nat}{ha:a<l.length}{hb:b<l.length}(e:l[a]=l[b]):a=b:=by
 have h1:=List.pairwise_iff_getElem.1 h
 rcases Nat.lt_trichotomy a b with h2|h2|h2
 ·exact absurd e (h1 a b ha hb h2)
 ·exact h2
 ·exact absurd e.symm (h1 b a hb ha h2)
theorem Ll {p:Pg}{u:Ls zC}{W:World}{K:Nat->Prop}{z:List Cl}(h:KB p 0 (VB p) [] K W true u z)(hn:p.code.length<=4):z.length<=64000:=by
 obtain ⟨h1,_,_,S,rfl,h3,h4⟩:=h.QZ V
 have hS:S.length<=4000:=Nat.le_of_not_lt λh9=>h1 ⟨S,h3,λs hs=>(h4 s).1 hs,h9⟩
 have:=LO (p:=p) (l:= []) (S:=S)
 have h5:p.code.length*p.code.length<=4*4:=Nat.mul_le_mul hn hn
 have h6:=Nat.mul_le_mul hS h5
 simp only [xY] at this
 omega
structure tj (p:Pg)(ok:Bool)(l:List Cl):Prop where
 no:ok=false->pK p 0/\l= []
 yes:ok=true->¬pK p 0/\l.Nodup/\l.Pairwise (λa b=>ZG a b=true)/\∀c,c∈l↔∃s,Reach p 0 s/\∃a b,a<b/\b<p.code.length/\vI p s a b=some c
theorem Lj {p:Pg}{u:Ls zC}{W:World}{K:Nat->Prop}{z cl l' :List Cl}{ps:List Nat}(h:KB p 0 (VB p) [] K W true u z)(qg:cl=ps.map (nth z))(MO:ps.Nodup)(qU:∀q∈ps,q<z.length)(zO:∀q,q<z.length->q∈ps)(hp:l'.Perm cl)(hs:l'.Pairwise (λa b=>ZG b a=false)):tj p true l' :=by
 refine ⟨λh=>(by cases h),λ_=>?_⟩
 obtain ⟨h1,_,_,S,rfl,h3,h4⟩:=h.QZ V
 have hz:(S.foldl (VB p) []).Nodup:=nj List.nodup_nil
 have Du:∀c,c∈cl↔c∈S.foldl (VB p) []:=λc=>by
  rw [qg,List.mem_map]
  constructor
  ·rintro ⟨q,hq,rfl⟩;exact qb _ _ (qU q hq)
  ·intro hc
   obtain ⟨q,hq,rfl⟩:=List.mem_iff_getElem.1 hc
   exact ⟨q,zO q hq,qq _ _ hq⟩
 have hcn:cl.Nodup:=by
  rw [qg]
  refine List.pairwise_map.2 (List.Pairwise.imp_of_mem ?_ MO)
  intro a b ha hb GY e
  have mb:=qU a ha
  have xl:=qU b hb
  rw [qq _ _ mb,qq _ _ xl] at e
  exact GY (uh hz e)
 have hln:=hp.nodup_iff.2 hcn
 refine ⟨h1,hln,?_,λc=>?_⟩
 ·have h5:=hs.and hln
  refine h5.imp ?_
  rintro a b ⟨ha,GY⟩
  cases e:ZG a b with
  |true=>rfl
  |false=>exact absurd (aQ e ha) GY
 ·rw [hp.mem_iff,Du,Ep]
  constructor
  ·rintro (h|⟨s,hs,h⟩)
   ·cases h
   ·exact ⟨s,(h4 s).1 hs,h⟩
  ·rintro ⟨s,hs,h⟩
   exact .inr ⟨s,(h4 s).2 hs,h⟩
theorem Ph {p:Pg}{u:Ls zC}{W:World}{K:Nat->Prop}{z:List Cl}(h:KB p 0 (VB p) [] K W false u z):tj p false []:=⟨λ_=>⟨(h.x5 V).1,V⟩,λh=>(by cases h)⟩
theorem ND {ps:List Nat}{q n:Nat}(hn:ps.Nodup)(ha:∀x∈ps,x<n)(hq:q<n)(l4:q∉ps):ps.length<n:=by
 have h1:(q::ps).Nodup:=List.nodup_cons.2 ⟨l4,hn⟩
 have key:∀(n:Nat) (l:List Nat),l.Nodup->(∀x∈l,x<n)->l.length<=n:=by
  intro n
  induction n with
  |zero=>intro l _ h;cases l with
   |nil=>exact qC _
   |cons a l=>exact absurd (h a (by simp)) za
  |succ n ih=>
   intro l hl h
   by_cases hm:n∈l
   ·have:=ih (l.erase n) (hl.erase n) (λx hx=>by
     have h2:=(List.Nodup.mem_erase_iff hl).1 hx
     have:=h x h2.2
     have:=h2.1
     omega)
    rw [List.length_erase_of_mem hm] at this
    omega
   ·exact Nat.le_succ_of_le (ih l hl λx hx=>by
     have:=h x hx
     have:x≠n:=λe=>hm (e▸hx)
     omega)
 have:=key n (q::ps) h1 (λx hx=>by rcases List.mem_cons.1 hx with rfl|hx;exact hq;exact ha x hx)
 rw [yY] at this
 omega
def Lx (code:Ls (Ls Ins))(zi:Ls Int)(Lk R:Nat)(b1 b5 g:Nat)(z:List Cl):zZ:= .x5 [.zM b1 25 [code.v,zi.v,.int .i64 ((Lk:Nat):Int),.int .i64 ((R:Nat):Int)],.zM b5 82 [.map (some g)],.Wy g z]
theorem sV {code:Ls (Ls Ins)}{zi:Ls Int}{Lk R b1 b5 g:Nat}(z:List Cl)(b:Nat):¬(Lx code zi Lk R b1 b5 g z).rd b:=by
 rintro ⟨A,hA,hb⟩
 simp only [z6,qd,or_false] at hA
 rcases hA with rfl|rfl|rfl<;>exact hb
theorem u6 {code:Ls (Ls Ins)}{zi:Ls Int}{Lk R:Nat}(b1 b5 g:Nat)(zR:yJ (ya code zi Lk R))(K' :Nat->Prop)(W' :World)(gp:Nat)(x:yz FP)(z:List Cl)(hx:PX code zi Lk R x)(hg:x.gp=gp)(h:Sh K' W' W' [Lx code zi Lk R b1 b5 g z,.Yd x,.zx gp 25 [code.v,zi.v,.int .i64 ((Lk:Nat):Int),.int .i64 ((R:Nat):Int)],.at_ code]):
  zP Tryz.prog 50 ([]++ [.pointer (some ⟨x.g,0,none⟩)]++ [.pointer (some ⟨b1,0,none⟩),.pointer (some ⟨b5,0,none⟩)]) W' (λv w' =>v= .tuple #[]/\Sh K' W' w' [Lx code zi Lk R b1 b5 g (VB (ya code zi Lk R) z x.st),.Yd x,.zx gp 25 [code.v,zi.v,.int .i64 ((Lk:Nat):Int),.int .i64 ((R:Nat):Int)],.at_ code]):=by
 subst hg
 refine zP.mono (Pj K' FP x code zi Lk R zi.v g z b1 b5 W' zaw zR hx h.open_) ?_
 rintro v w' ⟨rfl,hs⟩
 exact ⟨V,Sh.close (B:= [.zM b1 25 [code.v,zi.v,.int .i64 ((Lk:Nat):Int),.int .i64 ((R:Nat):Int)],.zM b5 82 [.map (some g)],.Wy g _]) hs⟩
theorem oS (code:Ls (Ls Ins))(zi:Ls Int)(Lk R:Nat)(W:World)(qY:code.At W)(yo:zi.At W)(zR:yJ (ya code zi Lk R))(hR:pH (ya code zi Lk R)):
    zP Tryz.prog 20 [.agg #[code.v,zi.v,.int .i64 ((Lk:Nat):Int),.int .i64 ((R:Nat):Int)]] W (λv w' =>∃(l:Ls Cl) (ok:Bool),v= .tuple #[l.v,.agg #[.int .i64 (if ok=true then 0 else 10),.int .i64 0,.int .i64 0]]/\tj (ya code zi Lk R) ok l.l/\qM W w' [.own 58 l]):=by
 have hz:yC (yH code zi ((Lk:Nat):Int) ((R:Nat):Int))=⟨0,0,0⟩:=Yg zR
 refine gen Tryz.func20 Tryz.ntmps20 (qM.Jo qY yo:Sh (λ_=>False) W W [.at_ code,.at_ zi]) V λjP z7=>gG z7<|sK λ_ kz=>XV V V λxX=>zn (oM 1 V<|.nl)<|Q2 yR V λgk=>nK kz<|gK λ_ Xp=>sK λ_ Xe=>zn (kt 1 qu V V<|.nl)<|gC (λ_ _ h_=>gQ h_ LZ V (Kw (code:=code) (words:=zi) (zm:=((Lk:Nat):Int)) (ze:=((R:Nat):Int)) (h_.sh.at 2 V) (h_.sh.at 3 V))) V<|?_;clear z7
 rintro _ _ Hy ⟨rfl,Ge⟩
 refine dZ Ge V<|gU<|Q2 yR V λb17=>YK 0 yR V V V<|nK Xe<|sG (qB xU V<|qw 0 kD V V<|QW _ _ V<|.nl)<|Q1 V (by rw [hz];rfl)<|gS<|hK Xp<|sK λ_ K7=>xb (λ_ _ h_=>AR h_ V V V) V λg21=>Q2 p6 V λb22=>dX 0 p6 V V V<|nK K7<|gK λ_ Ke=>sK λ_ Re=>zn (kt 4 qu V V<|oV (W7 V V V) V<|.nl)<|gO [4,0,1,2,3,5,6] V<|λa28 w28 U8=>?_;clear Ge
 have Ko:St _ _ _ _ _ _ (Lx code zi Lk R xX b22 g21 []:: [_,_,_,_]):=⟨U8.fr,Sh.close (B:= [_,_,_]) U8.sh⟩
 clear U8
 have w8:=Ko.zY (L' := [_,_,_,_,_]) [3,4,0,1,2] V
 have n9:=w8.sh.yT (Lp:= [_,_,_])
 refine zL (zD w8 zlT V V V V V (M6 _ (List Cl) (Lx code zi Lk R xX b22 g21) (VB (ya code zi Lk R)) [] 50 [] [.pointer (some ⟨xX,0,none⟩),.pointer (some ⟨b22,0,none⟩)] code zi Lk R _ n9 zR hR zlS (λz b=>sV z b) (λK' W' gp x z hx hg h=>u6 xX b22 g21 zR K' W' gp x z hx hg h))) (zg V _) ?_
 rintro a31 dM ⟨_,⟨u31,Ea,z31,rfl,sy,Dl⟩,iU⟩
 have ZW:St 40 (λ_=>False) W a31 dM _ [_,_,_,_]:=⟨iU,w8.sh.xP (Lp:= [_,_,_]) Dl (by intro A hA b hb;simp only [z6,qd,or_false] at hA;rcases hA with rfl|rfl<;>first|exact (hb:False).elim|exact Flat.qh hb|exact .inl ⟨_,xx ..,.inr hb⟩|exact (sV _ _ hb).elim|(obtain ⟨i9,Yv,YJ⟩:=hb;exact (sy.nw _ (qb _ _ Yv) _ YJ).elim (λ⟨A9,hA9,B4⟩=> .inl ⟨A9,hA9,.inl B4⟩) (λh9=> .inr (.inr h9)))|exact .inl ⟨_,by simp,.inr hb⟩)⟩
 clear iU Dl
 clear w8
 refine gG ZW<|zn (oM 1 V<|.nl)<|gO [1,0,2,3] V<|λpz mu YA=>?_;clear ZW
 have Vb:St _ _ _ _ _ _ (_::_::_::_):=⟨YA.fr,YA.sh.open_⟩
 clear YA
 refine gG Vb<|zn (kK V<|kK V<|oM 2 V<|.nl)<|nK Re<|sG (oM 1 V<|rM V<|.nl)<|?_;clear Vb
 refine Xl V (λZn=>?_) λZn=>?_
 ·have OH:Ea=false:=(wE _).mp Zn
  refine sK λ_ Dd=>zn (oV (q8 (cs:= [.int .i64 10,.int .i64 0,.int .i64 0]) V V zb) V<|oM 1 V<|.nl)<|YK 5 yR V V V<|nK Dd<|gR<|uT<|λa39 pV QC=>KH (fn:=Tryz.f20) (t:=3) (u:=2) (i:=5) yR V QC V V V V ?_
  have YO:=QC.nil (α:=Cl) 58
  clear QC
  have iE:Ea=false:=by simpa using OH
  exact ⟨⟨.slice none 0 0,[]⟩,false,V,Ph (iE▸sy),(YO.sh.zY [0] V)⟩
 have OH:Ea=true:=(JS _).mp Zn
 refine gS<|hK Ke<|sG (oM 1 V<|.nl)<|λPQ MD J2=>?_
 have WM:=J2.nil (α:=Cl) 58
 clear J2
 have iE:Ea=true:=by simpa using OH
 have ER:z31.length<=64000:=Ll (iE▸sy) (by rw [x8];exact (ga zR).2.1)
 refine gG WM<|gK λ_ nB=>sK λ_ k45=>zn (qw 2 p6 V V<|.nl)<|xb (λ_ _ h_=>tm (i:=3) (l:=z31) h_ V V V V V) V λr46=>nK k45<|gB<|λAo tt Yy=>qE (λm a w=>∃(ps:List Nat) (cl:List Cl) (vc:Value),(cl=ps.map (nth z31))/\(ps.Nodup)/\(∀q∈ps,q<z31.length)/\St 40 (λ_=>False) W a w [(3,.pointer (some ⟨gk,0,none⟩)),(8,vc),(27,.pointer (some ⟨r46,0,none⟩))] [.itO r46 g21 z31.length ps,.own 58 (⟨vc,cl⟩:Ls Cl),.zM xX 25 [code.v,zi.v,.int .i64 ((Lk:Nat):Int),.int .i64 ((R:Nat):Int)],.zM b22 82 [.map (some g21)],.Wy g21 z31,.own 39 u31,.zM b17 28 [.int .i64 ((yC (yH code zi ((Lk:Nat):Int) ((R:Nat):Int))).code),.int .i64 ((yC (yH code zi ((Lk:Nat):Int) ((R:Nat):Int))).G6),.int .i64 ((yC (yH code zi ((Lk:Nat):Int) ((R:Nat):Int))).at_)],.zM gk 28 [.int .i64 0,.int .i64 0,.int .i64 0]]/\m=z31.length-ps.length) ⟨_,[],[],_,(V),(List.nodup_nil),(λq h=>(by cases h)),Yy.nf ⟨V,V,V,trivial⟩,V⟩ ?_;clear WM
 clear Yy
 rintro m47 PO M8 ⟨ps,cl,vc,qg,MO,Rf,Ws,zcY⟩
 refine gG Ws<|sK λ_ EK=>λa51 MC YZ=>zL (AQ (i:=4) (j:=0) (l:=z31) YZ V V V V V V V) (zg V _) ?_;clear Ws
 rintro a50 w50 (⟨zdi,Ri⟩|⟨tU,zpX,zhQ,Ri⟩)
 ·clear YZ
  refine gG Ri<|zn (kK V<|.nl)<|nK EK<|gK λ_ EI=>Q1 V V<|gX<|hK nB<|sK λ_ MI=>zn (oM 1 V<|.nl)<|gO [1,0,2,3,4,5,6,7] V<|λa59 w59 Rh=>?_;clear Ri
  have FB:=Rh.sh.yT (Lp:= [_])
  refine zL (zD Rh zlQ V V V V V (tM _ (⟨vc,cl⟩:Ls Cl) _ FB)) (zg V _) ?_
  rintro a60 w60 ⟨_,⟨rfl,k60,zjp,zjm,zhA⟩,zjL⟩
  have HQ:St 40 (λ_=>False) W a60 w60 _ [_,_,_,_,_,_,_,_]:=⟨zjL,Rh.sh.xP (Lp:= [_]) zhA (by intro A hA b hb;simp only [z6,qd,or_false] at hA;rcases hA with rfl<;>first|exact (hb:False).elim|exact Flat.qh hb|exact .inl ⟨_,xx ..,.inr hb⟩|exact .inl ⟨_,by simp,.inr hb⟩)⟩
  clear zjL zhA
  clear Rh
  refine gG HQ<|nK MI<|sK λ_ k61=>zn (oM 1 V<|oV (q8 (cs:= [.int .i64 0,.int .i64 0,.int .i64 0]) V V zb) V<|oM 1 V<|.nl)<|YK 7 yR V V V<|nK k61<|gR<|λa63 w63 U6=>KH (fn:=Tryz.f20) (t:=3) (u:=2) (i:=7) yR V U6 V V V V ?_;clear HQ
  have iE:Ea=true:=by simpa using OH
  exact ⟨(⟨vc,k60⟩:Ls Cl),true,V,Lj (iE▸sy) qg MO Rf zdi zjp zjm,(U6.sh.zY [0] V)⟩
 clear YZ
 refine gG Ri<|zn (kK V<|.nl)<|nK EK<|gK λ_ k64=>BJ V V<|gS<|hK k64<|gB<|sK λ_ k65=>zn (oV (tT (i:=4) (j:=0) (l:=z31) (q:=tU) V V V V V zc) V<|kK V<|.nl)<|Q2 eN V λb66=>YK 0 eN V V V<|nK k65<|?_;clear Ri
 have Ay:=ND MO Rf zpX zhQ
 have zdm:cl.length=ps.length:=by rw [qg,yw]
 refine gL<|zn (oM 1 V<|kt 0 eN V V<|.nl)<|xb (λ_ _ h_=>qF (n:=1) (cs:= [.int .i64 ((nth z31 tU).th),.int .i64 ((nth z31 tU).at_),.int .i64 ((nth z31 tU).UW),.int .i64 ((nth z31 tU).wh),.int .i64 ((nth z31 tU).wd)]) ([(nth z31 tU)]:List Cl) h_ UP eN V V V zf V zb V (λq hq w h=>Flat.inner _ _) (λq hq b hb=>(Flat.on _ _ hb).elim) V V) V λv68=>xb (λ_ _ h_=>yu (r:=3) (rm:=0) (s:=(⟨vc,cl⟩:Ls Cl)) (m:=(⟨v68,[(nth z31 tU)]⟩:Ls Cl)) h_ UP eN V V V V V V V (λw h=>(h.own 0 V)) (λb hb=>qt (h_.sh.ok _ (zy (i:=0) V)) hb) (λq hq b hb=>⟨q,hq,hb⟩) V V V inferInstance (show (cl.length+([(nth z31 tU)]).length)*40<=140737488355328/\cl.length+([(nth z31 tU)]).length<=140737488355328 from zp) V V) V λv69=>zn (oM 1 V<|.nl)<|nN<|λa70 w70 BH=>?_
 change∃_m,_m<_/\_
 have Wk:(ps++ [tU]).length=ps.length+1:=by simp
 refine ⟨_,?_,ps++ [tU],cl++([(nth z31 tU)]),v69,?_,?_,?_,BH.wN ⟨V,V,V,trivial⟩ [2,3,4,5,6,7,8,9] V,V⟩
 · rw [zcY];first|omega|(simp only [qf];omega)
 · rw [qg,yi];rfl
 · exact List.nodup_append.2 ⟨MO,by simp,λa ha b hb e=>by obtain rfl:=List.mem_singleton.1 hb;exact absurd (e▸ha) zc⟩
 · intro q hq;rcases List.mem_append.1 hq with hq|hq;exact Rf q hq;obtain rfl:=List.mem_singleton.1 hq;assumption
set_option maxHeartbeats 40000000
theorem zlx (K:Nat->Prop)(g mv t k:Nat)(code:Ls (Ls Ins))(vt:Value)(rows:List xg)(words owner zd:Ls Int)(pw:Value)(zm z8 mode:Int)(zq:Bool)(W:World)
  (hS:Sh K W W (stA g [code.v,pw,.int .i64 zm,.int .i64 z8,.int .i64 mode] vt rows words owner zd zq++ [.at_ code])) (et:mv/8=t) (ek:mv%8=k)
  (hn:t<rows.length) (SH:t<code.l.length) (Xf:mv<1000000) (JZ:0<=(nth rows t).pc/\(nth rows t).pc<1000000) (ZU:(nth rows t).wait.l.length<=3) (OS:k<=(nth rows t).wait.l.length) (Rf:zd.l.length<=100000000) (Vr:owner.l.length<=100)
  (Df:∀j,j<(nth rows t).wait.l.length->if (nth (nth rows t).wait.l j).lock=true then 0<=(nth (nth rows t).wait.l j).wh/\(nth (nth rows t).wait.l j).wh<owner.l.length else 0<=(nth (nth rows t).wait.l j).wh/\(nth (nth rows t).wait.l j).wh<words.l.length)
  (Is:k=0->GV (nth rows t).ze.l.length words.l.length owner.l.length (zo (nth code.l t).l (nth rows t).pc)):
  zP Tryz.prog 73 [.pointer (some ⟨g,0,none⟩),.int .i64 ((mv:Nat):Int)] W (λv w' =>v= .tuple #[]/\∃(Zb:List xg) (zB zA qT:Ls Int) (vX:Bool) (y:TS),
   y=XY mode t (nth code.l t).l k ⟨(nth rows t).pc,(nth rows t).ze.l,(nth rows t).wait.l,words.l,owner.l,zd.l,zq⟩/\Zb.map xg.th=(rows.map xg.th).set t ⟨y.pc,y.ze,y.wait⟩/\zB.l=y.words/\zA.l=y.owner/\qT.l=y.zd/\vX=y.zq/\
   Sh K W w' (stA g [code.v,pw,.int .i64 zm,.int .i64 z8,.int .i64 mode] vt Zb zB zA qT vX++ [.at_ code])):=by
 subst et;subst ek
 exact Pq K g mv code vt rows words owner zd pw zm z8 mode zq W hS hn SH Xf JZ ZU OS Rf Vr Df Is
theorem Sh.NI {α:Type}[zz α][Flat α]{K:Nat->Prop}{W w:World}{L:List zZ}{E:TypeId}{s:Ls α}(h:Sh K W w L)(i:Nat)(hi:L[i]? =some (.own E s)):∀b,s.on b->K b\/W.heap.size<=b:=λb hb=>by
 have hm:=zy hi
 rcases qt (h.ok _ hm) hb with h1|h1
 ·exact h.Zj _ hm b h1
 ·exact Flat.qh h1
theorem Sk {b:Nat}(h:(⟨.slice none 0 0,[]⟩:Ls Int).on b):False:=by
 rcases h with ⟨h,_⟩|⟨_,h,_⟩<;>exact absurd h (by simp)
structure VG (W:World)(ST:TypeId)(hd:List Value)(zF:List SD)(ends:List zC):Prop where
 hd:∀x∈zF,x.hd=hd/\x.E=ST/\x.zq=false/\∀b,zz.on x b->W.heap.size<=b
 en:∀o∈ends,∀b,zz.on o b->W.heap.size<=b
theorem VG.put {W:World}{ST:TypeId}{hd:List Value}{zF:List SD}{ends WO:List zC}{o:zC}(h:VG W ST hd zF ends)(hr:VJ o ends WO)(ho:∀b,zz.on o b->W.heap.size<=b):VG W ST hd zF WO/\WO.length<=ends.length+1:=by
 rcases hr with ⟨_,rfl⟩|⟨k,hk,_,_,rfl⟩
 ·exact ⟨h,za⟩
 ·refine ⟨⟨h.hd,λx hx=>?_⟩,by simp;omega⟩
  rcases List.mem_append.1 hx with hx|hx
  ·exact h.en x (List.mem_of_mem_take hx)
  ·rcases List.mem_cons.1 hx with rfl|hx
   ·exact ho
   ·exact h.en x (List.mem_of_mem_drop hx)
theorem VG.more {W:World}{ST:TypeId}{hd:List Value}{zF:List SD}{ends:List zC}{x:SD}(h:VG W ST hd zF ends)(hx:x.hd=hd/\x.E=ST/\x.zq=false/\∀b,zz.on x b->W.heap.size<=b):VG W ST hd (zF++ [x]) ends:=
 ⟨λy hy=>(List.mem_append.1 hy).elim (h.hd y) (λhy=>by
  obtain rfl:y=x:=by simpa using hy
  exact hx),h.en⟩
theorem Oc {p:Pg}(zR:yJ p){m:Int}{x:SD}{zF jr:List SD}{keys Qn:List (Ls Int)}{heads before ZV kB:List Int}{full JL:Bool}{E:List xR}{i:Nat}
  (h:Bv (keyOf x.st) x zF jr keys Qn heads before ZV kB full JL) (hk:keys.map (·.l)=(zF.map SD.st).map keyOf) (hlen:zF.length=keys.length)
  (hi:Inv p m (zF.map SD.st) E full i) (hf:full=false) (V7:i<=zF.length) (hr:Reach p m x.st) (hp:x.st.zd.length<=2*zF.length):
  Inv p m (jr.map SD.st) E JL i/\Qn.map (·.l)=(jr.map SD.st).map keyOf/\jr.length=Qn.length/\x.st∈jr.map SD.st/\(∀s∈zF.map SD.st,s∈jr.map SD.st)/\(jr=zF\/jr=zF++ [x]):=by
 rcases h with ⟨⟨j,hj,e⟩,e1,e2,_,e5⟩|⟨Xq,rfl,e2,_,rfl⟩
 ·have h1:(nth (zF.map SD.st) j)∈zF.map SD.st:=qb _ _ (by simp;omega)
  have e3:keyOf (nth (zF.map SD.st) j)=keyOf x.st:=by
   have:=congrArg (λl=>nth l j) hk
   simp only [zI (λs:Ls Int=>s.l) _ _ hj,zI keyOf (zF.map SD.st) j (by simp;omega)] at this
   rw [<-this];exact e
  have e4:=key_inj ((hi.reach _ h1).wf zR) (hr.wf zR) e3
  rw [e1,e5]
  refine ⟨hi,e2.trans hk,?_,e4▸h1,λs hs=>hs,.inl V⟩
  have:=congrArg List.length e2
  simp at this;omega
 ·refine ⟨?_,?_,?_,by simp,λs hs=>by simp at hs⊢;exact .inl hs,.inr V⟩
  ·have:=hi.Mr hf (by simpa using V7) hr (by simpa using hp) (λhx=>by
    obtain ⟨j,hj⟩:=kG hx
    obtain ⟨qU,e⟩:=List.getElem?_eq_some_iff.1 hj
    have iI:j<keys.length:=by rw [<-hlen];simpa using qU
    refine Xq j iI ?_
    have:=congrArg (λl=>nth l j) hk
    simp only [zI (λs:Ls Int=>s.l) _ _ iI,zI keyOf (zF.map SD.st) j qU] at this
    rw [this,qq _ _ qU,e])
   simpa using this
  ·rw [e2,hk];simp
  ·have:=congrArg List.length e2
   simp at this⊢;omega
theorem aR {L:List Int}{x:SD}{zF jr:List SD}{keys Qn:List (Ls Int)}{heads before ZV kB:List Int}{full JL:Bool}(h:Bv L x zF jr keys Qn heads before ZV kB full JL):Qf (Qn.map (·.l)) ZV kB:=by
 rcases h with ⟨_,_,_,h,_⟩|⟨_,_,_,h,_⟩<;>exact h
theorem IS :Qf (([]:List (Ls Int)).map (·.l)) (List.replicate 4096 (-1)) []:=by
 refine ⟨bJ,V,λh hh=> .inl ⟨?_,λj hj=>absurd hj (Nat.not_lt_zero _)⟩,λi hi=>absurd hi (Nat.not_lt_zero _)⟩
 simp only [nth,List.getD,List.getElem?_replicate,if_pos hh];rfl
theorem dE {xn WT:TypeId}{rows:List xg}{X:Prop}{b:Nat}(h:(zZ.x5 (xo xn WT rows)).rd b):X:=by
 obtain ⟨A,hA,hb⟩:=h
 obtain ⟨x,_,hx⟩:=List.mem_flatMap.1 hA
 simp only [Nn,z6,qd,or_false] at hx
 rcases hx with rfl|rfl<;>exact Flat.qh hb
theorem Bv.rd {L:List Int}{x:SD}{zF jr:Ls SD}{keys Qn:List (Ls Int)}{heads before ZV kB:List Int}{full JL:Bool}(h:Bv L x zF.l jr.l keys Qn heads before ZV kB full JL){E:TypeId}{b:Nat}(hb:(zZ.own E jr).rd b):(zZ.own E zF).rd b\/(zZ.Yd x).rd b:=by
 obtain ⟨i,hi,hb⟩:=hb
 rcases h with ⟨_,e1,_⟩|⟨_,e1,_⟩
 ·rw [e1] at hi hb;exact .inl ⟨i,hi,hb⟩
 ·rw [e1] at hi hb
  simp at hi
  rcases yq i zF.l.length with h1|h1
  ·rw [KZ _ _ _ h1] at hb;exact .inl ⟨i,h1,hb⟩
  ·obtain rfl:i=zF.l.length:=za
   rw [fJ] at hb;exact .inr hb
theorem VJ.rd {o:zC}{ends WO:Ls zC}(h:VJ o ends.l WO.l){E:TypeId}{b:Nat}(hb:(zZ.own E WO).rd b):(zZ.own E ends).rd b\/o.words.on b\/o.zd.on b:=by
 obtain ⟨i,hi,hb⟩:=hb
 have hm:=qb _ _ hi
 have key:∀y∈ends.l,zz.on y b->(zZ.own E ends).rd b:=λy hy hyb=>by
  obtain ⟨j,hj⟩:=kG hy
  obtain ⟨qU,e⟩:=List.getElem?_eq_some_iff.1 hj
  exact ⟨j,qU,by rw [qq _ _ qU,e];exact hyb⟩
 rcases h with ⟨_,e1⟩|⟨k,_,_,_,e1⟩
 ·exact .inl (key _ (e1▸hm) hb)
 ·rw [e1] at hm hb
  rcases List.mem_append.1 hm with h1|h1
  ·exact .inl (key _ (List.mem_of_mem_take h1) hb)
  ·rcases List.mem_cons.1 h1 with h1|h1
   ·rw [h1] at hb;exact .inr hb
   ·exact .inl (key _ (List.mem_of_mem_drop h1) hb)
theorem NR {code:Ls (Ls Ins)}{words:Ls Int}{Lk R:Nat}(h:yJ (ya code words Lk R)):1<=code.l.length/\code.l.length<=4/\words.l.length<=64/\0<=(Lk:Int)/\(Lk:Int)<=4/\1<=(R:Int)/\(R:Int)<=200:=by
 have h1:=h.code
 have h2:=h.words
 have h3:=h.zm
 have h4:=h.ze
 simp only [ya,yH,yw] at h1 h2 h3 h4
 omega
theorem Cr {zF:List SD}{i:Nat}(h:i<zF.length):nth (zF.map SD.st) i=(nth zF i).st:=zI _ _ _ h
theorem zsV (code:Ls (Ls Ins))(words:Ls Int)(Lk R:Nat)(mode:Int)(W:World)(qY:code.At W)(yo:words.At W)(zR:yJ (ya code words Lk R)):
    zP Tryz.prog 26 [.agg #[code.v,words.v,.int .i64 ((Lk:Nat):Int),.int .i64 ((R:Nat):Int)],.int .i64 mode] W (λv w' =>∃(g:Nat) (full:Bool) (kv hv bv:Value) (zF:Ls SD) (ends:Ls zC),v= .pointer (some ⟨g,0,none⟩)/\(full=true↔pK (ya code words Lk R) mode)/\(full=false->j0 (ends.l.map zC.out)/\∀o,o∈ends.l.map zC.out↔jq (ya code words Lk R) mode o)/\ends.l.length<=70000/\(∀o∈ends.l,∀b,zz.on o b->W.heap.size<=b)/\((full=false->(zF.l.map SD.st).Nodup/\∀s,s∈zF.l.map SD.st↔Reach (ya code words Lk R) mode s)/\zF.l.length<=4001/\VG W 111 [code.v,words.v,.int .i64 ((Lk:Nat):Int),.int .i64 ((R:Nat):Int),.int .i64 mode] zF.l ends.l)/\qM W w' [.zM g 52 [zF.v,kv,hv,bv,ends.v,.bool full],.own 103 zF,.own 39 ends]):=by
 obtain ⟨iL,qg,aV,_,zw6,_,hR9⟩:=NR zR
 have gv:Lk<=4:=za
 have hR:R<=200:=za
 refine gen Tryz.func26 Tryz.ntmps26 (qM.Jo qY yo:Sh (λ_=>False) W W [.at_ code,.at_ words]) V λjP z7=>gG z7<|sK λ_ kz=>XV V V λxX=>zn (oM 1 V<|.nl)<|nK kz<|sK λ_ gu=>zn (oV (q8 (cs:= [(.slice none 0 0),(.slice none 0 0),(.slice none 0 0),(.slice none 0 0),(.slice none 0 0),.bool false]) V V zb) V<|.nl)<|XV V V λeb=>zn (oM 1 V<|.nl)<|nK gu<|gK λ_ Xe=>sG (oM 1 V<|.nl)<|gB<|λPS Na XU=>?_;clear z7
 have jc:=XU.nil (α:=Int) 3
 clear XU
 refine qE (λm a w=>∃(i:Nat) (hl:List Int) (vh:Value),(i<=4096)/\(hl=List.replicate i (-1))/\(hl.length=i)/\St 124 (λ_=>False) W a w [(1,.int .i64 mode),(2,.pointer (some ⟨xX,0,none⟩)),(5,.pointer (some ⟨eb,0,none⟩)),(6,.int .i64 ((i:Nat):Int))] [.zM eb 52 [(.slice none 0 0),(.slice none 0 0),vh,(.slice none 0 0),(.slice none 0 0),.bool false],.zM xX 25 [code.v,words.v,.int .i64 ((Lk:Nat):Int),.int .i64 ((R:Nat):Int)],.at_ code,.at_ words,.own 3 (⟨vh,hl⟩:Ls Int)]/\m=4096-i) ⟨_,0,[],(.slice none 0 0),za,(V),(V),jc.wN ⟨V,V,V,V,trivial⟩ [1,2,3,4,0] V,V⟩ ?_
 clear jc
 rintro m17 a17 By ⟨i,hl,vh,hi,hhl,hhn,jk,B1⟩
 refine gG jk<|gK λ_ K7=>sG (oM 1 V<|xk _ 4096 V<|.nl)<|?_;clear jk
 refine gcd V (λGp cZ=>?_) λGp cZ=>?_
 ·skip
  refine gS<|hK K7<|gK λ_ V6=>gB<|gL<|zn (oM 2 V<|yb 0 Gy zV V V<|.nl)<|xb (λ_ _ h_=>qF (n:=1) (cs:= [.int .i64 (-1)]) ([(-1)]:List Int) h_ zt zj V V V zf V zb V (λq hq w h=>Flat.inner _ _) (λq hq b hb=>(Flat.on _ _ hb).elim) V V) V λv24=>xb (λ_ _ h_=>yu (r:=5) (rm:=0) (s:=(⟨vh,hl⟩:Ls Int)) (m:=(⟨v24,[(-1)]⟩:Ls Int)) h_ zt zj V V V V V V V (λw h=>(h.own 0 V)) (λb hb=>qt (h_.sh.ok _ (zy (i:=0) V)) hb) (λq hq b hb=>⟨q,hq,hb⟩) V V V inferInstance (show (hl.length+([(-1)]).length)*8<=140737488355328/\hl.length+([(-1)]).length<=140737488355328 from zp) V V) V λv25=>zn (jA Gy V<|.nl)<|dY 1 zV V (aO 5 V) V<|nK V6<|gL<|zn (oM 1 V<|yl _ 1 zp V<|oM 1 V<|.nl)<|nN<|λMW MG Ko=>zH ⟨_,?_,i+1,hl++([(-1)]),v25,?_,?_,?_,Ko.wN ⟨V,V,V,V,trivial⟩ [1,2,3,4,5] V,V⟩
  · rw [B1];first|omega|(simp only [qf];omega)
  · omega
  · rw [hhl,List.replicate_succ']
  · simp [hhn]
 refine gX<|hK Xe<|?_
 have Yv:i=4096:=za
 refine sK λ_ K6=>zn (kt 1 qu V V<|oM 1 V<|.nl)<|λec ak Qp=>zL (zD Qp zlN V V V V V (PF code words Lk R mode _ (Qp.sh.at 2 V) (Qp.sh.at 3 V) qg gv hR aV)) (zg V _) ?_
 rintro a31 dM ⟨_,⟨g31,CC,zf5,zfO,zgw,zgo,rfl,zhL,zpl,zqH,zqB,Dl⟩,iU⟩
 have hyb:=zhL;have hyw:=zpl;have hyo:=zqH;have hyp:=zqB
 have ZW:=(⟨iU,Qp.sh.call Dl (by intro A hA b hb;simp only [z6,qd,or_false] at hA;rcases hA with rfl|rfl|rfl|rfl|rfl|rfl<;>first|exact (hb:False).elim|exact Flat.qh hb|exact dE hb)⟩:St 124 (λ_=>False) W a31 dM _ _)
 clear iU Dl
 clear Qp
 refine gG ZW<|zn (oM 1 V<|.nl)<|nK K6<|sK λ_ sb=>zn (oM 2 V<|.nl)<|λpz mu YA=>?_;clear ZW
 have Vb:=YA.nil (α:=SD) 103
 clear YA
 have Yz:=Vb.VY (α:=Ls Int) 23
 clear Vb
 have QJ:=Yz.nil (α:=Int) 3
 clear Yz
 have KF:=QJ.nil (α:=zC) 39
 clear QJ
 have dW:=KF.zY (L' := [_,_,_,_,_,_,_,_,_,_,_,_,_,_,_]) [4,5,6,7,8,9,0,1,2,3,10,11,12,13,14] V
 obtain ⟨lU,nF⟩:∃x,x=(⟨g31,111,[code.v,words.v,.int .i64 ((Lk:Nat):Int),.int .i64 ((R:Nat):Int),.int .i64 mode],⟨zf5,CC⟩,zfO,zgw,zgo,false⟩:SD):=⟨_,V⟩
 have Iw:=(Sh.freeze (hd:= [code.v,words.v,.int .i64 ((Lk:Nat):Int),.int .i64 ((R:Nat):Int),.int .i64 mode]) (rows:=CC) (words:=zfO) (owner:=zgw) (zd:=zgo) (vt:=zf5) dW.sh)
 rw [<-nF] at Iw
 have zo7:St 124 (λ_=>False) W pz mu _ [.Yd lU,.own 39 (⟨.slice none 0 0,[]⟩:Ls zC),.own 3 (⟨.slice none 0 0,[]⟩:Ls Int),.deep 23 (⟨.slice none 0 0,[]⟩:Ls (Ls Int)),.own 103 (⟨.slice none 0 0,[]⟩:Ls SD),.zM eb 52 [(.slice none 0 0),(.slice none 0 0),vh,(.slice none 0 0),(.slice none 0 0),.bool false],.zM xX 25 [code.v,words.v,.int .i64 ((Lk:Nat):Int),.int .i64 ((R:Nat):Int)],.at_ code,.at_ words,.own 3 (⟨vh,hl⟩:Ls Int)]:=⟨dW.fr,Iw.1⟩
 clear dW
 have zrB:g31=lU.g:=by rw [nF]
 have SI:lU.st=yr (ya code words Lk R):=by rw [nF];unfold SD.st yr;simp only [hyb,hyw,hyo,hyp];simp [ya,yH,Function.comp_def,List.map_const']
 have ie:WfX code words Lk R lU:=by have h9:=Wf.yr zR;rw [<-SI] at h9;exact h9.toX
 have zhY:lU.zd.l.length=0:=by rw [nF];simp only [hyp];rfl
 have IT:lU.hd= [code.v,words.v,.int .i64 ((Lk:Nat):Int),.int .i64 ((R:Nat):Int),.int .i64 mode]/\lU.E=111/\lU.zq=false/\∀b,zz.on lU b->W.heap.size<=b:=⟨by rw [nF],by rw [nF],by rw [nF],λb hb=>(Iw.2 b hb).elim (λh=>h.elim) id⟩
 have YO:=zo7.zY (L' := [_,_,_,_,_,_,_,_,_,_]) [5,4,3,9,2,0,1,6,7,8] V
 have cU:=YO.sh.yT (Lp:= [_,_,_,_,_,_])
 refine zL (zD YO zam V V V V V (by have h9:=Sd _ eb lU (⟨.slice none 0 0,[]⟩:Ls SD) (⟨.slice none 0 0,[]⟩:Ls (Ls Int)) (⟨vh,hl⟩:Ls Int) (⟨.slice none 0 0,[]⟩:Ls Int) (.slice none 0 0) false _ _ _ _ _ _ cU (by rw [hhl,Yv];exact IS) V (by simp) IT.1 IT.2.1 (by rw [ie.ao];exact qg) (λi hi=>by have h9:=ie.ze i hi;omega) ie.wait (by have h9:=ie.words;have h8:=ie.owner;have h7:=zhY;omega);rw [<-zrB] at h9;exact h9)) (zg V _) ?_
 rintro a42 w42 ⟨_,⟨rfl,tI,Oh,zrO,zs2,zdL,Ip,zhI⟩,zjU⟩
 have WM:St 124 (λ_=>False) W a42 w42 _ [_,_,_,_,_,_,_,_,_,_]:=⟨zjU,YO.sh.xP (Lp:= [_,_,_,_,_,_]) zhI (by intro A hA b hb;simp only [z6,qd,or_false] at hA;rcases hA with rfl|rfl|rfl|rfl|rfl|rfl<;>first|exact (hb:False).elim|exact Flat.qh hb|exact .inl ⟨_,xx ..,.inr hb⟩|exact (Ip.rd hb).elim (λh=> .inl ⟨_,zy (i:=1) V,.inr h⟩) (λh=> .inl ⟨_,zy (i:=5) V,.inr h⟩)|exact .inl ⟨_,by simp,.inr hb⟩)⟩
 clear zjU zhI
 clear YO
 refine gG WM<|nK sb<|?_;clear WM
 obtain ⟨hc1,AG,hc3⟩:tI.l= [lU]/\Oh.l.map (·.l)= [keyOf lU.st]/\zdL=(false||decide (4000<0+1)):=by rcases Ip with ⟨⟨j,hj,_⟩,_⟩|⟨_,e1,e2,_,e3⟩;exact absurd hj (by simp);exact ⟨e1,e2,e3⟩
 have zjs:Inv (ya code words Lk R) mode (tI.l.map SD.st) (([]:List zC).map zC.out) zdL 0:=by rw [hc1,hc3];exact Inv.first _ SI
 have zjr:Oh.l.map (·.l)=(tI.l.map SD.st).map keyOf:=by rw [AG,hc1];rfl
 have zjt:=aR Ip
 have zja:tI.l.length=Oh.l.length:=by have h9:=congrArg List.length AG;simp at h9;rw [hc1];simp [h9]
 have zpP:VG W 111 [code.v,words.v,.int .i64 ((Lk:Nat):Int),.int .i64 ((R:Nat):Int),.int .i64 mode] tI.l ([]:List zC):=⟨λy hy=>(by rw [hc1] at hy;obtain rfl:y=lU:=(by simpa using hy);exact IT),λo ho=>(by cases ho)⟩
 have zrN:([]:List zC).length<=16*0:=by simp
 refine gK λ_ k43=>sG (oM 1 V<|.nl)<|gB<|λa46 w46 B9=>qE (λm a w=>∃(i:Nat) (full:Bool) (zF:Ls SD) (keys:Ls (Ls Int)) (heads before:Ls Int) (ends:Ls zC),(i<=zF.l.length)/\(Inv (ya code words Lk R) mode (zF.l.map SD.st) (ends.l.map zC.out) full i)/\(keys.l.map (·.l)=(zF.l.map SD.st).map keyOf)/\(Qf (keys.l.map (·.l)) heads.l before.l)/\(zF.l.length=keys.l.length)/\(VG W 111 [code.v,words.v,.int .i64 ((Lk:Nat):Int),.int .i64 ((R:Nat):Int),.int .i64 mode] zF.l ends.l)/\(ends.l.length<=16*i)/\St 124 (λ_=>False) W a w [(5,.pointer (some ⟨eb,0,none⟩)),(8,.int .i64 ((i:Nat):Int))] [.zM eb 52 [zF.v,keys.v,heads.v,before.v,ends.v,.bool full],.own 103 zF,.deep 23 keys,.own 3 heads,.own 3 before,.Yd lU,.own 39 ends,.zM xX 25 [code.v,words.v,.int .i64 ((Lk:Nat):Int),.int .i64 ((R:Nat):Int)],.at_ code,.at_ words]/\m=4002-i) ⟨_,0,zdL,tI,Oh,zrO,zs2,(⟨.slice none 0 0,[]⟩:Ls zC),za,(zjs),(zjr),(zjt),(zja),(zpP),(zrN),B9.nf ⟨V,V,trivial⟩,V⟩ ?_
 clear B9
 rintro m45 a45 w45 ⟨i,full,zF,keys,heads,before,ends,hi,hinv,Ir,Iv,hlen,ij,WJ,dV,OK⟩
 refine gG dV<|gK λ_ EL=>sK λ_ k48=>y4 (aO 1 V) λzrf=>zn (oM 2 V<|yb 0 V9 an V V<|wk av (aO 1 V) V<|xk _ _ V<|oM 1 V<|.nl)<|?_;clear dV
 rcases G3 (i<zF.l.length) with ⟨Zm,cT⟩|⟨Zm,cT⟩
 ·skip
  refine zn (oG Zm (zG V V) V<|oG Zm (jC V V) V<|oG Zm (zT (r:=5) Jl V V V) V<|oG Zm (xV (i:=0) w5 V V V V) V<|oG Zm (WD V V) V<|QV Zm V<|.nl)<|nK k48<|Xl V (λWp=>?_) λWp=>?_
  ·have zqQ:full=false:=(wE _).mp Wp
   refine gS<|hK EL<|gK λ_ EI=>gB<|sG (oM 1 V<|yb 0 V9 an V V<|oM 1 V<|jo av b2 (aO 1 V) _ zp V<|Z1 (.pointer (some ⟨(nth zF.l i).g,0,none⟩)) b2 (aO 1 V) zp V<|oM 1 V<|.nl)<|λa55 P6 GZ=>?_
   obtain ⟨x,Oo⟩:∃x,x=nth zF.l i:=⟨_,V⟩
   rw [<-Oo] at GZ
   have V7:i<zF.l.length:=za
   have EV:x∈zF.l:=by rw [Oo];exact qb _ _ V7
   have hxs:x.st∈zF.l.map SD.st:=List.mem_map.2 ⟨x,EV,V⟩
   have hxi:nth (zF.l.map SD.st) i=x.st:=by rw [Cr V7,<-Oo]
   have sf:=(hinv.reach _ hxs).wf zR
   have Jh:=sf.toX
   obtain ⟨Wo,QI,Wn,XG⟩:=ij.hd x EV
   have Tj:=(GZ.sh.own 1 V).inner i za
   rw [<-Oo] at Tj
   obtain ⟨hn1,BZ,hn3,hn4,hn5⟩:=(show zz.inner x _ from Tj)
   rw [QI,SD.cells,Wo,Wn] at hn1
   have zcn:x.zd.l.length<=2*i:=by have h9:=hinv.pr i (by simpa using V7);rw [hxi] at h9;exact h9
   have hnl:zF.l.length<=4001:=by have h9:=hinv.len;simpa using h9
   have ML:x.words.l.length<=100000/\x.owner.l.length<=100000/\x.zd.l.length<=100000000:=by have h9:=Jh.words;have h8:=Jh.owner;omega
   have KE:=GZ.Y7 (A:= .zx x.g 111 [code.v,words.v,.int .i64 ((Lk:Nat):Int),.int .i64 ((R:Nat):Int),.int .i64 mode,x.zl.v,x.words.v,x.owner.v,x.zd.v,.bool false]) hn1 (λb hb=>hb) (λb hb=>⟨.own 103 zF,zy (i:=1) V,i,V7,by rw [<-Oo];exact .inl hb⟩)
   clear GZ
   have DK:=KE.Y7 (A:= .at_ x.zl) BZ (λb hb=>hb) (λb hb=>⟨.own 103 zF,zy (i:=2) V,i,V7,by rw [<-Oo];exact .inr (.inl hb)⟩)
   clear KE
   have MT:=DK.Y7 (A:= .at_ x.words) hn3 (λb hb=>hb) (λb hb=>⟨.own 103 zF,zy (i:=3) V,i,V7,by rw [<-Oo];exact .inr (.inr (.inl hb))⟩)
   clear DK
   have Rh:=MT.Y7 (A:= .at_ x.owner) hn4 (λb hb=>hb) (λb hb=>⟨.own 103 zF,zy (i:=4) V,i,V7,by rw [<-Oo];exact .inr (.inr (.inr (.inl hb)))⟩)
   clear MT
   have HQ:=Rh.Y7 (A:= .at_ x.zd) hn5 (λb hb=>hb) (λb hb=>⟨.own 103 zF,zy (i:=5) V,i,V7,by rw [<-Oo];exact .inr (.inr (.inr (.inr hb)))⟩)
   clear Rh
   skip
   refine gG HQ<|sK λ_ k61=>zn (oM 1 V<|.nl)<|gP (λ_ _ h_=>gQ h_ zlM V (Pn x.g code x.zl _ _ _ _ _ _ _ _ _ (h_.sh.zx 4 V) (h_.sh.at 13 V) (h_.sh.at 3 V) qg Jh.ao (λt ht=>(Jh.pc t ht).1))) V<|zn (oM 1 V<|.nl)<|nK k61<|gF [5,8,9,10] V<|sK λ_ Oj=>zn (oM 1 V<|.nl)<|λa65 w65 Uz=>zL (zD Uz zlL V V V V V (NY x.g code x.zl x.owner _ _ _ _ _ _ _ _ (Uz.sh.zx 4 V) (Uz.sh.at 13 V) (Uz.sh.at 3 V) (Uz.sh.at 1 V) qg Jh.ao (λt ht=>(Jh.pc t ht).1) (λt ht i hi jk=>by have h9:=Ey zR ht hi jk;rw [Jh.owner];exact h9) (λt ht=>Jh.wait t (by rw [Jh.ao];exact ht)))) (zg V _) ?_;clear HQ
   rintro a66 M7 ⟨_,⟨HG,rfl,Ta,ik⟩,iT⟩
   rw [fT (Lk:=Lk) (R:=R) (words:=words) Jh.ao] at Ta
   have Xf:=Ta
   have zw1:HG.l.length<=16:=by rw [Xf];exact uk Jh.ao qg Jh.wait
   have B8:St _ (λ_=>False) W a66 M7 _ _:=⟨iT,Uz.sh.Hj ik⟩
   clear iT ik
   clear Uz
   refine gG B8<|zn (oM 1 V<|.nl)<|nK Oj<|gK λ_ k67=>sG (oM 1 V<|.nl)<|?_;clear B8
   refine Xl V (λzsc=>?_) λzsc=>?_
   ·skip
    refine gK λ_ Oi=>rT 10 [] (oM 2 V<|jA kn V<|w7 5 zV V V<|oM 1 V<|jA Zr V<|w7 5 zV V V<|oV (xW (cs:= [.int .i64 0,x.words.v,x.zd.v]) V V (λw h=>by obtain ⟨A72,n72,c72,(e72:x.zd.v=_)⟩:=((h.at 1 V)).form;rw [e72];obtain ⟨A71,n71,c71,(e71:x.words.v=_)⟩:=((h.at 3 V)).form;rw [e71];kernel_rfl)) V<|.nl)<|gO [6,12,3,1,0,2,4,5,7,8,9,10,11,13,14,15] V<|λa78 w78 O4=>?_
    have zqk:=O4.sh.yT (Lp:= [_,_,_,_])
    refine zL (zD O4 LY V V V V V (mU _ _ (⟨0,x.words,x.zd⟩:zC) ends _ _ _ _ _ _ zqk za)) (zg V _) ?_
    rintro a79 w79 ⟨_,⟨rfl,zlv,Fx,zhu⟩,zjF⟩
    have h79:St 124 (λ_=>False) W a79 w79 _ [_,_,_,_,_,_,_,_,_,_,_,_,_,_,_,_]:=⟨zjF,O4.sh.xP (Lp:= [_,_,_,_]) zhu (by intro A hA b hb;simp only [z6,qd,or_false] at hA;rcases hA with rfl|rfl|rfl|rfl<;>first|exact (hb:False).elim|exact Flat.qh hb|exact .inl ⟨_,xx ..,.inr hb⟩|exact (Fx.rd hb).elim (λh=> .inl ⟨_,zy (i:=1) V,.inr h⟩) (λh=>h.elim (λh=> .inl ⟨_,zy (i:=2) V,.inr h⟩) (λh=> .inl ⟨_,zy (i:=3) V,.inr h⟩))|exact .inl ⟨_,by simp,.inr hb⟩)⟩
    clear zjF zhu
    clear O4
    refine gG h79<|nK Oi<|gX<|hK EI<|gL<|zn (oM 1 V<|yl _ 1 zp V<|oM 1 V<|.nl)<|nN<|?_;clear h79
    have dT:=Fx.sorted hinv.sorted
    have Dx:=hinv.ended (by simpa using V7) (by rw [hxi,<-GG Jh.ao];assumption) dT.1 (by intro y;rw [dT.2 y,hxi];rfl)
    obtain ⟨nQ,zjb⟩:=ij.put Fx (λb hb=>XG b (hb.elim (λhb=> .inr (.inr (.inl hb))) (λhb=> .inr (.inr (.inr (.inr hb))))))
    have oA:zlv.l.length<=16*(i+1):=za
    have hiN:i+1<=zF.l.length:=za
    intro a80 w80 aZ
    refine zH ⟨_,?_,(i+1),full,zF,keys,heads,before,zlv,?_,?_,?_,?_,?_,?_,?_,aZ.wN ⟨V,V,trivial⟩ [0,8,9,10,11,12,1,13,14,15] V,V⟩
    · rw [OK];omega
    · first|exact hiN|omega
    · first|exact Dx|exact hinv
    · first|exact iM|exact Ir
    · first|exact iO|exact Iv
    · first|exact iJ|exact hlen
    · first|exact nQ|exact ij
    · first|exact oA|omega
   refine gS<|hK k67<|gK λ_ k81=>sK λ_ k82=>y4 (aO 0 V) λzjf=>zn (oM 1 V<|wk zt (aO 0 V) V<|KX _ 0 V<|.nl)<|nK k82<|gcd V (λzr6 zqf=>?_) λzr6 zqf=>?_
   ·skip
    refine gK λ_ k85=>rT 10 [] (oM 2 V<|jA kn V<|w7 5 zV V V<|oM 1 V<|jA Zr V<|w7 5 zV V V<|oV (xW (cs:= [.int .i64 2,x.words.v,x.zd.v]) V V (λw h=>by obtain ⟨A87,n87,c87,(e87:x.zd.v=_)⟩:=((h.at 1 V)).form;rw [e87];obtain ⟨A86,n86,c86,(e86:x.words.v=_)⟩:=((h.at 3 V)).form;rw [e86];kernel_rfl)) V<|.nl)<|gO [6,12,3,1,0,2,4,5,7,8,9,10,11,13,14,15] V<|λa93 w93 uV=>?_
    have zqc:=uV.sh.yT (Lp:= [_,_,_,_])
    refine zL (zD uV LY V V V V V (mU _ _ (⟨2,x.words,x.zd⟩:zC) ends _ _ _ _ _ _ zqc za)) (zg V _) ?_
    rintro a94 w94 ⟨_,⟨rfl,zlu,Fw,zhs⟩,zjB⟩
    have MS:St 124 (λ_=>False) W a94 w94 _ [_,_,_,_,_,_,_,_,_,_,_,_,_,_,_,_]:=⟨zjB,uV.sh.xP (Lp:= [_,_,_,_]) zhs (by intro A hA b hb;simp only [z6,qd,or_false] at hA;rcases hA with rfl|rfl|rfl|rfl<;>first|exact (hb:False).elim|exact Flat.qh hb|exact .inl ⟨_,xx ..,.inr hb⟩|exact (Fw.rd hb).elim (λh=> .inl ⟨_,zy (i:=1) V,.inr h⟩) (λh=>h.elim (λh=> .inl ⟨_,zy (i:=2) V,.inr h⟩) (λh=> .inl ⟨_,zy (i:=3) V,.inr h⟩))|exact .inl ⟨_,by simp,.inr hb⟩)⟩
    clear zjB zhs
    clear uV
    refine gG MS<|nK k85<|gX<|hK EI<|gL<|zn (oM 1 V<|yl _ 1 zp V<|oM 1 V<|.nl)<|nN<|?_;clear MS
    have dT:=Fw.sorted hinv.sorted
    have Dx:=hinv.stuck (by simpa using V7) (by rw [hxi,<-GG Jh.ao];assumption) (by rw [hxi,<-Xf];exact JW za) dT.1 (by intro y;rw [dT.2 y,hxi];rfl)
    obtain ⟨nQ,zjb⟩:=ij.put Fw (λb hb=>XG b (hb.elim (λhb=> .inr (.inr (.inl hb))) (λhb=> .inr (.inr (.inr (.inr hb))))))
    have oA:zlu.l.length<=16*(i+1):=za
    have hiN:i+1<=zF.l.length:=za
    intro a95 w95 h95
    refine zH ⟨_,?_,(i+1),full,zF,keys,heads,before,zlu,?_,?_,?_,?_,?_,?_,?_,h95.wN ⟨V,V,trivial⟩ [0,8,9,10,11,12,1,13,14,15] V,V⟩
    · rw [OK];omega
    · first|exact hiN|omega
    · first|exact Dx|exact hinv
    · first|exact iM|exact Ir
    · first|exact iO|exact Iv
    · first|exact iJ|exact hlen
    · first|exact nQ|exact ij
    · first|exact oA|omega
   refine gS<|hK k81<|sG (oM 1 V<|.nl)<|gB<|?_
   have OI:HG.l.length≠0:=za
   intro a98 w98 MR
   refine qE (λm a w=>∃(k:Nat) (JK:Bool) (xF:Ls SD) (JG:Ls (Ls Int)) (Xh Qe:Ls Int) (Zt:Ls zC),(k<=HG.l.length)/\(Inv (ya code words Lk R) mode (xF.l.map SD.st) (Zt.l.map zC.out) JK i)/\(JG.l.map (·.l)=(xF.l.map SD.st).map keyOf)/\(Qf (JG.l.map (·.l)) Xh.l Qe.l)/\(xF.l.length=JG.l.length)/\(VG W 111 [code.v,words.v,.int .i64 ((Lk:Nat):Int),.int .i64 ((R:Nat):Int),.int .i64 mode] xF.l Zt.l)/\(Zt.l.length<=16*i+k)/\(zF.l.length<=xF.l.length)/\(nth (xF.l.map SD.st) i=x.st)/\(x∈xF.l)/\(JK=false->∀q,q<k->VL (ya code words Lk R) mode (xF.l.map SD.st) (Zt.l.map zC.out) x.st (nth HG.l q))/\St 124 (λ_=>False) W a w [(5,.pointer (some ⟨eb,0,none⟩)),(8,.int .i64 ((i:Nat):Int)),(9,.pointer (some ⟨x.g,0,none⟩)),(11,HG.v),(12,.int .i64 ((k:Nat):Int))] [.own 3 HG,.at_ x.zd,.at_ x.owner,.at_ x.words,.at_ x.zl,.zx x.g 111 [code.v,words.v,.int .i64 ((Lk:Nat):Int),.int .i64 ((R:Nat):Int),.int .i64 mode,x.zl.v,x.words.v,x.owner.v,x.zd.v,.bool false],.zM eb 52 [xF.v,JG.v,Xh.v,Qe.v,Zt.v,.bool JK],.own 103 xF,.deep 23 JG,.own 3 Xh,.own 3 Qe,.Yd lU,.own 39 Zt,.zM xX 25 [code.v,words.v,.int .i64 ((Lk:Nat):Int),.int .i64 ((R:Nat):Int)],.at_ code,.at_ words]/\m=HG.l.length-k) ⟨_,0,full,zF,keys,heads,before,ends,za,(hinv),(Ir),(Iv),(hlen),(ij),za,(qC _),(hxi),(EV),(λ_ q hq=>absurd hq za),MR.nf ⟨V,V,V,V,V,trivial⟩,V⟩ ?_
   clear MR
   rintro m97 a97 w97 ⟨k,JK,xF,JG,Xh,Qe,Zt,hk,Gk,sr,su,iK,E5,zrM,zjc,cO,zci,sx,uU,zi0⟩
   refine gG uU<|gK λ_ k99=>sK λ_ zgQ=>zn (oM 2 V<|wk zt (aO 0 V) V<|xk _ _ V<|oM 1 V<|.nl)<|?_;clear uU
   rcases G3 (k<HG.l.length) with ⟨Yx,iB⟩|⟨Yx,iB⟩
   ·skip
    refine zn (oG Yx (zG V V) V<|oG Yx (jC V V) V<|oG Yx (zT (r:=5) Jl V V V) V<|oG Yx (xV (i:=6) w5 V V V V) V<|oG Yx (WD V V) V<|QV Yx V<|.nl)<|nK zgQ<|Xl V (λI4=>?_) λI4=>?_
    ·have ziF:JK=false:=(wE _).mp I4
     refine gS<|hK k99<|gK λ_ Om=>gB<|sK λ_ zbH=>zn (oM 1 V<|.nl)<|λpA my YQ=>zL (zD YQ zlK V V V V V (zdY x.g x.zl x.words x.owner x.zd _ _ _ _ _ _ _ (YQ.sh.zx 5 V) (YQ.sh.at 4 V) (YQ.sh.at 3 V) (YQ.sh.at 2 V) (YQ.sh.at 1 V) (by rw [Jh.ao];exact qg) (λi hi=>by have h9:=Jh.ze i hi;omega) Jh.wait ML)) (zg V _) ?_
     rintro a107 znG ⟨_,⟨Pc,rp,eJ,zf0,zgx,zgp,rfl,nS,sg,iF,FM,SZ⟩,TF⟩
     have zll:=(⟨TF,YQ.sh.call SZ (by intro A hA b hb;simp only [z6,qd,or_false] at hA;rcases hA with rfl|rfl|rfl|rfl|rfl|rfl<;>first|exact (hb:False).elim|exact Flat.qh hb|exact dE hb)⟩:St 124 (λ_=>False) W a107 znG _ _)
     clear TF SZ
     clear YQ
     refine gG zll<|zn (oM 1 V<|.nl)<|nK zbH<|sK λ_ uz=>zn (oM 3 V<|jo zt zj (aO 6 V) _ zp V<|wx zj (aO 6 V) zp V<|.nl)<|?_;clear zll
     obtain ⟨t,kk,BC,Dw,hmt⟩:=V1.1 (by rw [<-Xf];exact qb HG.l k za)
     rw [x8] at BC
     have hk3:kk<=3:=rS Dw ((sf.th t (by rw [x8];exact BC)).wait)
     obtain ⟨Wk,hra⟩:=rk nS
     obtain ⟨S4,l3,Fs⟩:=hra t (by rw [Jh.ao];exact BC)
     have zp8:=Jh.pc t BC
     have uW:(nth code.l t).l.length<=400:=by have h9:=zR.len t (by rw [x8];exact BC);rwa [jj BC] at h9
     have OS:kk<=(nth rp t).wait.l.length/\(kk=0->(nth x.zl.l t).pc<(nth code.l t).l.length):=by rw [Fs];rw [jj BC,H2 (by rw [Jh.ao];exact BC)] at Dw;rcases kj Dw with ⟨e9,h9,_⟩|⟨h9,h8,_⟩;exact ⟨za,λ_=>h9⟩;exact ⟨h8,λe=>za⟩
     intro zy7 zvr zlk
     have af:=zlk.same (d:=107) (v' := .int .i64 ((8*t+kk:Nat):Int)) V (by rw [hmt])
     clear zlk
     have J3:=af.zY (L' := [_,_,_,_,_,_,_,_,_,_,_,_,_,_,_,_,_,_,_,_,_,_]) [0,1,2,3,4,5,20,6,7,8,9,10,11,12,13,14,15,16,17,18,19,21] V
     have FK:=J3.sh.yT (Lp:= [_,_,_,_,_,_,_])
     refine zL (zD J3 zlJ V V V V V (zlx _ Pc (8*t+kk) t kk code eJ rp zf0 zgx zgp _ _ _ mode false _ FK za za (by rw [Wk,Jh.ao];exact BC) BC za (by rw [S4];omega) (by rw [Fs];exact Jh.wait t (by rw [Jh.ao];exact BC)) OS.1 (by rw [FM];exact ML.2.2) (by rw [iF];have h9:=Jh.owner;omega) (by rw [Fs,iF,sg];exact Jh.wt t (by rw [Jh.ao];exact BC)) (λe=>by rw [S4,l3,sg,iF,Jh.ze t (by rw [Jh.ao];exact BC),Jh.words,Jh.owner];exact nD zR BC zp8.1 (OS.2 e)))) (zg V _) ?_
     rintro PZ A1 ⟨_,⟨rfl,VR,pW,rP,UU,zag,zuZ,Sy,zbQ,zbN,zbS,ES,ET,Gh⟩,iY⟩
     change Sh _ _ _ [.zM Pc 111 [code.v,words.v,.int .i64 ((Lk:Nat):Int),.int .i64 ((R:Nat):Int),.int .i64 mode,eJ,pW.v,rP.v,UU.v,.bool zag],.own 119 (⟨eJ,VR.map xg.XT⟩:Ls kp),.x5 (xo 3 167 VR),.own 3 pW,.own 3 rP,.own 3 UU,.at_ code] at Gh
     have Vu:St 124 (λ_=>False) W PZ A1 _ [_,_,_,_,_,_,_,_,_,_,_,_,_,_,_,_,_,_,_,_,_,_]:=⟨iY,J3.sh.xP (Lp:= [_,_,_,_,_,_,_]) Gh (by intro A hA b hb;simp only [z6,qd,or_false] at hA;rcases hA with rfl|rfl|rfl|rfl|rfl|rfl|rfl<;>first|exact (hb:False).elim|exact Flat.qh hb|exact .inl ⟨_,xx ..,.inr hb⟩|exact dE hb|exact .inl ⟨_,zy (i:=6) V,.inr hb⟩|exact .inl ⟨_,by simp,.inr hb⟩)⟩
     clear iY Gh
     clear J3
     refine gG Vu<|nK uz<|sG (oM 1 V<|yb 0 XN w5 V V<|.nl)<|?_;clear Vu
     refine Xl V (λQN=>?_) λQN=>?_
     ·skip
      obtain ⟨hya,_⟩:=ra (x:=x) (z:=x) (Zb:=VR) BC Jh.ao nS sg iF FM Sy
      have hfy:(stepT (ya code words Lk R) mode x.st t kk).zq=true:=by rw [<-hya,<-ET];assumption
      have hyps:UU.l=(stepT (ya code words Lk R) mode x.st t kk).zd:=by rw [ES,hya]
      refine gL<|zn (oM 2 V<|yb 0 Zr zV V V<|oV (xW (cs:= [.int .i64 1,(.slice none 0 0),UU.v]) V V (λw h=>by obtain ⟨zzd,n116,zyE,(zsK:UU.v=_)⟩:=((h.own 5 V)).form;rw [zsK];kernel_rfl)) V<|.nl)<|λMt tz UB=>?_
      have YP:=UB.Y7 (A:= .at_ (⟨.slice none 0 0,[]⟩:Ls Int)) (zav _) (λb hb=>hb) (λb hb=>(Sk hb).elim)
      clear UB
      have zcN:=YP.sh.NI 6 V
      have ae:St 124 (λ_=>False) W Mt tz _ _:=⟨YP.fr,YP.sh.share 6 V⟩
      clear YP
      have ab:=ae.zY (L' := [_,_,_,_,_,_,_,_,_,_,_,_,_,_,_,_,_,_,_,_,_,_,_]) [14,20,0,6,1,2,3,4,5,7,8,9,10,11,12,13,15,16,17,18,19,21,22] V
      have zii:=ab.sh.yT (Lp:= [_,_,_,_])
      refine zL (zD ab LY V V V V V (mU _ _ (⟨1,(⟨.slice none 0 0,[]⟩:Ls Int),UU⟩:zC) Zt _ _ _ _ _ _ zii za)) (zg V _) ?_
      rintro PY Nd ⟨_,⟨rfl,LA,nT,iv⟩,iW⟩
      have Gs:St 124 (λ_=>False) W PY Nd _ [_,_,_,_,_,_,_,_,_,_,_,_,_,_,_,_,_,_,_,_,_,_,_]:=⟨iW,ab.sh.xP (Lp:= [_,_,_,_]) iv (by intro A hA b hb;simp only [z6,qd,or_false] at hA;rcases hA with rfl|rfl|rfl|rfl<;>first|exact (hb:False).elim|exact Flat.qh hb|exact .inl ⟨_,xx ..,.inr hb⟩|exact (nT.rd hb).elim (λh=> .inl ⟨_,zy (i:=1) V,.inr h⟩) (λh=>h.elim (λh=> .inl ⟨_,zy (i:=2) V,.inr h⟩) (λh=> .inl ⟨_,zy (i:=3) V,.inr h⟩))|exact .inl ⟨_,by simp,.inr hb⟩)⟩
      clear iW iv
      clear ab
      refine gG Gs<|nK Om<|gF [5,8,9,11,12] V<|gL<|zn (oM 1 V<|yl _ 1 zp V<|oM 1 V<|.nl)<|nN<|?_;clear Gs
      have dT:=nT.sorted Gk.sorted
      have It:=Gk.pq (.zq (hinv.reach _ hxs) (by rw [x8];exact BC) Dw hfy) dT.1 (by intro y;rw [dT.2 y];simp only [zC.out,hyps])
      obtain ⟨zb9,zjb⟩:=E5.put nT (λb hb=>hb.elim (λhb=>(Sk hb).elim) (λhb=>(zcN b hb).elim (λh=>h.elim) id))
      have Iq:=sr;have Iu:=su;have Ii:=iK;have zc2:=zjc;have hxM:=cO;have zch:=zci
      have zdj:LA.l.length<=16*i+(k+1):=za
      have ou:JK=false->∀q,q<k+1->VL (ya code words Lk R) mode (xF.l.map SD.st) (LA.l.map zC.out) x.st (nth HG.l q):=by
       intro hf q hq;rcases yq q k with h9|h9;exact (sx hf q h9).mono (λ_ h=>h) (λy hy=>(dT.2 y).2 (.inl hy));obtain rfl:q=k:=za;exact VL.of hmt hk3 (by unfold wj;rw [if_pos hfy];exact (dT.2 _).2 (.inr (by simp only [zC.out,hyps])))
      intro zeQ zaF oO
      refine zH ⟨_,?_,(k+1),JK,xF,JG,Xh,Qe,LA,?_,?_,?_,?_,?_,?_,?_,?_,?_,?_,?_,oO.wN ⟨V,V,V,V,V,trivial⟩ [10,11,12,13,14,15,0,16,17,18,19,20,1,21,9,22] V,V⟩
      · rw [zi0];first|omega|(simp only [qf];omega)
      · omega
      · exact It
      · exact Iq
      · exact Iu
      · exact Ii
      · exact zb9
      · exact zdj
      · exact zc2
      · exact hxM
      · exact zch
      · exact ou
     refine gL<|zn (oM 2 V<|.nl)<|?_
     have zde:zag=false:=zc
     intro zl5 zfU aa
     rw [zde] at aa
     obtain ⟨KI,Gc⟩:∃x,x=(⟨Pc,111,[code.v,words.v,.int .i64 ((Lk:Nat):Int),.int .i64 ((R:Nat):Int),.int .i64 mode],⟨eJ,VR⟩,pW,rP,UU,false⟩:SD):=⟨_,V⟩
     have ow:=(Sh.freeze (hd:= [code.v,words.v,.int .i64 ((Lk:Nat):Int),.int .i64 ((R:Nat):Int),.int .i64 mode]) (rows:=VR) (words:=pW) (owner:=rP) (zd:=UU) (vt:=eJ) aa.sh)
     rw [<-Gc] at ow
     have zgT:St 124 (λ_=>False) W zl5 zfU _ [.Yd KI,.at_ code,.own 3 HG,.at_ x.zd,.at_ x.owner,.at_ x.words,.at_ x.zl,.zx x.g 111 [code.v,words.v,.int .i64 ((Lk:Nat):Int),.int .i64 ((R:Nat):Int),.int .i64 mode,x.zl.v,x.words.v,x.owner.v,x.zd.v,.bool false],.zM eb 52 [xF.v,JG.v,Xh.v,Qe.v,Zt.v,.bool JK],.own 103 xF,.deep 23 JG,.own 3 Xh,.own 3 Qe,.Yd lU,.own 39 Zt,.zM xX 25 [code.v,words.v,.int .i64 ((Lk:Nat):Int),.int .i64 ((R:Nat):Int)],.at_ words]:=⟨aa.fr,ow.1⟩
     clear aa
     have zjv:Pc=KI.g:=by rw [Gc]
     obtain ⟨hya,hyb⟩:=ra (x:=x) (z:=KI) (Zb:=VR) BC Jh.ao nS sg iF FM Sy
     have nP:KI.st=x.st.yt t (stepT (ya code words Lk R) mode x.st t kk):=by rw [<-hya];exact hyb (by rw [Gc]) zbQ (by rw [Gc];exact zbN) (by rw [Gc];exact zbS) (by rw [Gc];exact ES)
     have hfy:(stepT (ya code words Lk R) mode x.st t kk).zq=false:=by rw [<-hya,<-ET];assumption
     have Fl:Reach (ya code words Lk R) mode KI.st:=by rw [nP];exact .step (hinv.reach _ hxs) (by rw [x8];exact BC) Dw hfy
     have Dg:=(Fl.wf zR).toX
     have zcm:KI.st.zd.length<=2*xF.l.length:=by rw [nP];have h9:=D7 mode t (nth (ya code words Lk R).code t) kk (x.st.view t);have h8:(x.st.view t).zd.length=x.zd.l.length:=rfl;have h7:(x.st.yt t (stepT (ya code words Lk R) mode x.st t kk)).zd=(stepT (ya code words Lk R) mode x.st t kk).zd:=rfl;rw [h7];unfold stepT;omega
     have zcs:KI.zd.l.length<=100000000:=by have h9:KI.st.zd.length=KI.zd.l.length:=rfl;have h8:=Gk.len;simp at h8;omega
     have oC:KI.hd= [code.v,words.v,.int .i64 ((Lk:Nat):Int),.int .i64 ((R:Nat):Int),.int .i64 mode]/\KI.E=111/\KI.zq=false/\∀b,zz.on KI b->W.heap.size<=b:=⟨by rw [Gc],by rw [Gc],by rw [Gc],λb hb=>(ow.2 b hb).elim (λh=>h.elim) id⟩
     have Ww:=zgT.zY (L' := [_,_,_,_,_,_,_,_,_,_,_,_,_,_,_,_,_]) [8,9,10,11,12,0,1,2,3,4,5,6,7,13,14,15,16] V
     have zif:=Ww.sh.yT (Lp:= [_,_,_,_,_,_])
     refine zL (zD Ww zam V V V V V (by have h9:=Sd _ eb KI xF JG Xh Qe Zt.v JK _ _ _ _ _ _ zif su iK (by have h9:=Gk.len;simp at h9;omega) oC.1 oC.2.1 (by rw [Dg.ao];exact qg) (λi hi=>by have h9:=Dg.ze i hi;omega) Dg.wait (by have h9:=Dg.words;have h8:=Dg.owner;have h7:=zcs;omega);rw [<-zjv] at h9;exact h9)) (zg V _) ?_
     rintro zeP zaE ⟨_,⟨rfl,au,zgD,zj6,zlE,zae,ot,SU⟩,Tz⟩
     have DN:St 124 (λ_=>False) W zeP zaE _ [_,_,_,_,_,_,_,_,_,_,_,_,_,_,_,_,_]:=⟨Tz,Ww.sh.xP (Lp:= [_,_,_,_,_,_]) SU (by intro A hA b hb;simp only [z6,qd,or_false] at hA;rcases hA with rfl|rfl|rfl|rfl|rfl|rfl<;>first|exact (hb:False).elim|exact Flat.qh hb|exact .inl ⟨_,xx ..,.inr hb⟩|exact (ot.rd hb).elim (λh=> .inl ⟨_,zy (i:=1) V,.inr h⟩) (λh=> .inl ⟨_,zy (i:=5) V,.inr h⟩)|exact .inl ⟨_,by simp,.inr hb⟩)⟩
     clear Tz SU
     clear Ww
     refine gG DN<|nK Om<|gF [5,8,9,11,12] V<|gL<|zn (oM 1 V<|yl _ 1 zp V<|oM 1 V<|.nl)<|nN<|?_;clear DN
     obtain ⟨It,Iq,Ii,ziY,zhi,hcM⟩:=Oc zR ot sr iK Gk zc za Fl zcm
     have Iu:=aR ot
     have zb9:VG W 111 [code.v,words.v,.int .i64 ((Lk:Nat):Int),.int .i64 ((R:Nat):Int),.int .i64 mode] au.l Zt.l:=by rcases hcM with e9|e9<;>rw [e9];exact E5;exact E5.more oC
     have zdj:Zt.l.length<=16*i+(k+1):=za
     have zc2:zF.l.length<=au.l.length:=by rcases hcM with e9|e9<;>rw [e9];exact zjc;simp;omega
     have hxM:nth (au.l.map SD.st) i=x.st:=by rcases hcM with e9|e9<;>rw [e9];exact cO;rw [yi,KZ _ _ _ (by simp;omega)];exact cO
     have zch:x∈au.l:=by rcases hcM with e9|e9<;>rw [e9];exact zci;simp [zci]
     have ou:zae=false->∀q,q<k+1->VL (ya code words Lk R) mode (au.l.map SD.st) (Zt.l.map zC.out) x.st (nth HG.l q):=by
      intro hf q hq;rcases yq q k with h9|h9;exact (sx zc q h9).mono zhi (λ_ h=>h);obtain rfl:q=k:=za;exact VL.of hmt hk3 (by unfold wj;rw [if_neg (by rw [hfy];decide)];rw [<-nP];exact ziY)
     intro zl3 zfS Pa
     refine zH ⟨_,?_,(k+1),zae,au,zgD,zj6,zlE,Zt,?_,?_,?_,?_,?_,?_,?_,?_,?_,?_,?_,Pa.wN ⟨V,V,V,V,V,trivial⟩ [7,8,9,10,11,12,0,1,2,3,4,13,14,15,6,16] V,V⟩
     · rw [zi0];first|omega|(simp only [qf];omega)
     · omega
     · exact It
     · exact Iq
     · exact Iu
     · exact Ii
     · exact zb9
     · exact zdj
     · exact zc2
     · exact hxM
     · exact zch
     · exact ou
    have ziF:JK=true:=(JS _).mp I4
    refine gX<|hK EI<|gL<|zn (oM 1 V<|yl _ 1 zp V<|oM 1 V<|.nl)<|nN<|?_
    have Dx:=Gk.lB (by simp;omega) (by rw [cO,<-GG Jh.ao];assumption) (by rw [cO,<-Xf];intro e9;rw [e9] at OI;simp at OI) (by rw [cO];exact sf) (λhf q hq=>by rw [cO] at hq⊢;rw [<-Xf] at hq⊢;exact sx hf q (by first|omega|exact absurd (hf.symm.trans (show _=true from zc)) XQ))
    have iM:=sr;have iO:=su;have iJ:=iK;have nQ:=E5
    have oA:Zt.l.length<=16*(i+1):=za
    have hiN:i+1<=xF.l.length:=za
    have ziC:xF.l.length<=4001:=by have h9:=Gk.len;simpa using h9
    intro a130 znD O9
    refine zH ⟨_,?_,(i+1),JK,xF,JG,Xh,Qe,Zt,?_,?_,?_,?_,?_,?_,?_,O9.wN ⟨V,V,trivial⟩ [6,7,8,9,10,11,12,13,14,15] V,V⟩
    · rw [OK];omega
    · first|exact hiN|omega
    · first|exact Dx|exact hinv
    · first|exact iM|exact Ir
    · first|exact iO|exact Iv
    · first|exact iJ|exact hlen
    · first|exact nQ|exact ij
    · first|exact oA|omega
   refine zn (Zy 5 Yx V V<|Zx Yx V<|.nl)<|nK zgQ<|Q1 V V<|gX<|hK EI<|gL<|zn (oM 1 V<|yl _ 1 zp V<|oM 1 V<|.nl)<|nN<|?_
   have Dx:=Gk.lB (by simp;omega) (by rw [cO,<-GG Jh.ao];assumption) (by rw [cO,<-Xf];intro e9;rw [e9] at OI;simp at OI) (by rw [cO];exact sf) (λhf q hq=>by rw [cO] at hq⊢;rw [<-Xf] at hq⊢;exact sx hf q (by first|omega|exact absurd (hf.symm.trans (show _=true from zc)) XQ))
   have iM:=sr;have iO:=su;have iJ:=iK;have nQ:=E5
   have oA:Zt.l.length<=16*(i+1):=za
   have hiN:i+1<=xF.l.length:=za
   have ziC:xF.l.length<=4001:=by have h9:=Gk.len;simpa using h9
   intro a131 znC zdK
   refine zH ⟨_,?_,(i+1),JK,xF,JG,Xh,Qe,Zt,?_,?_,?_,?_,?_,?_,?_,zdK.wN ⟨V,V,trivial⟩ [6,7,8,9,10,11,12,13,14,15] V,V⟩
   · rw [OK];omega
   · first|exact hiN|omega
   · first|exact Dx|exact hinv
   · first|exact iM|exact Ir
   · first|exact iO|exact Iv
   · first|exact iJ|exact hlen
   · first|exact nQ|exact ij
   · first|exact oA|omega
  have zqQ:full=true:=(JS _).mp Wp
  refine gX<|hK k43<|sG (oM 2 V<|.nl)<|gR<|λPU Nb DM=>zu (fn:=Tryz.f26) (t:=4) V DM V<|⟨eb,full,_,_,_,zF,ends,V,hinv.x5 (by first|exact .inl zc|exact .inr (by simp;omega)),?_,(by have h9:=hinv.len;simp at h9;omega),λo ho b hb=>ij.en o ho b hb,⟨?_,(by have h9:=hinv.len;simpa using h9),ij⟩,(DM.sh.zY [0,1,6] V)⟩
  · intro hf;first|exact absurd (hf.symm.trans (show _=true from zc)) XQ|(refine ⟨hinv.sorted,?_⟩;rw [hf] at hinv;exact hinv.all (by simp;omega))
  · intro hf;first|exact absurd (hf.symm.trans (show _=true from zc)) XQ|(rw [hf] at hinv;exact ⟨hinv.nd,hinv.zF (by simp;omega)⟩)
 refine zn (Zy 5 Zm V V<|Zx Zm V<|.nl)<|nK k48<|Q1 V V<|gX<|hK k43<|sG (oM 2 V<|.nl)<|gR<|λzl2 zfR Ld=>zu (fn:=Tryz.f26) (t:=4) V Ld V<|⟨eb,full,_,_,_,zF,ends,V,hinv.x5 (by first|exact .inl zc|exact .inr (by simp;omega)),?_,(by have h9:=hinv.len;simp at h9;omega),λo ho b hb=>ij.en o ho b hb,⟨?_,(by have h9:=hinv.len;simpa using h9),ij⟩,(Ld.sh.zY [0,1,6] V)⟩
 · intro hf;first|exact absurd (hf.symm.trans (show _=true from zc)) XQ|(refine ⟨hinv.sorted,?_⟩;rw [hf] at hinv;exact hinv.all (by simp;omega))
 · intro hf;first|exact absurd (hf.symm.trans (show _=true from zc)) XQ|(rw [hf] at hinv;exact ⟨hinv.nd,hinv.zF (by simp;omega)⟩)
theorem zsW (code:Ls (Ls Ins))(words:Ls Int)(Lk R:Nat)(mode:Int)(W:World)(qY:code.At W)(yo:words.At W)(zR:yJ (ya code words Lk R)):
  zP Tryz.prog 26 [.agg #[code.v,words.v,.int .i64 ((Lk:Nat):Int),.int .i64 ((R:Nat):Int)],.int .i64 mode] W (λv w' =>∃(g:Nat) (full:Bool) (sv kv hv bv:Value) (ends:Ls zC),v= .pointer (some ⟨g,0,none⟩)/\(full=true↔pK (ya code words Lk R) mode)/\(full=false->j0 (ends.l.map zC.out)/\∀o,o∈ends.l.map zC.out↔jq (ya code words Lk R) mode o)/\ends.l.length<=70000/\(∀o∈ends.l,∀b,zz.on o b->W.heap.size<=b)/\qM W w' [.zM g 52 [sv,kv,hv,bv,ends.v,.bool full],.own 39 ends]):=by
 refine zP.mono (zsV code words Lk R mode W qY yo zR) ?_
 rintro v w' ⟨g,full,kv,hv,bv,zF,ends,rfl,h1,h2,h3,h4,_,hs⟩
 exact ⟨g,full,_,kv,hv,bv,ends,V,h1,h2,h3,h4,hs.zY [0,2] V⟩
def DX (b:Bool)(x:Ins):List Ins:=if b=true then [x,⟨12,0,0,0⟩] else [x]
def Q4 (w:Nat->Bool)(i:Nat)(x:Ins):List Ins:=DX (w i) x
theorem Ln (b:Bool)(x:Ins):(DX b x).length<=2:=by unfold DX;split<;>simp
theorem lA {b:Bool}{x y:Ins}(h:y∈DX b x):y=x\/y=⟨12,0,0,0⟩:=by
 unfold DX at h
 split at h
 ·simpa using h
 ·exact .inl (by simpa using h)
theorem Pk (w:Nat->Bool)(code:List Ins)(hj:Ry code):ztd (Q4 w) code:=by
 intro i hi k hk
 have hm:=lA (qb _ _ hk)
 have:=hj i hi
 have e' :Q4 w i (nth code i)=DX (w i) (nth code i):=rfl
 rw [e']
 rcases hm with e|e<;>rw [e]
 ·refine ⟨?_,?_⟩
  ·by_cases h:(nth code i).op=14
   ·exact .inr (.inr (this.1 h))
   ·exact .inl h
  ·by_cases h:(nth code i).op=15
   ·exact .inr (.inr (this.2 h))
   ·exact .inl h
 ·exact ⟨.inl zf,.inl zf⟩
theorem Lm (w:Nat->Bool)(code:List Ins)(hj:Ry code)(bc:List (Ls Ins))(hb:bc.map (·.l)=wR (Q4 w) code):bM bc code:=by
 intro i hi k hk
 have hl:bc.length=code.length:=by have:=congrArg List.length hb;simpa [wR] using this
 have e:(nth bc i).l=Q4 w i (nth code i):=by
  rw [<-zI (λx:Ls Ins=>x.l) bc i za,hb,GN _ _ _ hi]
 rw [e] at hk⊢
 exact Pk w code hj i hi k hk
def JD (w:Nat->Bool)(code:List Ins):List Ins:=CS (wR (Q4 w) code) code
theorem Rl (w:Nat->Bool)(code:List Ins):Ul (Q4 w) code=JD w code:=by
 refine um _ _ λi hi x hx xr=>?_
 rcases lA hx with rfl|rfl
 ·omega
 ·exact absurd xr zf
theorem eC {w w2:Nat->Bool}{code:List Ins}(h:∀i,i<code.length->w i=w2 i):JD w code=JD w2 code:=by
 have e:wR (Q4 w) code=wR (Q4 w2) code:=by
  unfold wR
  apply bG
  intro i hi
  simp only [Q4]
  rw [h i (by simpa using hi)]
 unfold JD
 rw [e]
def zsC (code:Ls (Ls Ins))(t i:Nat):Bool:=kb (nth (nth code.l t).l i).op
theorem LM {α:Type}[Inhabited α]{c:Ls (Ls α)}{n:Nat}{f:Nat->List α}(h:c.l.map (·.l)=(List.range n).map f):c.l.length=n:=by
 have:=congrArg List.length h
 simpa using this
theorem s5 {c:Ls (Ls Bool)}{n:Nat}{f:Nat->List Bool}(h:c.l.map (·.l)=(List.range n).map f)(j:Nat)(hj:j<n):(nth c.l j).l=f j:=by
 have hl:=LM h
 rw [<-zI (λx:Ls Bool=>x.l) c.l j za,h,zI _ _ _ (by simpa using hj)]
 simp [nth,hj]
theorem zlt (code:List Ins)(rl:List Bool)(hl:rl.length=code.length)(h:∀j,j<code.length->nth rl j=kb (nth code j).op):rl=code.map (λx=>kb x.op):=by
 apply gi
 ·simpa using hl
 ·intro i hi
  rw [h i za,zI _ _ _ za]
theorem YU (code:Ls (Ls Ins))(words:Ls Int)(zm ze:Int)(wr:Ls (Ls Bool))(W:World)(qY:code.At W)(yo:words.At W)(zR:yJ (yH code words zm ze))(hwr:wr.At W)(ZU:wr.l.length=code.l.length)(Df:∀t,t<code.l.length->(nth wr.l t).l.length=(nth code.l t).l.length):
    zP Tryz.prog 37 [.agg #[code.v,words.v,.int .i64 zm,.int .i64 ze],wr.v] W (λv w' =>∃(c:Ls (Ls Ins)) (u:Ls Int),v= .agg #[c.v,u.v,.int .i64 zm,.int .i64 ze]/\c.l.map (·.l)=(List.range code.l.length).map (λt=>JD (nth (nth wr.l t).l) (nth code.l t).l)/\u.l=words.l/\qM W w' [.deep 33 c,.own 3 u]):=by
 have hz:=Yg zR
 obtain ⟨iL,AE,hl3,zrj,hl5,hl6,hl7⟩:=C8 zR
 refine gen Tryz.func37 Tryz.ntmps37 (qM.ext (by intro A hA;simp at hA;rcases hA with rfl|rfl|rfl;exact qY;exact yo;exact hwr) (by intro A hA b hb;simp at hA;rcases hA with rfl|rfl|rfl<;>exact hb):Sh (λ_=>False) W W [.at_ code,.at_ words,.at_ wr]) V λjP z7=>gG z7<|sK λ_ kz=>XV V V λxX=>Q2 qu V λgk=>nK kz<|sK λ_ Xp=>zn (qB Wb V<|qw 1 zj V V<|qB du V<|qw 1 zj V V<|oV (q8 (cs:= [(.slice none 0 0),(.slice none 0 0),.int .i64 zm,.int .i64 ze]) V V zb) V<|.nl)<|Q2 qu V λAJ=>YK 0 qu V V V<|nK Xp<|sK λ_ Us=>xb (λ_ _ h_=>Xc (α:=Int) h_ zt zj V V V) V λNh=>zn (qB Gz V<|qw 3 zV V V<|.nl)<|xb (λ_ _ h_=>yu (r:=0) (rm:=5) (s:=(⟨Nh,[]⟩:Ls Int)) (m:=words) h_ zt zj V V V V V V V (λw h=>(h.at 5 V)) (λb hb=> .inr hb) (λq hq b hb=> .inr ⟨q,hq,hb⟩) V V V inferInstance (show (([]).length+words.l.length)*8<=140737488355328/\([]).length+words.l.length<=140737488355328 from zp) V V) V λmB=>zn (qB Gz V<|.nl)<|dY 1 zV V (aO 0 V) V<|nK Us<|gK λ_ cH=>sG (oM 1 V<|.nl)<|gB<|λa25 tw Wu=>?_;clear z7
 have wJ:=Wu.VY (α:=Ls Ins) 33
 clear Wu
 refine qE (λm a w=>∃(t:Nat) (qs:List (Ls Ins)) (vq:Value),(t<=code.l.length)/\(qs.map (·.l)=(List.range t).map (λt=>JD (nth (nth wr.l t).l) (nth code.l t).l))/\(qs.length=t)/\St 76 (λ_=>False) W a w [(1,wr.v),(2,.pointer (some ⟨xX,0,none⟩)),(4,.pointer (some ⟨gk,0,none⟩)),(5,.pointer (some ⟨AJ,0,none⟩)),(6,.int .i64 ((t:Nat):Int))] [.own 3 (⟨mB,words.l⟩:Ls Int),.zM AJ 25 [vq,mB,.int .i64 zm,.int .i64 ze],.zM gk 25 [(.slice none 0 0),(.slice none 0 0),.int .i64 0,.int .i64 0],.zM xX 25 [code.v,words.v,.int .i64 zm,.int .i64 ze],.at_ code,.at_ words,.at_ wr,.deep 33 (⟨vq,qs⟩:Ls (Ls Ins))]/\m=code.l.length-t) ⟨_,0,[],(.slice none 0 0),za,(V),(V),wJ.wN ⟨V,V,V,V,V,trivial⟩ [1,2,3,4,5,6,7,0] V,V⟩ ?_
 clear wJ
 rintro m23 a23 tx ⟨t,qs,vq,ht,hqs,BU,kq,iH⟩
 refine gG kq<|gK λ_ De=>sK λ_ Rc=>y4 (aA 4 V) λzrl=>zn (oM 1 V<|qB jZ V<|qw 3 ZE V V<|wk vp (aA 4 V) V<|xk _ _ V<|.nl)<|nK Rc<|?_;clear kq
 refine gcd V (λWr ob=>?_) λWr ob=>?_
 ·skip
  refine gS<|hK De<|gK λ_ HH=>gB<|sG (oM 1 V<|.nl)<|gK λ_ sb=>sG (oM 1 V<|.nl)<|gB<|λpy lV QJ=>?_
  have Yz:=QJ.VY (α:=Ls Ins) 33
  clear QJ
  obtain ⟨hl4,hjt⟩:=aI zR t za
  have ic:=Df t za
  refine qE (λm a w=>∃(j:Nat) (bc:List (Ls Ins)) (vb:Value),(j<=(nth code.l t).l.length)/\(bc.map (·.l)=(List.range j).map (λi=>Q4 (nth (nth wr.l t).l) i (nth (nth code.l t).l i)))/\(bc.length=j)/\St 76 (λ_=>False) W a w [(1,wr.v),(2,.pointer (some ⟨xX,0,none⟩)),(4,.pointer (some ⟨gk,0,none⟩)),(5,.pointer (some ⟨AJ,0,none⟩)),(6,.int .i64 ((t:Nat):Int)),(7,vb),(8,.int .i64 ((j:Nat):Int))] [.own 3 (⟨mB,words.l⟩:Ls Int),.zM AJ 25 [vq,mB,.int .i64 zm,.int .i64 ze],.zM gk 25 [(.slice none 0 0),(.slice none 0 0),.int .i64 0,.int .i64 0],.zM xX 25 [code.v,words.v,.int .i64 zm,.int .i64 ze],.at_ code,.at_ words,.at_ wr,.deep 33 (⟨vq,qs⟩:Ls (Ls Ins)),.deep 33 (⟨vb,bc⟩:Ls (Ls Ins))]/\m=(nth code.l t).l.length-j) ⟨_,0,[],(.slice none 0 0),za,(V),(V),Yz.wN ⟨V,V,V,V,V,V,V,trivial⟩ [1,2,3,4,5,6,7,8,0] V,V⟩ ?_
  clear Yz
  rintro m34 pz mu ⟨j,bc,vb,hj,T8,O2,YA,OL⟩
  refine gG YA<|gK λ_ Dd=>sK λ_ dP=>y4 (λw h=>((h.at 4 V).nth t (show t<code.l.length from za))) λ(zjg:((nth code.l t).l).length<=140737488355328)=>zn (oM 1 V<|qB jZ V<|qw 3 ZE V V<|oM 1 V<|jo vp jN (aA 4 V) _ zp V<|Z1 ((nth code.l t).v) jN (aA 4 V) zp V<|wk (n:=((nth code.l t).l).length) yZ (λw h=>((h.at 4 V).nth t (show t<code.l.length from za))) V<|xk _ _ V<|.nl)<|nK dP<|?_;clear YA
  refine gcd V (λoH zcA=>?_) λoH zcA=>?_
  ·skip
   refine gS<|hK Dd<|gK λ_ hU=>gB<|sK λ_ Ol=>zn (qB jZ V<|qw 3 ZE V V<|oM 1 V<|jo vp jN (aA 4 V) _ zp V<|Z1 ((nth code.l t).v) jN (aA 4 V) zp V<|oM 1 V<|jo yZ qG (λw h=>((h.at 4 V).nth t (show t<code.l.length from za))) _ zp V<|Xz [.int .i64 ((nth ((nth code.l t).l) j).op),.int .i64 ((nth ((nth code.l t).l) j).a),.int .i64 ((nth ((nth code.l t).l) j).b),.int .i64 ((nth ((nth code.l t).l) j).c)] qG (λw h=>((h.at 4 V).nth t (show t<code.l.length from za))) zp V<|.nl)<|xb (λ_ _ h_=>qF (n:=1) (cs:= [.int .i64 ((nth ((nth code.l t).l) j).op),.int .i64 ((nth ((nth code.l t).l) j).a),.int .i64 ((nth ((nth code.l t).l) j).b),.int .i64 ((nth ((nth code.l t).l) j).c)]) ([nth ((nth code.l t).l) j]:List Ins) h_ yZ qG V V V zf V zb V (λq hq w h=>Flat.inner _ _) (λq hq b hb=>(Flat.on _ _ hb).elim) V V) V λHB=>zn (oM 1 V<|.nl)<|nK Ol<|gK λ_ nB=>sK λ_ k45=>y4 (aA 7 V) λzc3=>y4 (λw h=>((h.at 7 V).nth t (show t<wr.l.length from za))) λ(zrg:((nth wr.l t).l).length<=140737488355328)=>zn (oM 2 V<|jo Cu bZ (aA 7 V) _ zp V<|Z1 ((nth wr.l t).v) bZ (aA 7 V) zp V<|oM 1 V<|jo b8 w5 (λw h=>((h.at 7 V).nth t (show t<wr.l.length from za))) _ zp V<|Z1 (.bool (nth ((nth wr.l t).l) j)) w5 (λw h=>((h.at 7 V).nth t (show t<wr.l.length from za))) zp V<|.nl)<|nK k45<|gF [1,2,4,5,6,7,8,9,53] V<|Xl V (λzdu=>?_) λzdu=>?_
   ·skip
    refine gL<|zn (oM 1 V<|oV (q8 (cs:= [.int .i64 12,.int .i64 0,.int .i64 0,.int .i64 0]) V V zb) V<|.nl)<|xb (λ_ _ h_=>qF (n:=1) (cs:= [.int .i64 12,.int .i64 0,.int .i64 0,.int .i64 0]) ([(⟨12,0,0,0⟩:Ins)]:List Ins) h_ yZ qG V V V zf V zb V (λq hq w h=>Flat.inner _ _) (λq hq b hb=>(Flat.on _ _ hb).elim) V V) V λv49=>xb (λ_ _ h_=>yu (r:=1) (rm:=0) (s:=(⟨HB,[nth ((nth code.l t).l) j]⟩:Ls Ins)) (m:=(⟨v49,[(⟨12,0,0,0⟩:Ins)]⟩:Ls Ins)) h_ yZ qG V V V V V V V (λw h=>(h.own 0 V)) (λb hb=>qt (h_.sh.ok _ (zy (i:=0) V)) hb) (λq hq b hb=>⟨q,hq,hb⟩) V V V inferInstance (show (([nth ((nth code.l t).l) j]).length+([(⟨12,0,0,0⟩:Ins)]).length)*32<=140737488355328/\([nth ((nth code.l t).l) j]).length+([(⟨12,0,0,0⟩:Ins)]).length<=140737488355328 from zp) V V) V λv50=>zn (oM 1 V<|.nl)<|nK nB<|gL<|zn (oM 2 V<|.nl)<|gO [1,0,2,3,4,5,6,7,8,9,10] V<|xb (λ_ _ h_=>RA (E:=0) (x:=(⟨v50,([nth ((nth code.l t).l) j])++([(⟨12,0,0,0⟩:Ins)])⟩:Ls Ins)) h_ vp jN V V V ((h_.sh.own 0 V)) (λb hb=>(qt (h_.sh.ok _ (zy (i:=0) V)) hb).elim (λh=>h) (λh=>Flat.qh h)) (λb hb=>Flat.qh hb) V V) V λv52=>gO [10,0,1,2,3,4,5,6,7,8,9] V<|xb (λ_ _ h_=>RB (s:=(⟨vb,bc⟩:Ls (Ls Ins))) (m:=(⟨v52,[(⟨v50,([nth ((nth code.l t).l) j])++([(⟨12,0,0,0⟩:Ins)])⟩:Ls Ins)]⟩:Ls (Ls Ins))) h_ vp jN V V V V V V V inferInstance (show (bc.length+([(⟨v50,([nth ((nth code.l t).l) j])++([(⟨12,0,0,0⟩:Ins)])⟩:Ls Ins)]).length)*24<=140737488355328/\bc.length+([(⟨v50,([nth ((nth code.l t).l) j])++([(⟨12,0,0,0⟩:Ins)])⟩:Ls Ins)]).length<=140737488355328 from zp) V V) V λv54=>zn (oM 1 V<|.nl)<|nK hU<|gL<|zn (oM 1 V<|yl _ 1 zp V<|oM 1 V<|.nl)<|nN<|λa55 P6 GZ=>zH ⟨_,?_,j+1,bc++([(⟨v50,([nth ((nth code.l t).l) j])++([(⟨12,0,0,0⟩:Ins)])⟩:Ls Ins)]),v54,?_,?_,?_,GZ.wN ⟨V,V,V,V,V,V,V,trivial⟩ [2,3,4,5,6,7,8,9,0] V,V⟩
    · rw [OL];first|omega|(simp only [qf];omega)
    · omega
    · rw [yi,T8,YG,yi];congr 1;simp only [xA,wY];congr 1;unfold Q4 DX;(repeat' split)<;>first|rfl|simp_all
    · simp [O2]
   refine gS<|hK nB<|gL<|zn (oM 2 V<|.nl)<|xb (λ_ _ h_=>RA (E:=0) (x:=(⟨HB,[nth ((nth code.l t).l) j]⟩:Ls Ins)) h_ vp jN V V V ((h_.sh.own 0 V)) (λb hb=>(qt (h_.sh.ok _ (zy (i:=0) V)) hb).elim (λh=>h) (λh=>Flat.qh h)) (λb hb=>Flat.qh hb) V V) V λv56=>gO [9,0,1,2,3,4,5,6,7,8] V<|xb (λ_ _ h_=>RB (s:=(⟨vb,bc⟩:Ls (Ls Ins))) (m:=(⟨v56,[(⟨HB,[nth ((nth code.l t).l) j]⟩:Ls Ins)]⟩:Ls (Ls Ins))) h_ vp jN V V V V V V V inferInstance (show (bc.length+([(⟨HB,[nth ((nth code.l t).l) j]⟩:Ls Ins)]).length)*24<=140737488355328/\bc.length+([(⟨HB,[nth ((nth code.l t).l) j]⟩:Ls Ins)]).length<=140737488355328 from zp) V V) V λv58=>zn (oM 1 V<|.nl)<|nK hU<|gL<|zn (oM 1 V<|yl _ 1 zp V<|oM 1 V<|.nl)<|nN<|λa59 w59 Rh=>zH ⟨_,?_,j+1,bc++([(⟨HB,[nth ((nth code.l t).l) j]⟩:Ls Ins)]),v58,?_,?_,?_,Rh.wN ⟨V,V,V,V,V,V,V,trivial⟩ [1,2,3,4,5,6,7,8,0] V,V⟩
   · rw [OL];first|omega|(simp only [qf];omega)
   · omega
   · rw [yi,T8,YG,yi];congr 1;simp only [xA,wY];congr 1;unfold Q4 DX;(repeat' split)<;>first|rfl|simp_all
   · simp [O2]
  refine gX<|hK sb<|sK λ_ k60=>zn (oM 1 V<|qB jZ V<|qw 3 ZE V V<|oM 1 V<|jo vp jN (aA 4 V) _ zp V<|Z1 ((nth code.l t).v) jN (aA 4 V) zp V<|.nl)<|gC (λ_ _ h_=>gQ h_ zlH V (za9 (⟨vb,bc⟩:Ls (Ls Ins)) (nth code.l t) _ (h_.sh.deep 8 V) ((h_.sh.at 4 V).nth t (show t<code.l.length from za)) (show bc.length=(nth code.l t).l.length from za) (show (nth code.l t).l.length<=5000 from za) (show∀i,i<(nth code.l t).l.length->(nth bc i).l.length<=8 from λi hi=>by have e:nth (bc.map (·.l)) i=nth ((List.range j).map (λi=>Q4 (nth (nth wr.l t).l) i (nth (nth code.l t).l i))) i:=(by rw [T8]);rw [zI _ _ _ za,zI _ _ _ (by simp;omega)] at e;rw [e];exact vZ (Ln _ _) za) (Lm (nth (nth wr.l t).l) (nth code.l t).l hjt bc (by rw [T8,wR,show j=(nth code.l t).l.length from za])))) V<|?_
  rintro _ _ P4 ⟨s61,rfl,OQ,il⟩
  refine dZ il V<|gU<|zn (oM 1 V<|.nl)<|nK k60<|?_;clear il
  have OB:s61.l=JD (nth (nth wr.l t).l) (nth code.l t).l:=by rw [JD,OQ,T8,wR,show j=(nth code.l t).l.length from za]
  refine gL<|zn (qB jZ V<|qw 2 ZE V V<|oM 1 V<|.nl)<|xb (λ_ _ h_=>RA (E:=0) (x:=s61) h_ vp jN V V V ((h_.sh.own 0 V)) (λb hb=>(qt (h_.sh.ok _ (zy (i:=0) V)) hb).elim (λh=>h) (λh=>Flat.qh h)) (λb hb=>Flat.qh hb) V V) V λv62=>gO [8,0,1,2,3,4,5,6,7,9] V<|xb (λ_ _ h_=>RB (s:=(⟨vq,qs⟩:Ls (Ls Ins))) (m:=(⟨v62,[s61]⟩:Ls (Ls Ins))) h_ vp jN V V V V V V V inferInstance (show (qs.length+([s61]).length)*24<=140737488355328/\qs.length+([s61]).length<=140737488355328 from zp) V V) V λv64=>zn (qB jZ V<|.nl)<|dY 2 ZE V (aD 0 V) V<|nK HH<|gF [1,2,4,5,6] V<|gL<|zn (oM 1 V<|yl _ 1 zp V<|oM 1 V<|.nl)<|nN<|λa66 M7 B8=>zH ⟨_,?_,t+1,qs++([s61]),v64,?_,?_,?_,B8.wN ⟨V,V,V,V,V,trivial⟩ [1,2,3,4,5,6,7,0] V,V⟩
  · rw [iH];first|omega|(simp only [qf];omega)
  · omega
  · rw [yi,hqs,YG,yi];simp [OB]
  · simp [BU]
 refine gX<|hK cH<|sK λ_ k67=>zn (kt 1 qu V V<|.nl)<|gE (λ_ _ h_=>j3 (i:=2) (vs:= [vq,mB,.int .i64 zm,.int .i64 ze]) (YR:= [vq,mB,.int .i64 zm,.int .i64 ze]) h_ qu V V V V V V V (zr ((h_.sh.deep 7 V)).one (zr ((h_.sh.own 0 V)).one (zr V (zr V qx)))) (y5 V) V) V<|nK k67<|gR<|λa69 w69 h69=>HW (fn:=Tryz.f37) (t:=4) (i:=2) qu V h69 V V V<|⟨⟨vq,qs⟩,⟨mB,words.l⟩,V,?_,V,(h69.sh.zY [7,0] V)⟩
 show qs.map (·.l)=_;rw [hqs,show t=code.l.length from za]
theorem gH (code:Ls (Ls Ins))(words:Ls Int)(zm ze:Int)(W:World)(qY:code.At W)(yo:words.At W)(zR:yJ (yH code words zm ze)):
    zP Tryz.prog 36 [.agg #[code.v,words.v,.int .i64 zm,.int .i64 ze]] W (λv w' =>∃o:Ls (Ls Bool),v=o.v/\o.l.map (·.l)=(List.range code.l.length).map (λt=>(nth code.l t).l.map (λx=>kb x.op))/\qM W w' [.deep 121 o]):=by
 have hz:=Yg zR
 obtain ⟨iL,AE,hl3,zrj,hl5,hl6,hl7⟩:=C8 zR
 refine gen Tryz.func36 Tryz.ntmps36 (qM.Jo qY yo:Sh (λ_=>False) W W [.at_ code,.at_ words]) V λjP z7=>gG z7<|sK λ_ kz=>XV V V λxX=>zn (oM 1 V<|.nl)<|nK kz<|sG (oM 1 V<|.nl)<|gK λ_ Xp=>sG (oM 1 V<|.nl)<|gB<|λHS Hx jc=>?_;clear z7
 have jk:=jc.VY (α:=Ls Bool) 121
 clear jc
 refine qE (λm a w=>∃(t:Nat) (os:List (Ls Bool)) (vo:Value),(t<=code.l.length)/\(os.map (·.l)=(List.range t).map (λt=>(nth code.l t).l.map (λx=>kb x.op)))/\(os.length=t)/\St 45 (λ_=>False) W a w [(1,.pointer (some ⟨xX,0,none⟩)),(3,vo),(4,.int .i64 ((t:Nat):Int))] [.zM xX 25 [code.v,words.v,.int .i64 zm,.int .i64 ze],.at_ code,.at_ words,.deep 121 (⟨vo,os⟩:Ls (Ls Bool))]/\m=code.l.length-t) ⟨_,0,[],(.slice none 0 0),za,(V),(V),jk.wN ⟨V,V,V,trivial⟩ [1,2,3,0] V,V⟩ ?_
 clear jk
 rintro m16 BK Hy ⟨t,os,vo,ht,FT,Vr,w9,HM⟩
 refine gG w9<|gK λ_ Va=>sK λ_ K7=>y4 (aA 1 V) λzrn=>zn (oM 1 V<|qB jZ V<|qw 0 ZE V V<|wk vp (aA 1 V) V<|xk _ _ V<|.nl)<|nK K7<|?_;clear w9
 refine gcd V (λGp cZ=>?_) λGp cZ=>?_
 ·skip
  refine gS<|hK Va<|?_
  obtain ⟨hl4,hjt⟩:=aI zR t za
  refine gK λ_ V6=>gB<|sK λ_ Ke=>y4 (λw h=>((h.at 1 V).nth t (show t<code.l.length from za))) λ(zc5:((nth code.l t).l).length<=140737488355328)=>zn (qB jZ V<|qw 0 ZE V V<|oM 1 V<|jo vp jN (aA 1 V) _ zp V<|Z1 ((nth code.l t).v) jN (aA 1 V) zp V<|wk (n:=((nth code.l t).l).length) yZ (λw h=>((h.at 1 V).nth t (show t<code.l.length from za))) V<|.nl)<|xb (λ_ _ h_=>G4 (n:=((nth code.l t).l).length) (false:Bool) h_ b8 w5 V V V V V (show 1*(((nth code.l t).l).length)<=140737488355328/\((nth code.l t).l).length<=140737488355328 from zp) (λw=>Flat.inner _ _) (λb=>Flat.on _ _) V V) V λv26=>zn (oM 1 V<|.nl)<|nK Ke<|gK λ_ Rc=>sG (oM 1 V<|.nl)<|gB<|λec ak Qp=>qE (λm a w=>∃(i:Nat) (rl:List Bool),(i<=(nth code.l t).l.length)/\(rl.length=(nth code.l t).l.length)/\(∀j,j<i->nth rl j=kb (nth (nth code.l t).l j).op)/\St 45 (λ_=>False) W a w [(1,.pointer (some ⟨xX,0,none⟩)),(3,vo),(4,.int .i64 ((t:Nat):Int)),(5,v26),(6,.int .i64 ((i:Nat):Int))] [.own 4 (⟨v26,rl⟩:Ls Bool),.zM xX 25 [code.v,words.v,.int .i64 zm,.int .i64 ze],.at_ code,.at_ words,.deep 121 (⟨vo,os⟩:Ls (Ls Bool))]/\m=(nth code.l t).l.length-i) ⟨_,0,List.replicate (((nth code.l t).l).length) false,za,(by simp),(λj hj=>absurd hj za),Qp.nf ⟨V,V,V,V,V,trivial⟩,V⟩ ?_
  clear Qp
  rintro m29 mg lW ⟨i,rl,hi,Wk,sA,w8,zq4⟩
  refine gG w8<|gK λ_ lY=>sK λ_ sb=>y4 (aO 0 V) λ(zrk:rl.length<=140737488355328)=>zn (oM 2 V<|wk (n:=rl.length) b8 (aO 0 V) V<|xk _ _ V<|.nl)<|nK sb<|?_;clear w8
  refine gcd V (λWq FF=>?_) λWq FF=>?_
  ·skip
   refine gS<|hK lY<|gK λ_ k35=>gB<|gL<|zn (oM 2 V<|qB jZ V<|qw 1 ZE V V<|oM 1 V<|jo vp jN (aA 2 V) _ zp V<|Z1 ((nth code.l t).v) jN (aA 2 V) zp V<|oM 1 V<|jo yZ qG (λw h=>((h.at 2 V).nth t (show t<code.l.length from za))) _ zp V<|QB xL V<|Z1 (.int .i64 ((nth ((nth code.l t).l) i).op)) zj (λw h=>((h.at 2 V).nth t (show t<code.l.length from za))) zp V<|.nl)<|gC (λ_ _ h_=>gQ h_ zlI V (CP ((nth ((nth code.l t).l) i).op) _)) V<|?_
   rintro _ _ lV ⟨rfl,im⟩
   refine dZ im V<|gU<|zn (jo b8 w5 (aO 0 V) _ zp V<|.nl)<|XK 0 (kb ((nth ((nth code.l t).l) i).op):Bool) w5 zp V V<|nK k35<|gL<|zn (oM 1 V<|yl _ 1 zp V<|oM 1 V<|.nl)<|nN<|λa38 w38 dW=>?_;clear im
   refine zH ⟨_,?_,i+1,rl.set i (kb ((nth ((nth code.l t).l) i).op)),?_,?_,?_,dW.nf ⟨V,V,V,V,V,trivial⟩,V⟩
   · rw [zq4];first|omega|(simp only [qf];omega)
   · omega
   · simpa using Wk
   · intro j hj;rw [jt];split;(rename_i hh;obtain ⟨rfl,_⟩:=hh;rfl);exact sA j za
  refine gX<|hK Rc<|?_
  have S4:=zlt _ rl Wk (λj hj=>sA j za)
  refine gL<|zn (oM 2 V<|.nl)<|xb (λ_ _ h_=>RA (E:=0) (x:=(⟨v26,rl⟩:Ls Bool)) h_ Cu bZ V V V ((h_.sh.own 0 V)) (λb hb=>(qt (h_.sh.ok _ (zy (i:=0) V)) hb).elim (λh=>h) (λh=>Flat.qh h)) (λb hb=>Flat.qh hb) V V) V λv39=>gO [4,0,1,2,3] V<|xb (λ_ _ h_=>RB (s:=(⟨vo,os⟩:Ls (Ls Bool))) (m:=(⟨v39,[(⟨v26,rl⟩:Ls Bool)]⟩:Ls (Ls Bool))) h_ Cu bZ V V V V V V V inferInstance (show (os.length+([(⟨v26,rl⟩:Ls Bool)]).length)*24<=140737488355328/\os.length+([(⟨v26,rl⟩:Ls Bool)]).length<=140737488355328 from zp) V V) V λv41=>zn (oM 1 V<|.nl)<|nK V6<|gL<|zn (oM 1 V<|yl _ 1 zp V<|oM 1 V<|.nl)<|nN<|λa42 w42 WM=>zH ⟨_,?_,t+1,os++([(⟨v26,rl⟩:Ls Bool)]),v41,?_,?_,?_,WM.wN ⟨V,V,V,trivial⟩ [1,2,3,0] V,V⟩
  · rw [HM];first|omega|(simp only [qf];omega)
  · omega
  · rw [yi,FT,YG,yi];simp [<-S4]
  · simp [Vr]
 refine gX<|hK Xp<|sG (oM 2 V<|.nl)<|gR<|λa44 tu Rj=>zu (fn:=Tryz.f36) (t:=2) V Rj V<|⟨⟨vo,os⟩,V,?_,(Rj.sh.zY [3] V)⟩
 show os.map (·.l)=_;rw [FT,show t=code.l.length from za]
end Go.Proofs.YtmjkobhkkjgplaaGreatDoor
namespace Go.Proofs.YtmjkobhkkjgplaaGreatDoor
open Go.ChangeShapes Go.WideShapes Go.ChangeAt Go.RowKit
open Go.Deep (open_slice)
set_option linter.unusedSimpArgs false
set_option linter.unusedVariables false
class Rd (α:Type) extends zz α where
 ty:Program->TypeId->Prop
 HR:α->Prop
 read:∀ {H:Type} {enc:TypeId×Value->H} {P:Program} {w:World} {base:Nat} {spare:Nat->Bool} {held:Bool} {fuel:Nat} {T:TypeId} {cs:List Value} {x:DataW H×List MemPlace},
  ty P T->DataW.trod enc P w base spare held fuel T cs=some x->(∀n∈DataW.weights P T x.1,n<=reachBytes)->∃a:α,cs=cellsOf a/\zz.inner a w/\HR a
instance : Rd Int where
 ty P T:=P.underlying T=some (.int .i64)
 HR n:=(Lit.int .i64 n).wf=true
 read hT h _:=by
  obtain ⟨n,rfl,_,hw⟩:=DataW.trod_int hT h
  exact ⟨n,V,trivial,hw⟩
instance : Rd Bool where
 ty P T:=P.underlying T=some .bool
 HR _:=True
 read hT h _:=by
  obtain ⟨b,rfl,_⟩:=DataW.trod_bool hT h
  exact ⟨b,V,trivial,trivial⟩
def aU (P:Program)(fs:Array Field)(n:Nat):Prop:=fs.size=n/\∀(j:Nat) (f:Field),fs[j]? =some f->f.offset=j/\P.underlying f.type=some (.int .i64)/\P.cellsOf f.type=1
theorem tP {H:Type}{enc:TypeId×Value->H}{P:Program}{w:World}{base:Nat}{spare:Nat->Bool}{held:Bool}{fuel:Nat}{T:TypeId}{cs:List Value}{x:DataW H×List MemPlace}{fs:Array Field}{n:Nat}
  (hT:P.underlying T=some (.struct fs)) (Rg:aU P fs n) (hC:P.cellsOf T=n) (h:DataW.trod enc P w base spare held fuel T cs=some x):
  cs.length=n/\∀j,j<n->∃k:Int,cs[j]? =some (.int .i64 k)/\(Lit.int .i64 k).wf=true:=by
 obtain ⟨xs,m,_,_,hlen,ML,hf⟩:=DataW.trod_struct hT h
 refine ⟨hlen.trans hC,λj hj=>?_⟩
 obtain ⟨hs,zO⟩:=Rg
 have hjs:j<fs.size:=za
 obtain ⟨ho,ht,hc⟩:=zO j fs[j] (by simp [hjs])
 have h1:=hf j fs[j] (by simp [hjs])
 rw [ho,hc,QS za] at h1
 obtain ⟨k,hk,_,hw⟩:=DataW.trod_int ht h1
 refine ⟨k,?_,hw⟩
 rw [JV za] at hk
 simp only [List.take_succ_cons,List.take_zero,JO,and_true] at hk
 rw [QS za,hk]
instance : Rd Ins where
 ty P T:=∃fs,P.underlying T=some (.struct fs)/\aU P fs 4/\P.cellsOf T=4
 HR x:=(Lit.int .i64 x.op).wf=true/\(Lit.int .i64 x.a).wf=true/\(Lit.int .i64 x.b).wf=true/\(Lit.int .i64 x.c).wf=true
 read:=by
  rintro H enc P w base spare held fuel T cs x ⟨fs,hT,Rg,hC⟩ h _
  obtain ⟨hl,hj⟩:=tP hT Rg hC h
  obtain ⟨k0,e0,w0⟩:=hj 0 za
  obtain ⟨k1,e1,w1⟩:=hj 1 za
  obtain ⟨k2,e2,w2⟩:=hj 2 za
  obtain ⟨k3,e3,w3⟩:=hj 3 za
  match cs,hl with
  | [c0,c1,c2,c3],_=>
   simp only [bK,JT,Qx] at e0 e1 e2 e3
   subst e0 e1 e2 e3
   exact ⟨⟨k0,k1,k2,k3⟩,V,trivial,w0,w1,w2,w3⟩
theorem BM {H:Type}{P:Program}{T e:TypeId}{elems spare:List (DataW H)}(hT:P.underlying T=some (.slice e))(h:∀n∈DataW.weights P T (.slice elems spare),n<=reachBytes):
  (elems.length+spare.length)*P.bytesOf e<=reachBytes/\∀d∈elems,∀n∈DataW.weights P e d,n<=reachBytes:=by
 unfold DataW.weights at h
 rw [hT] at h
 refine ⟨h _ (by simp),λd hd n hn=>h n ?_⟩
 have:∀l:List (DataW H),d∈l->n∈DataW.weightsAll P e l:=by
  intro l hl
  induction l with
  |nil=>cases hl
  |cons y l ih=>
   unfold DataW.weightsAll
   rcases List.mem_cons.1 hl with rfl|hl
   ·exact List.mem_append.2 (.inl hn)
   ·exact List.mem_append.2 (.inr (ih hl))
 simp only [z6,GQ]
 exact .inr (.inl (this _ hd))
instance {α:Type}[Rd α]:Rd (Sl α) where
 ty P T:=∃e,P.underlying T=some (.slice e)/\P.cellsOf e=zz.sz α/\1<=P.bytesOf e/\0<zz.sz α/\Rd.ty α P e
 HR s:=∀i,i<s.l.length->Rd.HR (nth s.l i)
 read:=by
  rintro H enc P w base spare held fuel T cs x ⟨e,hT,hC,hB,YM,hty⟩ h hw
  rcases open_slice hT h with ⟨rfl,rfl⟩|⟨a,len,cap,m,n,D,Pl,rfl,_,hl,hm,hmm,rfl,hi⟩
  ·refine ⟨⟨none,0,[]⟩,V,⟨qC _,by simp,by simp,λhh=>absurd hh (by simp),λhh=>absurd hh (by simp),λi j hi=>absurd hi (by simp),λi hi=>absurd hi (by simp)⟩,λi hi=>absurd hi (by simp)⟩
  ·obtain ⟨hb,hd⟩:=BM hT hw
   have AB:len<=m:=by rw [hmm];split<;>omega
   have hlen:len<=140737488355328:=by
    simp only [yw,List.length_range,reachBytes] at hb
    have:(len+(m-len))*1<=(len+(m-len))*P.bytesOf e:=Nat.mul_le_mul_left _ hB
    omega
   have key:∀i,i<len->∃y:α,(∀j,j<zz.sz α->w.cell? ((a.add (i*zz.sz α)).add j)=some (zz.cell y j))/\zz.inner y w/\Rd.HR y:=by
    intro i V7
    obtain ⟨YR,hc',Ut⟩:=hi i za
    obtain ⟨y,hy,BD,hf⟩:=Rd.read hty Ut (hd _ (List.mem_map.2 ⟨i,by simpa using V7,V⟩))
    obtain ⟨_,qg,hat⟩:=World.cells?_some hc'
    rw [hC] at hc' hat qg
    refine ⟨y,λj hj=>?_,BD,hf⟩
    rw [hat j (by first|exact hj|omega)]
    subst hy
    simp [cellsOf,hj]
   obtain ⟨F,hF⟩:=Go.Deep.choose_lt key
   let l:=(List.range len).map F
   have AD:l.length=len:=by simp [l]
   have hn:∀i,i<len->nth l i=F i:=by intro i V7;simp [nth,l,V7]
   have IX:0<len->∃v,w.cell? a=some v:=λh0=>⟨_,by
    have h1:=(hF 0 h0).1 0 YM
    rw [Nat.zero_mul,Addr.add_zero',Addr.add_zero'] at h1
    exact h1⟩
   have SJ:0<len->a.spot=none:=by
    intro h0
    obtain ⟨v,hv⟩:=IX h0
    unfold World.cell? at hv
    split at hv
    ·split at hv
     ·cases hv
     ·rename_i hs
      simpa using hs
    ·cases hv
   refine ⟨⟨some a,cap,l⟩,by simp [cellsOf,zz.cell,zz.sz,AD],⟨by rw [AD];exact hl,hm,by rw [AD];exact hlen,?_,?_,?_,?_⟩,?_⟩
   ·intro h0
    exact ⟨a,V,SJ (by rw [<-AD];exact h0)⟩
   ·intro h0
    obtain ⟨v,hv⟩:=IX (by rw [<-AD];exact h0)
    exact World.block_lt_of_cell? w a hv
   ·intro i j wm hj
    rw [AD] at wm
    show w.cell? ⟨a.block,a.off+i*zz.sz α+j,none⟩=some (zz.cell (nth l i) j)
    rw [hn i wm,<-(hF i wm).1 j hj]
    have hs:=SJ za
    rcases a with ⟨b,o,sp⟩
    simp only at hs
    subst hs
    rw [wD,wD]
   ·intro i wm
    rw [AD] at wm
    rw [hn i wm]
    exact (hF i wm).2.1
   ·intro i wm
    rw [AD] at wm
    rw [hn i wm]
    exact (hF i wm).2.2
def fu (P:Program)(fs:Array Field):Prop:=
 ∃f0 f1 f2 f3:Field,fs= #[f0,f1,f2,f3]/\(f0.offset=0/\P.cellsOf f0.type=1/\Rd.ty (Sl (Sl Ins)) P f0.type)/\(f1.offset=1/\P.cellsOf f1.type=1/\Rd.ty (Sl Int) P f1.type)/\
  (f2.offset=2/\P.cellsOf f2.type=1/\Rd.ty Int P f2.type)/\(f3.offset=3/\P.cellsOf f3.type=1/\Rd.ty Int P f3.type)
def PR.HR (p:PR):Prop:=Rd.HR p.code/\Rd.HR p.words/\(Lit.int .i64 p.zm).wf=true/\(Lit.int .i64 p.ze).wf=true
theorem eG {H:Type}{P:Program}{T:TypeId}{f0 f1 f2 f3:Field}{d0 d1 d2 d3:DataW H}(hT:P.underlying T=some (.struct #[f0,f1,f2,f3]))(h:∀n∈DataW.weights P T (.agg [d0,d1,d2,d3]),n<=reachBytes):
  (∀n∈DataW.weights P f0.type d0,n<=reachBytes)/\(∀n∈DataW.weights P f1.type d1,n<=reachBytes)/\(∀n∈DataW.weights P f2.type d2,n<=reachBytes)/\(∀n∈DataW.weights P f3.type d3,n<=reachBytes):=by
 unfold DataW.weights at h
 rw [hT] at h
 simp only [xA,wY,DataW.weightsEach,k6,GQ] at h
 exact ⟨λn hn=>h n (.inl hn),λn hn=>h n (.inr (.inl hn)),λn hn=>h n (.inr (.inr (.inl hn))),λn hn=>h n (.inr (.inr (.inr hn)))⟩
theorem NP {H:Type}{enc:TypeId×Value->H}{P:Program}{w:World}{base:Nat}{spare:Nat->Bool}{held:Bool}{r:Go.Reach}{b0:Nat}{T:TypeId}{fs:Array Field}{v:Value}{d:DataW H}{p:List MemPlace}
  (hT:P.underlying T=some (.struct fs)) (Rg:fu P fs) (hC:P.cellsOf T=4) (hv:Value.okWide P w r b0 T v) (h:DataW.Trod enc P w base spare held T v d p) (hw:∀n∈DataW.weights P T d,n<=reachBytes):
  ∃q:PR,v=q.val/\q.At w/\q.HR:=by
 obtain ⟨f0,f1,f2,f3,rfl,⟨o0,c0,t0⟩,⟨o1,c1,t1⟩,⟨o2,c2,t2⟩,⟨o3,c3,t3⟩⟩:=Rg
 obtain ⟨cs,rfl,x3⟩:=okWide_struct hT hv
 obtain ⟨l⟩:=cs
 match l,x3.trans hC with
 | [v0,v1,v2,v3],_=>
  obtain ⟨fuel,hf⟩:=h
  obtain ⟨xs,n,_,hx,_,hlen,hg⟩:=DataW.trod_struct hT hf
  match xs,hlen with
  | [y0,y1,y2,y3],_=>
   simp only [qO,xA,wY] at hx
   rw [hx.1] at hw
   obtain ⟨w0,w1,w2,w3⟩:=eG hT hw
   have g0:=hg 0 f0 V
   have g1:=hg 1 f1 V
   have g2:=hg 2 f2 V
   have g3:=hg 3 f3 V
   rw [o0,c0] at g0
   rw [o1,c1] at g1
   rw [o2,c2] at g2
   rw [o3,c3] at g3
   simp [Value.cells] at g0 g1 g2 g3
   obtain ⟨s0,e0,i0,k0⟩:=Rd.read t0 g0 w0
   obtain ⟨s1,e1,i1,k1⟩:=Rd.read t1 g1 w1
   obtain ⟨s2,e2,i2,k2⟩:=Rd.read t2 g2 w2
   obtain ⟨s3,e3,i3,k3⟩:=Rd.read t3 g3 w3
   simp [cellsOf,zz.cell,zz.sz] at e0 e1 e2 e3
   subst e0 e1 e2 e3
   exact ⟨⟨s0,s1,s2,s3⟩,V,⟨i0,i1⟩,k0,k1,k2,k3⟩
end Go.Proofs.YtmjkobhkkjgplaaGreatDoor
namespace Go.Proofs.YtmjkobhkkjgplaaGreatDoor
open Go.ChangeShapes Go.WideShapes Go.ChangeAt Go.RowKit
set_option linter.unusedSimpArgs false
set_option linter.unusedVariables false
theorem own :ownKnob Tryz.prog.godebug=none:=zb
theorem laidOut :laidOutB Tryz.prog=true:=zb
theorem mE :Rd.ty Int Tryz.prog 3:=Tryz.underlying3
theorem zaL :Rd.ty Ins Tryz.prog 32:=by
 refine ⟨_,Tryz.underlying32,⟨V,λj f hf=>?_⟩,zb⟩
 rcases j with _|_|_|_|j<;>simp at hf<;>subst hf<;>exact ⟨V,Tryz.underlying3,zb⟩
theorem Ni :Rd.ty (Sl Int) Tryz.prog 23:=⟨_,Tryz.underlying23,zb,of_decide_eq_true zb,zf,mE⟩
theorem Nj :Rd.ty (Sl Ins) Tryz.prog 33:=⟨_,Tryz.underlying33,zb,of_decide_eq_true zb,zf,zaL⟩
theorem Cb :Rd.ty (Sl (Sl Ins)) Tryz.prog 22:=⟨_,Tryz.underlying22,zb,of_decide_eq_true zb,zf,Nj⟩
theorem zf9 :∃fs,Tryz.prog.underlying 25=some (.struct fs)/\fu Tryz.prog fs:=
 ⟨_,Tryz.underlying25,_,_,_,_,V,⟨V,zb,Cb⟩,⟨V,zb,Ni⟩,⟨V,zb,mE⟩,⟨V,zb,mE⟩⟩
section
variable {α:Type}[zz α]
def fI (s:Sl α):Ls α:=⟨.slice s.A s.l.length s.cap,s.l⟩
theorem rO {s:Sl α}{w:World}(h:s.At w):(fI s).At w:=⟨s.A,s.cap,V,h⟩
def WH (s:Sl (Sl α)):Ls (Ls α):=⟨.slice s.A s.l.length s.cap,s.l.map fI⟩
theorem Eb {s:Sl (Sl α)}{w:World}(h:s.At w):(WH s).At w:=by
 refine ⟨s.A,s.cap,by simp [WH],⟨by simpa [WH] using h.le,h.max,by simpa [WH] using h.len,by simpa [WH] using h.some,by simpa [WH] using h.Su,λi j hi hj=>?_,λi hi=>?_⟩⟩
 ·have wm:i<s.l.length:=by simpa [WH] using hi
  show w.cell? _=some (zz.cell (nth (s.l.map fI) i) j)
  rw [zI fI _ _ wm]
  exact h.cell i j wm hj
 ·have wm:i<s.l.length:=by simpa [WH] using hi
  show zz.inner (nth (s.l.map fI) i) w
  rw [zI fI _ _ wm]
  exact rO (h.inner i wm)
end
end Go.Proofs.YtmjkobhkkjgplaaGreatDoor
namespace Go.Proofs.YtmjkobhkkjgplaaGreatDoor
open Go.RowKit
set_option linter.unusedSimpArgs false
set_option linter.unusedVariables false
section
variable {p:Pg}{s:yc}{x:TS}{n:Nat}{i:Ins}{m m' :Int}{c:List Ins}{k:Nat}{o:xR}
theorem Nq (h:0<m↔0<m')(w:Wt):x.store m w=x.store m' w:=by
 unfold TS.store
 by_cases h1:0<m
 ·rw [if_pos h1,if_pos (h.1 h1)]
 ·rw [if_neg h1,if_neg (λh2=>h1 (h.2 h2))]
theorem zdO (h:0<m↔0<m'):zJ m n i x=zJ m' n i x:=by
 unfold zJ
 simp only [Nq h]
theorem zsL (h:0<m↔0<m'):XY m n c k x=XY m' n c k x:=by
 unfold XY
 rw [zdO h]
theorem nt {l:List Wt} :w6 m l 0=true:=by simp [w6]
theorem rU (h:xp 1 c x k=true):xp 2 c x k=true:=by
 unfold xp at h⊢
 by_cases h0:k=0
 ·rw [if_pos h0] at h⊢;exact h
 ·rw [if_neg h0] at h⊢
  simp only [qI] at h⊢
  refine ⟨h.1,?_⟩
  have h1:=h.2
  simp [w6] at h1
  rw [h1]
  exact nt
theorem aL (h:∀k,xp m c x k=false):vT c x=false/\x.wait= []:=by
 refine ⟨by simpa [xp] using h 0,?_⟩
 have h1:=h 1
 cases hw:x.wait with
 |nil=>rfl
 |cons w l=>
  unfold xp at h1
  simp [hw,nt] at h1
theorem rR (h:vT c x=false/\x.wait= []):xp m c x k=false:=by
 unfold xp
 split
 ·exact h.1
 ·rename_i h0
  rw [h.2]
  simp [show¬k=0 from h0]
theorem p9 {t:Nat} :stepT p 1 s t k=stepT p 2 s t k:=by unfold stepT;exact zsL za
theorem RQ (h:Reach p 1 s):Reach p 2 s:=by
 induction h with
 |start=>exact .start
 |step h ht hk hf ih=>rw [p9] at hf⊢;exact .step ih ht (rU hk) hf
theorem eS (h:Xo p m s):Xo p m' s:=λt k ht=>rR (aL λk=>h t k ht)
theorem rH (h:jq p 1 o):jq p 2 o:=by
 cases h with
 |done h he=>exact .done (RQ h) he
 |stuck h he hs=>exact .stuck (RQ h) he (eS hs)
 |zq h ht hk hf=>rw [p9] at hf⊢;exact .zq (RQ h) ht (rU hk) hf
theorem zgR {c:Prop}[Decidable c]{a b:TS}{w:List Wt}(h1:a.wait=w)(h2:b.wait=w):(if c then a else b).wait=w:=by split<;>assumption
theorem oU :(zJ 0 n i x).wait=x.wait:=by
 have hs:∀w,(x.store 0 w).wait=x.wait:=λw=>by simp [TS.store,TS.done]
 unfold zJ
 repeat' first|exact hs _|exact V|refine zgR ?_ ?_
def S01 (x a b:TS):Prop:=a=b\/∃w,a= { x with wait:= [w] }/\b=x.done w
theorem zgS {c:Prop}[Decidable c]{a b a' b' :TS}(h1:S01 x a a')(h2:S01 x b b'):S01 x (if c then a else b) (if c then a' else b'):=by split<;>assumption
theorem sU (hw:x.wait= []):S01 x (zJ 1 n i x) (zJ 0 n i x):=by
 have hs:∀w,S01 x (x.store 1 w) (x.store 0 w):=λw=> .inr ⟨w,by simp [TS.store,hw],by simp [TS.store]⟩
 unfold zJ
 repeat' first|exact hs _|exact .inl V|refine zgS ?_ ?_
theorem bT (hl:s.zW.length=p.code.length)(h:∀t,t<p.code.length->(s.view t).wait= []){t k:Nat}(ht:t<p.code.length)(hk:xp m (nth p.code t) (s.view t) k=true):k=0:=by
 unfold xp at hk
 by_cases h0:k=0
 ·exact h0
 ·rw [if_neg h0,h t ht] at hk
  simp [h0] at hk
theorem b3 {s:yc}(h:Reach p m s):s.zW.length=p.code.length:=by
 induction h with
 |start=>simp [yr]
 |step _ _ _ _ ih=>simpa [yc.yt] using ih
theorem US (h:Reach p 0 s):∀t,t<p.code.length->(s.view t).wait= []:=by
 induction h with
 |start=>
  intro t ht
  simp only [yc.view,yr]
  rw [zI _ _ _ ht]
 |step h ht hk hf ih=>
  intro q hq
  have hl:=b3 h
  obtain rfl:=bT hl ih ht hk
  rename_i s t
  by_cases e:q=t
  ·subst e
   rw [ZM za]
   show (stepT p 0 s q 0).wait= []
   unfold stepT XY
   rw [if_neg za,oU]
   exact ih q hq
  ·have:((s.yt t (stepT p 0 s t 0)).view q).wait=(s.view q).wait:=by
    simp only [yc.view,yc.yt]
    rw [yL,if_neg (λh=>e h.1.symm)]
   rw [this]
   exact ih q hq
theorem RR (h:Reach p 0 s):Reach p 1 s:=by
 induction h with
 |start=>exact .start
 |step h ht hk hf ih=>
  rename_i s t k
  have hl:=b3 h
  have hw:=US h
  obtain rfl:=bT hl hw ht hk
  have l6:xp 1 (nth p.code t) (s.view t) 0=true:=by simpa [xp] using hk
  have Df:({ s.view t with pc:=(s.view t).pc+1 } :TS).wait= []:=hw t ht
  rcases sU (n:=t) (i:=zo (nth p.code t) (s.view t).pc) Df with e|⟨w,e1,e2⟩
  ·have e3:stepT p 1 s t 0=stepT p 0 s t 0:=by unfold stepT XY;rw [if_neg za,if_neg za];exact e
   rw [<-e3] at hf⊢
   exact .step ih ht l6 hf
  ·have e3:stepT p 1 s t 0= { ({ s.view t with pc:=(s.view t).pc+1 } :TS) with wait:= [w] } :=by unfold stepT XY;rw [if_neg za];exact e1
   have e4:stepT p 0 s t 0=({ s.view t with pc:=(s.view t).pc+1 } :TS).done w:=by unfold stepT XY;rw [if_neg za];exact e2
   have r1:Reach p 1 (s.yt t (stepT p 1 s t 0)):= .step ih ht l6 (by rw [e3];rfl)
   have hv:(s.yt t (stepT p 1 s t 0)).view t=stepT p 1 s t 0:=by rw [ZM za,e3];rfl
   have hm:xp 1 (nth p.code t) ((s.yt t (stepT p 1 s t 0)).view t) 1=true:=by
    rw [hv,e3];simp [xp,nt]
   have e5:stepT p 1 (s.yt t (stepT p 1 s t 0)) t 1=stepT p 0 s t 0:=by
    show XY 1 t (nth p.code t) 1 ((s.yt t (stepT p 1 s t 0)).view t)=_
    rw [hv,e3,e4]
    unfold XY
    rw [if_pos za]
    simp [TS.done,nth,hw t ht]
   have r2:=r1.step ht hm (by rw [e5];exact hf)
   rw [e5] at r2
   have e6:(s.yt t (stepT p 1 s t 0)).yt t (stepT p 0 s t 0)=s.yt t (stepT p 0 s t 0):=by
    simp [yc.yt,List.set_set]
   rwa [e6] at r2
theorem NJ (h:jq p 0 o):jq p 1 o:=by
 cases h with
 |done h he=>exact .done (RR h) he
 |stuck h he hs=>exact .stuck (RR h) he (eS hs)
 |zq h ht hk hf=>
  rename_i s t k
  have hl:=b3 h
  have hw:=US h
  obtain rfl:=bT hl hw ht hk
  have l6:xp 1 (nth p.code t) (s.view t) 0=true:=by simpa [xp] using hk
  have Df:({ s.view t with pc:=(s.view t).pc+1 } :TS).wait= []:=hw t ht
  rcases sU (n:=t) (i:=zo (nth p.code t) (s.view t).pc) Df with e|⟨w,e1,e2⟩
  ·have e3:stepT p 1 s t 0=stepT p 0 s t 0:=by unfold stepT XY;rw [if_neg za,if_neg za];exact e
   rw [<-e3] at hf⊢
   exact .zq (RR h) ht l6 hf
  ·have e4:stepT p 0 s t 0=({ s.view t with pc:=(s.view t).pc+1 } :TS).done w:=by unfold stepT XY;rw [if_neg za];exact e2
   rw [e4] at hf
   cases hf
end
def Ec (p:Pg)(m:Int)(s:yc):List yc:=(List.range p.code.length).flatMap λt=>(List.range ((s.view t).wait.length+1)).filterMap λk=>if xp m (nth p.code t) (s.view t) k&& !(stepT p m s t k).zq then some (s.yt t (stepT p m s t k)) else none
def I5 (S:List yc)(s:yc):Bool:=S.any λx=>decide (x=s)
def D9 (p:Pg)(m:Int)(S:List yc):Bool:=I5 S (yr p)&&S.all λs=>(Ec p m s).all (I5 S)
def zad (p:Pg)(m:Int):Nat->List yc->List yc->List yc
 |0,_,S=>S
 |_+1,[],S=>S
 |n+1,s::r,S=>
  let N:=(Ec p m s).foldl (λ(a:List yc) x=>if I5 S x||I5 a x then a else x::a) []
  zad p m n (N++r) (N++S)
section
variable {p:Pg}{m:Int}{S:List yc}{s:yc}
theorem ln (h:I5 S s=true):s∈S:=by
 obtain ⟨x,hx,e⟩:=List.any_eq_true.1 h
 rw [<-of_decide_eq_true e];exact hx
theorem Ee {c:List Ins}{x:TS}{k:Nat}(h:xp m c x k=true):k<x.wait.length+1:=by
 unfold xp at h
 split at h
 ·omega
 ·simp only [qI,decide_eq_true_eq] at h;omega
theorem uq {t k:Nat}(ht:t<p.code.length)(hk:xp m (nth p.code t) (s.view t) k=true)(hf:(stepT p m s t k).zq=false):s.yt t (stepT p m s t k)∈Ec p m s:=
 List.mem_flatMap.2 ⟨t,List.mem_range.2 ht,List.mem_filterMap.2 ⟨k,List.mem_range.2 (Ee hk),by rw [hk,hf];rfl⟩⟩
theorem bp (h:D9 p m S=true)(hr:Reach p m s):s∈S:=by
 simp only [D9,qI] at h
 induction hr with
 |start=>exact ln h.1
 |step _ ht hk hf ih=>exact ln (List.all_eq_true.1 (List.all_eq_true.1 h.2 _ ih) _ (uq ht hk hf))
theorem Af (h:D9 p m S=true)(hl:S.length<=4000):¬pK p m:=λ⟨T,hn,hr,ht⟩=>by
 have:=VX hn λs hs=>bp h (hr s hs)
 omega
end
set_option maxHeartbeats 2000000
theorem oZ {p:Pg}{m:Int}{S:List yc}(h:D9 p m S=true)(hl:Nat.ble S.length 4000=true):¬pK p m:=Af h (y5 hl)
theorem RK (m:Int)(x:TS)(w:Wt)(u:Int):TS.store m { x with pc:=u } w= { x.store m w with pc:=u } :=by unfold TS.store;split<;>rfl
theorem G7 (m:Int)(x:TS)(w:Wt):(x.store m w).pc=x.pc:=by unfold TS.store;split<;>rfl
theorem Lu (m:Int)(n:Nat)(i:Ins)(x:TS)(u:Int)(xd:i.op≠14)(xr:i.op≠15):zJ m n i { x with pc:=u } = { zJ m n i x with pc:=u }/\(zJ m n i x).pc=x.pc:=by
 by_cases e1:i.op=1
 ·rw [Qc e1,Qc e1];exact ⟨V,V⟩
 by_cases e2:i.op=2
 ·rw [Qb e2,Qb e2];exact ⟨V,V⟩
 by_cases e3:i.op=3
 ·rw [Qa e3,Qa e3];exact ⟨V,V⟩
 by_cases e4:i.op=4
 ·rw [Z9 e4,Z9 e4];exact ⟨V,V⟩
 by_cases e5:i.op=5
 ·rw [Z8 e5,Z8 e5];exact ⟨V,V⟩
 by_cases e6:i.op=6
 ·rw [Z7 e6,Z7 e6];exact ⟨V,V⟩
 by_cases e7:i.op=7
 ·rw [Z6 e7,Z6 e7];exact ⟨V,V⟩
 by_cases e8:i.op=8
 ·rw [Z5 e8,Z5 e8];exact ⟨V,V⟩
 by_cases e9:i.op=9
 ·rw [Z4 e9,Z4 e9];exact ⟨RK _ _ _ _,G7 _ _ _⟩
 by_cases Wx:i.op=10
 ·by_cases hw:0<=x.xQ i.b/\x.xQ i.b<(x.words.length:Int)
  ·rw [vf Wx hw,vf (x:= { x with pc:=u }) Wx hw];exact ⟨V,V⟩
  ·rw [vg Wx hw,vg (x:= { x with pc:=u }) Wx hw];exact ⟨V,V⟩
 by_cases Kt:i.op=11
 ·by_cases hw:0<=x.xQ i.a/\x.xQ i.a<(x.words.length:Int)
  ·rw [vQ Kt hw,vQ (x:= { x with pc:=u }) Kt hw];exact ⟨RK _ _ _ _,G7 _ _ _⟩
  ·rw [vR Kt hw,vR (x:= { x with pc:=u }) Kt hw];exact ⟨V,V⟩
 by_cases XX:i.op=13
 ·by_cases hw:nth x.words i.a.toNat=x.xQ i.b
  ·rw [vO XX hw,vO (x:= { x with pc:=u }) XX hw];exact ⟨V,V⟩
  ·rw [vP XX hw,vP (x:= { x with pc:=u }) XX hw];exact ⟨V,V⟩
 by_cases He:i.op=16
 ·rw [kZ He,kZ He];exact ⟨V,V⟩
 by_cases KG:i.op=17
 ·rw [kY KG,kY KG];exact ⟨V,V⟩
 by_cases Jp:i.op=18
 ·by_cases hw:nth x.owner i.a.toNat≠n
  ·rw [va Jp hw,va (x:= { x with pc:=u }) Jp hw];exact ⟨V,V⟩
  ·by_cases hh:∃j,j<x.wait.length/\(nth x.wait j).lock=true/\(nth x.wait j).wh=i.a
   ·obtain ⟨j,hj,h1,h2⟩:=hh
    rw [wK Jp hw j hj h1 h2,wK (x:= { x with pc:=u }) Jp hw j hj h1 h2];exact ⟨V,V⟩
   ·rw [vN Jp hw (λq hq hc=>hh ⟨q,hq,hc⟩),vN (x:= { x with pc:=u }) Jp hw (λq hq hc=>hh ⟨q,hq,hc⟩)];exact ⟨RK _ _ _ _,G7 _ _ _⟩
 rw [wB ⟨e1,e2,e3,e4,e5,e6,e7,e8,e9,Wx,Kt,XX,xd,xr,He,KG,Jp⟩,wB ⟨e1,e2,e3,e4,e5,e6,e7,e8,e9,Wx,Kt,XX,xd,xr,He,KG,Jp⟩]
 exact ⟨V,V⟩
section
variable {p q:Pg}{m m' :Int}
theorem RL (Rel:yc->yc->Prop)(h0:∃s',Reach q m' s' /\Rel (yr p) s')
  (sj:∀s s' t k,Reach p m s->Reach q m' s' ->Rel s s' ->t<p.code.length->xp m (nth p.code t) (s.view t) k=true->if (stepT p m s t k).zq=true then jq q m' ⟨1,[],(stepT p m s t k).zd⟩ else∃s2,Reach q m' s2/\Rel (s.yt t (stepT p m s t k)) s2)
  (sA:∀s s',Reach p m s->Reach q m' s' ->Rel s s' ->ended p s=true->jq q m' ⟨0,s.words,s.zd⟩)
  (zb4:∀s s',Reach p m s->Reach q m' s' ->Rel s s' ->ended p s=false->Xo p m s->jq q m' ⟨2,s.words,s.zd⟩):∀o,jq p m o->jq q m' o:=by
 have key:∀s,Reach p m s->∃s',Reach q m' s' /\Rel s s' :=by
  intro s hs
  induction hs with
  |start=>exact h0
  |step hr ht hk hf ih=>
   obtain ⟨s',h1,h2⟩:=ih
   have:=sj _ s' _ _ hr h1 h2 ht hk
   rw [if_neg (by rw [hf];decide)] at this
   exact this
 intro o ho
 cases ho with
 |done hr he=>
  obtain ⟨s',h1,h2⟩:=key _ hr
  exact sA _ s' hr h1 h2 he
 |stuck hr he hst=>
  obtain ⟨s',h1,h2⟩:=key _ hr
  exact zb4 _ s' hr h1 h2 he hst
 |zq hr ht hk hf=>
  obtain ⟨s',h1,h2⟩:=key _ hr
  have:=sj _ s' _ _ hr h1 h2 ht hk
  rwa [if_pos hf] at this
end
structure pB (n:Nat)(R:Nat->Int->Int->Prop)(s s' :yc):Prop where
 words:s'.words=s.words
 owner:s'.owner=s.owner
 zd:s'.zd=s.zd
 ze:∀t,t<n->(nth s'.zW t).ze=(nth s.zW t).ze
 wait:∀t,t<n->(nth s'.zW t).wait=(nth s.zW t).wait
 pc:∀t,t<n->R t (nth s.zW t).pc (nth s'.zW t).pc
theorem pB.view {n:Nat}{R:Nat->Int->Int->Prop}{s s' :yc}(h:pB n R s s'){t:Nat}(ht:t<n):s'.view t= { s.view t with pc:=(nth s'.zW t).pc } :=by
 unfold yc.view
 simp only [h.words,h.owner,h.zd,h.ze t ht,h.wait t ht]
theorem xI {s:yc}{t u:Nat}{y:TS}(h:t<s.zW.length):nth (s.yt t y).zW u=if t=u then ⟨y.pc,y.ze,y.wait⟩ else nth s.zW u:=by
 unfold yc.yt
 simp only [yL]
 by_cases e:t=u<;>simp [e,h]
 intro h2;exact absurd h (by rw [e];omega)
theorem pB.put {n:Nat}{R:Nat->Int->Int->Prop}{s s' :yc}(h:pB n R s s'){t:Nat}(hl:t<s.zW.length)(HN:t<s'.zW.length){y:TS}{u:Int}(hR:t<n->R t y.pc u):pB n R (s.yt t y) (s'.yt t { y with pc:=u }):=by
 refine ⟨V,V,V,λv hv=>?_,λv hv=>?_,λv hv=>?_⟩
 ·rw [xI hl,xI HN];split
  ·rfl
  ·exact h.ze v hv
 ·rw [xI hl,xI HN];split
  ·rfl
  ·exact h.wait v hv
 ·rw [xI hl,xI HN];split
  ·rename_i e;subst e;exact hR hv
  ·exact h.pc v hv
theorem vi {p:Pg}{s:yc} :ended p s=true↔∀t,t<p.code.length->¬(nth s.zW t).pc<((nth p.code t).length:Int)/\(nth s.zW t).wait.length=0:=by
 unfold ended
 rw [UK]
 simp only [List.mem_range,qI,decide_eq_true_eq]
theorem QH {m:Int}{c:List Ins}{x:TS}(h1:x.pc<c.length)(h2:q7 x.owner x.wait.length (zo c x.pc)=true):xp m c x 0=true:=by
 unfold xp vT
 rw [if_pos V,decide_eq_true h1,h2];rfl
theorem Reach.len {p:Pg}{m:Int}(zR:yJ p){s:yc}(h:Reach p m s){t:Nat}(ht:t<p.code.length):t<s.zW.length:=by rw [(h.wf zR).zW];exact ht
theorem oT {m:Int}{n:Nat}{i:Ins}{a:Int}{x:TS}(h:i.op=14):zJ m n { i with a:=a } x= { x with pc:=a } :=ko (i:= { i with a:=a }) h
theorem Lq {m:Int}{n:Nat}{i:Ins}{b:Int}{x:TS}(h:i.op=15)(hz:x.xQ i.a=0):zJ m n { i with b:=b } x= { x with pc:=b } :=jQ (i:= { i with b:=b }) h hz
theorem Lt {m:Int}{n:Nat}{i:Ins}{b:Int}{x:TS}(h:i.op=15)(hz:¬x.xQ i.a=0):zJ m n { i with b:=b } x=x:=jR (i:= { i with b:=b }) h hz
theorem Al {p q:Pg}{R:Nat->Int->Int->Prop}(hl:q.code.length=p.code.length)(hw:q.words=p.words)(hk:q.zm=p.zm)(hr:q.ze=p.ze)(h0:∀t,t<p.code.length->R t 0 0):pB p.code.length R (yr p) (yr q):=by
 have e:∀(p:Pg) t,t<p.code.length->nth (yr p).zW t=⟨0,List.replicate p.ze.toNat 0,[]⟩:=λp t ht=>zI _ _ _ ht
 refine ⟨hw,by unfold yr;rw [hk],V,λt ht=>?_,λt ht=>?_,λt ht=>?_⟩
 ·rw [e p t ht,e q t za,hr]
 ·rw [e p t ht,e q t za]
 ·rw [e p t ht,e q t za];exact h0 t ht
theorem ZZ {p:Pg}{m:Int}{s:yc}{t:Nat} :stepT p m s t 0=zJ m t (zo (nth p.code t) (s.view t).pc) { s.view t with pc:=(s.view t).pc+1 } :=xO V
theorem Kb (B:Nat->Ins->List Ins)(code:List Ins):∀n,n<=code.length->((List.range n).flatMap λi=>(B i (nth code i)).map (Vx (wR B code) code i)).length=y6 (wR B code) n/\
  ∀i k,i<n->k<(B i (nth code i)).length->nth ((List.range n).flatMap λi=>(B i (nth code i)).map (Vx (wR B code) code i)) (y6 (wR B code) i+k)=Vx (wR B code) code i (nth (B i (nth code i)) k)/\y6 (wR B code) i+k<y6 (wR B code) n
 |0,_=>⟨by simp [y6],λi k hi=>absurd hi za⟩
 |n+1,h=>by
  obtain ⟨h1,h2⟩:=Kb B code n za
  have hp:y6 (wR B code) (n+1)=y6 (wR B code) n+(B n (nth code n)).length:=by
   rw [Vi _ _ (by rw [lM];omega),GN _ _ _ za]
  rw [YG,XR,kF,JR,k6]
  refine ⟨by rw [yX,h1,hp,yw],λi k hi hk=>?_⟩
  rcases yq i n with qU|Vs
  ·obtain ⟨e1,e2⟩:=h2 i k qU hk
   exact ⟨by rw [wy,if_pos (by rw [h1];exact e2)];exact e1,za⟩
  ·obtain rfl:i=n:=za
   refine ⟨?_,za⟩
   rw [wy,if_neg (by rw [h1];omega),h1,Nat.add_sub_cancel_left,zI _ _ _ hk]
theorem Uk (B:Nat->Ins->List Ins)(code:List Ins):(Ul B code).length=y6 (wR B code) code.length:=(Kb B code _ (qC _)).1
theorem fU (B:Nat->Ins->List Ins)(code:List Ins){i k:Nat}(hi:i<code.length)(hk:k<(B i (nth code i)).length):nth (Ul B code) (y6 (wR B code) i+k)=Vx (wR B code) code i (nth (B i (nth code i)) k)/\y6 (wR B code) i+k<(Ul B code).length:=by
 rw [Uk];exact (Kb B code _ (qC _)).2 i k hi hk
theorem W9 (B:Nat->Ins->List Ins)(code:List Ins){i:Nat}(hi:i<code.length):y6 (wR B code) (i+1)=y6 (wR B code) i+(B i (nth code i)).length:=by
 rw [Vi _ _ (by rw [lM];exact hi),GN _ _ _ hi]
theorem mX (B:Nat->Ins->List Ins)(code:List Ins){i j:Nat}(Tk:i<=j)(hj:j<=code.length):y6 (wR B code) i<=y6 (wR B code) j:=by
 induction j with
 |zero=>exact (show i=0 from za)▸qC _
 |succ j ih=>
  rcases Nat.eq_or_lt_of_le Tk with e|h
  ·rw [e];exact qC _
  ·have:=ih za za
   rw [W9 B code za];omega
theorem Dc (B:Nat->Ins->List Ins)(code:List Ins):∀n,n<=code.length->∀j,j<y6 (wR B code) n->∃i k,i<n/\k<(B i (nth code i)).length/\j=y6 (wR B code) i+k
 |0,_,j,hj=>by simp [y6] at hj
 |n+1,hn,j,hj=>by
  rw [W9 B code za] at hj
  rcases yq j (y6 (wR B code) n) with h|h
  ·obtain ⟨i,k,h1,h2,h3⟩:=Dc B code n za j h
   exact ⟨i,k,za,h2,h3⟩
  ·exact ⟨n,j-y6 (wR B code) n,za,za,za⟩
def Kg (op:Int):Prop:=op=9\/op=11\/op=18
theorem Kq {m m' :Int}{n:Nat}{i:Ins}{x:TS}(h:¬Kg i.op):zJ m n i x=zJ m' n i x/\(zJ m n i x).wait=x.wait/\(i.op≠17->(zJ m n i x).owner=x.owner)/\(i.op=17->(zJ m n i x).owner=x.owner.set i.a.toNat n)/\(i.op=17->(zJ m n i x).zq=x.zq):=by
 have h9:i.op≠9:=λe=>h (.inl e)
 have Pb:i.op≠11:=λe=>h (.inr (.inl e))
 have jc:i.op≠18:=λe=>h (.inr (.inr e))
 by_cases e1:i.op=1
 ·rw [Qc e1,Qc e1];exact ⟨V,V,λ_=>rfl,λe=>absurd e za,λe=>absurd e za⟩
 by_cases e2:i.op=2
 ·rw [Qb e2,Qb e2];exact ⟨V,V,λ_=>rfl,λe=>absurd e za,λe=>absurd e za⟩
 by_cases e3:i.op=3
 ·rw [Qa e3,Qa e3];exact ⟨V,V,λ_=>rfl,λe=>absurd e za,λe=>absurd e za⟩
 by_cases e4:i.op=4
 ·rw [Z9 e4,Z9 e4];exact ⟨V,V,λ_=>rfl,λe=>absurd e za,λe=>absurd e za⟩
 by_cases e5:i.op=5
 ·rw [Z8 e5,Z8 e5];exact ⟨V,V,λ_=>rfl,λe=>absurd e za,λe=>absurd e za⟩
 by_cases e6:i.op=6
 ·rw [Z7 e6,Z7 e6];exact ⟨V,V,λ_=>rfl,λe=>absurd e za,λe=>absurd e za⟩
 by_cases e7:i.op=7
 ·rw [Z6 e7,Z6 e7];exact ⟨V,V,λ_=>rfl,λe=>absurd e za,λe=>absurd e za⟩
 by_cases e8:i.op=8
 ·rw [Z5 e8,Z5 e8];exact ⟨V,V,λ_=>rfl,λe=>absurd e za,λe=>absurd e za⟩
 by_cases Wx:i.op=10
 ·by_cases hw:0<=x.xQ i.b/\x.xQ i.b<(x.words.length:Int)
  ·rw [vf Wx hw,vf Wx hw];exact ⟨V,V,λ_=>rfl,λe=>absurd e za,λe=>absurd e za⟩
  ·rw [vg Wx hw,vg Wx hw];exact ⟨V,V,λ_=>rfl,λe=>absurd e za,λe=>absurd e za⟩
 by_cases XX:i.op=13
 ·by_cases hw:nth x.words i.a.toNat=x.xQ i.b
  ·rw [vO XX hw,vO XX hw];exact ⟨V,V,λ_=>rfl,λe=>absurd e za,λe=>absurd e za⟩
  ·rw [vP XX hw,vP XX hw];exact ⟨V,V,λ_=>rfl,λe=>absurd e za,λe=>absurd e za⟩
 by_cases bm:i.op=14
 ·rw [ko bm,ko bm];exact ⟨V,V,λ_=>rfl,λe=>absurd e za,λe=>absurd e za⟩
 by_cases GH:i.op=15
 ·by_cases hw:x.xQ i.a=0
  ·rw [jQ GH hw,jQ GH hw];exact ⟨V,V,λ_=>rfl,λe=>absurd e za,λe=>absurd e za⟩
  ·rw [jR GH hw,jR GH hw];exact ⟨V,V,λ_=>rfl,λe=>absurd e za,λe=>absurd e za⟩
 by_cases He:i.op=16
 ·rw [kZ He,kZ He];exact ⟨V,V,λ_=>rfl,λe=>absurd e za,λe=>absurd e za⟩
 by_cases KG:i.op=17
 ·rw [kY KG,kY KG];exact ⟨V,V,λe=>absurd KG e,λ_=>rfl,λ_=>rfl⟩
 rw [wB ⟨e1,e2,e3,e4,e5,e6,e7,e8,h9,Wx,Pb,XX,bm,GH,He,KG,jc⟩,wB ⟨e1,e2,e3,e4,e5,e6,e7,e8,h9,Wx,Pb,XX,bm,GH,He,KG,jc⟩]
 exact ⟨V,V,λ_=>rfl,λe=>absurd e KG,λe=>absurd e KG⟩
theorem lC {n:Nat}{i:Ins}{x:TS} :(zJ 0 n i x).wait=x.wait:=by
 have hs:∀(x:TS) w,(x.store 0 w).wait=x.wait:=λx w=>by unfold TS.store;rw [if_neg zf];rfl
 by_cases h:Kg i.op
 ·rcases h with h|h|h
  ·rw [Z4 h,hs]
  ·by_cases hw:0<=x.xQ i.a/\x.xQ i.a<(x.words.length:Int)
   ·rw [vQ h hw,hs]
   ·rw [vR h hw]
  ·by_cases hw:nth x.owner i.a.toNat≠n
   ·rw [va h hw]
   ·by_cases hh:∃j,j<x.wait.length/\(nth x.wait j).lock=true/\(nth x.wait j).wh=i.a
    ·obtain ⟨j,hj,h1,h2⟩:=hh
     rw [wK h hw j hj h1 h2]
    ·rw [vN h hw (λq hq hc=>hh ⟨q,hq,hc⟩),hs]
 ·exact (Kq (m' :=0) h).2.1
theorem Reach.ku {p:Pg}{s:yc}(zR:yJ p)(h:Reach p 0 s):∀t,t<p.code.length->(nth s.zW t).wait= []:=by
 induction h with
 |start=>intro t ht;unfold yr;rw [zI _ _ _ ht]
 |step hr ht hk hf ih=>
  rename_i s t k
  intro u hu
  rw [xI (hr.len zR ht)]
  split
  ·rename_i e;subst e
   have h0:(s.view t).wait= []:=ih t ht
   rcases kj hk with ⟨rfl,_,_⟩|⟨h1,h2,_⟩
   ·show (stepT p 0 s t 0).wait= []
    rw [ZZ,lC];exact h0
   ·rw [h0] at h2;simp at h2;omega
  ·exact ih u hu
section
variable (c:List Ins)
def wF (i:Nat):Bool:=kb (nth c i).op
def pF (i:Nat):Nat:=y6 (wR (Q4 (wF c)) c) i
def J5 :List Ins:=JD (wF c) c
end
section
variable {c:List Ins}
theorem mq {i:Nat} :wF c i=true↔Kg (nth c i).op:=by unfold wF kb Kg;simp
theorem R5 :(J5 c).length=pF c c.length:=by unfold J5;rw [<-Rl,Uk];rfl
theorem GF {i:Nat} :(Q4 (wF c) i (nth c i)).length=if wF c i=true then 2 else 1:=by unfold Q4 DX;split<;>rfl
theorem cx {i:Nat}(h:i<c.length):pF c (i+1)=pF c i+if wF c i=true then 2 else 1:=by
 unfold pF
 rw [W9 _ _ h,GF]
theorem WG {i:Nat}(h:i<c.length):nth (J5 c) (pF c i)=Vx (wR (Q4 (wF c)) c) c i (nth c i)/\pF c i<(J5 c).length:=by
 have h1:=fU (Q4 (wF c)) c (k:=0) h (by rw [GF];split<;>omega)
 rw [Rl] at h1
 have e:nth (Q4 (wF c) i (nth c i)) 0=nth c i:=by unfold Q4 DX;split<;>rfl
 rw [e] at h1
 exact h1
theorem Xy {i:Nat}(h:i<c.length)(hw:wF c i=true):nth (J5 c) (pF c i+1)=⟨12,0,0,0⟩/\pF c i+1<(J5 c).length:=by
 have h1:=fU (Q4 (wF c)) c (k:=1) h (by rw [GF,if_pos hw];omega)
 rw [Rl] at h1
 have e:nth (Q4 (wF c) i (nth c i)) 1=⟨12,0,0,0⟩:=by unfold Q4 DX;rw [if_pos hw];rfl
 rw [e] at h1
 refine ⟨h1.1.trans ?_,h1.2⟩
 unfold Vx
 rw [if_neg (λh=>absurd h.1 zf),if_neg (λh=>absurd h.1 zf)]
theorem kA {i:Nat}(h:i<c.length)(xd:(nth c i).op≠14)(xr:(nth c i).op≠15):nth (J5 c) (pF c i)=nth c i:=by
 rw [(WG h).1]
 unfold Vx
 rw [if_neg (λhh=>xd hh.1),if_neg (λhh=>xr hh.1)]
theorem dx {i:Nat}(h:i<c.length)(xd:(nth c i).op=14):nth (J5 c) (pF c i)= { nth c i with a:=pF c (nth c i).a.toNat } :=by
 rw [(WG h).1]
 unfold Vx
 rw [if_pos ⟨xd,.inl xd⟩];rfl
theorem DW {i:Nat}(h:i<c.length)(xr:(nth c i).op=15):nth (J5 c) (pF c i)= { nth c i with b:=pF c (nth c i).b.toNat } :=by
 rw [(WG h).1]
 unfold Vx
 rw [if_neg (λhh=>za),if_pos ⟨xr,xr⟩];rfl
theorem zgn {i:Nat}(h:i<=c.length):pF c i<=(J5 c).length:=by
 rw [R5]
 exact mX _ _ h (qC _)
end
section
variable {p:Pg}
def qz (p:Pg):Pg:= { p with code:=p.code.map J5 }
theorem xm :(qz p).code.length=p.code.length:=by simp [qz]
theorem xq {t:Nat}(h:t<p.code.length):nth (qz p).code t=J5 (nth p.code t):=zI _ _ _ h
theorem yJ.EM (zR:yJ p){t:Nat}(ht:t<p.code.length):Ry (nth p.code t):=λi hi=>(zR.uD ht hi).2
theorem y8 {c:List Ins}{x:TS}{i:Nat}(h:x.pc=(i:Int))(hi:i<c.length):zo c x.pc=nth c i:=by rw [h,vL za];simp
theorem lz (zR:yJ p){m m' :Int}{t i:Nat}(ht:t<p.code.length)(hi:i<(nth p.code t).length)(F6:¬Kg (nth (nth p.code t) i).op)(x:TS):
  ∃j:Nat,j<=(nth p.code t).length/\(zJ m t (nth (nth p.code t) i) { x with pc:=(i:Int)+1 }).pc=(j:Int)/\
   zJ m' t (nth (J5 (nth p.code t)) (pF (nth p.code t) i)) { x with pc:=(pF (nth p.code t) i:Int)+1 } = { zJ m t (nth (nth p.code t) i) { x with pc:=(i:Int)+1 } with pc:=(pF (nth p.code t) j:Int) } :=by
 have hw:¬wF (nth p.code t) i=true:=λh=>F6 (mq.1 h)
 have hs:=cx hi
 rw [if_neg hw] at hs
 have hj:=zR.EM ht i hi
 by_cases xd:(nth (nth p.code t) i).op=14
 ·have ha:=hj.1 xd
  refine ⟨(nth (nth p.code t) i).a.toNat,za,?_,?_⟩
  ·rw [ko xd];show (nth (nth p.code t) i).a=_;omega
  ·rw [dx hi xd,ko xd];exact oT xd
 by_cases xr:(nth (nth p.code t) i).op=15
 ·have hb:=hj.2 xr
  by_cases hz:x.xQ (nth (nth p.code t) i).a=0
  ·refine ⟨(nth (nth p.code t) i).b.toNat,za,?_,?_⟩
   ·rw [jQ (x:= { x with pc:=(i:Int)+1 }) xr hz];show (nth (nth p.code t) i).b=_;omega
   ·rw [DW hi xr,jQ (x:= { x with pc:=(i:Int)+1 }) xr hz];exact Lq (x:= { x with pc:=(pF (nth p.code t) i:Int)+1 }) xr hz
  ·refine ⟨i+1,za,?_,?_⟩
   ·rw [jR (x:= { x with pc:=(i:Int)+1 }) xr hz];simp
   ·rw [DW hi xr,jR (x:= { x with pc:=(i:Int)+1 }) xr hz,hs]
    refine zU (Lt (x:= { x with pc:=(pF (nth p.code t) i:Int)+1 }) xr hz) ?_
    simp
 obtain ⟨f1,f2⟩:=Lu m t (nth (nth p.code t) i) { x with pc:=(i:Int)+1 } ((pF (nth p.code t) i:Int)+1) xd xr
 refine ⟨i+1,za,by rw [f2];simp,?_⟩
 rw [kA hi xd xr,(Kq (m:=m') (m' :=m) F6).1,hs]
 refine zU f1 ?_
 simp
def Zg (i:Ins)(ze:List Int):Wt:=if i.op=18 then ⟨true,i.a,0⟩ else if i.op=9 then ⟨false,i.a,nth ze i.b.toNat⟩ else ⟨false,nth ze i.a.toNat,nth ze i.b.toNat⟩
def QG (t:Nat)(i:Ins)(ze:List Int)(W:Nat)(owner:List Int):Prop:=(i.op=18->nth owner i.a.toNat=t)/\(i.op=11->0<=nth ze i.a.toNat/\nth ze i.a.toNat<(W:Int))
theorem Wd {m:Int}{t:Nat}{i:Ins}{x:TS}(hs:Kg i.op)(hw:x.wait= []):(QG t i x.ze x.words.length x.owner->zJ m t i x=x.store m (Zg i x.ze))/\(¬QG t i x.ze x.words.length x.owner->zJ m t i x= { x with zq:=true }):=by
 unfold QG Zg
 rcases hs with h|h|h
 ·refine ⟨λ_=>?_,λhn=>absurd ⟨λe=>za,λe=>za⟩ hn⟩
  rw [Z4 h,if_neg za,if_pos h];rfl
 ·refine ⟨λhp=>?_,λhn=>?_⟩
  ·rw [vQ h (hp.2 h),if_neg za,if_neg za];rfl
  ·rw [vR h λhh=>hn ⟨λe=>za,λ_=>hh⟩]
 ·refine ⟨λhp=>?_,λhn=>?_⟩
  ·rw [vN h (λhh=>hh (hp.1 h)) (λq hq=>by rw [hw] at hq;simp at hq),if_pos h]
  ·rw [va h λhh=>hn ⟨λ_=>hh,λe=>za⟩]
def FR (p:Pg)(t:Nat)(a b:Int):Prop:=∃i:Nat,a=i/\i<=(nth p.code t).length/\b=(pF (nth p.code t) i:Int)
theorem aB {s:yc}{t:Nat}{x y:TS} :(s.yt t x).yt t y=s.yt t y:=by
 unfold yc.yt
 simp only [List.set_set]
theorem K8 {i:Ins}(h:Kg i.op):i.op≠14/\i.op≠15:=by unfold Kg at h;omega
theorem Rx {i:Ins}{owner:List Int}(h:Kg i.op):q7 owner 0 i=true:=by
 unfold q7
 unfold Kg at h
 rw [if_pos h];rfl
theorem three (hq:yJ (qz p)){s' :yc}{t i:Nat}(GW:Reach (qz p) 1 s')(ht:t<p.code.length)(hi:i<(nth p.code t).length)(hs:Kg (nth (nth p.code t) i).op)(hb:(nth s'.zW t).pc=(pF (nth p.code t) i:Int))(hw:(nth s'.zW t).wait= [])
  (hp:QG t (nth (nth p.code t) i) (nth s'.zW t).ze s'.words.length s'.owner):Reach (qz p) 1 (s'.yt t { (s'.view t).done (Zg (nth (nth p.code t) i) (nth s'.zW t).ze) with pc:=(pF (nth p.code t) (i+1):Int),wait:= [] }):=by
 have qY:=xq ht
 have si:t<(qz p).code.length:=by rw [xm];exact ht
 have HN:=GW.len hq si
 obtain ⟨n14,n15⟩:=K8 hs
 have hwF:wF (nth p.code t) i=true:=mq.2 hs
 have xv:=kA hi n14 n15
 obtain ⟨hf1,hf2⟩:=Xy hi hwF
 have E1:=cx hi
 rw [if_pos hwF] at E1
 have hv:(s'.view t).pc=(pF (nth p.code t) i:Int):=hb
 have hn:zo (nth (qz p).code t) (s'.view t).pc=nth (nth p.code t) i:=by rw [qY,y8 hv za,xv]
 have e1:stepT (qz p) 1 s' t 0= { s'.view t with pc:=(pF (nth p.code t) i:Int)+1,wait:= [Zg (nth (nth p.code t) i) (nth s'.zW t).ze] } :=by
  rw [ZZ,hn,hv]
  rw [(Wd (m:=1) (t:=t) (x:= { s'.view t with pc:=(pF (nth p.code t) i:Int)+1 }) hs hw).1 hp]
  unfold TS.store
  rw [if_pos zf]
  show ({ s'.view t with pc:=_,wait:=(nth s'.zW t).wait++ [_] } :TS)=_
  rw [hw];rfl
 have S4:=Reach.step GW si (QH (by rw [qY,hv];omega) (by rw [hn];show q7 _ (nth s'.zW t).wait.length _=true;rw [hw];exact Rx hs)) (by rw [e1];rfl)
 rw [e1] at S4
 have hv1:=ZM (s:=s') (t:=t) (y:= { s'.view t with pc:=(pF (nth p.code t) i:Int)+1,wait:= [Zg (nth (nth p.code t) i) (nth s'.zW t).ze] }) HN
 have e2:stepT (qz p) 1 (s'.yt t { s'.view t with pc:=(pF (nth p.code t) i:Int)+1,wait:= [Zg (nth (nth p.code t) i) (nth s'.zW t).ze] }) t 1= { (s'.view t).done (Zg (nth (nth p.code t) i) (nth s'.zW t).ze) with pc:=(pF (nth p.code t) i:Int)+1,wait:= [] } :=by
  unfold stepT;rw [hv1];rfl
 have l3:=Reach.step S4 si (k:=1) (by rw [hv1];rfl) (by rw [e2];rfl)
 rw [e2,aB] at l3
 have Ou:=ZM (s:=s') (t:=t) (y:= { (s'.view t).done (Zg (nth (nth p.code t) i) (nth s'.zW t).ze) with pc:=(pF (nth p.code t) i:Int)+1,wait:= [] }) HN
 have Fy:((s'.yt t { (s'.view t).done (Zg (nth (nth p.code t) i) (nth s'.zW t).ze) with pc:=(pF (nth p.code t) i:Int)+1,wait:= [] }).view t).pc=((pF (nth p.code t) i+1:Nat):Int):=by rw [Ou];simp
 have BZ:zo (nth (qz p).code t) ((s'.yt t { (s'.view t).done (Zg (nth (nth p.code t) i) (nth s'.zW t).ze) with pc:=(pF (nth p.code t) i:Int)+1,wait:= [] }).view t).pc=⟨12,0,0,0⟩:=by rw [qY,y8 Fy hf2,hf1]
 have e3:stepT (qz p) 1 (s'.yt t { (s'.view t).done (Zg (nth (nth p.code t) i) (nth s'.zW t).ze) with pc:=(pF (nth p.code t) i:Int)+1,wait:= [] }) t 0= { (s'.view t).done (Zg (nth (nth p.code t) i) (nth s'.zW t).ze) with pc:=(pF (nth p.code t) (i+1):Int),wait:= [] } :=by
  rw [ZZ,BZ,Fy,Ou,wB zf,E1]
  simp
  exact ⟨za,V⟩
 have Fs:=Reach.step l3 si (QH (by rw [qY,Fy];omega) (by rw [BZ,Ou];rfl)) (by rw [e3];rfl)
 rw [e3,aB] at Fs
 exact Fs
theorem Lh (zR:yJ p)(hq:yJ (qz p)):∀o,jq p 0 o->jq (qz p) 1 o:=by
 refine RL (λs s' =>pB p.code.length (FR p) s s') ⟨_,.start,Al xm V V V λt ht=>⟨0,V,wX _,by simp [pF,y6]⟩⟩ ?_ ?_ ?_
 ·intro s s' t k hr GW hrel ht hk
  have hl:=hr.len zR ht
  have si:t<(qz p).code.length:=by rw [xm];exact ht
  have HN:=GW.len hq si
  have hw:=hr.ku zR t ht
  have SC:(nth s'.zW t).wait= []:=by rw [hrel.wait t ht];exact hw
  have hv:=hrel.view ht
  have qY:=xq ht
  rcases kj hk with ⟨rfl,qU,GY⟩|⟨h1,h2,_⟩
  case inr=>rw [show (s.view t).wait= [] from hw] at h2;simp at h2;omega
  obtain ⟨i,hi,V7,hb⟩:=hrel.pc t ht
  have wm:(s.view t).pc=(i:Int):=hi
  have iN:i<(nth p.code t).length:=by rw [wm] at qU;omega
  have hn:=y8 wm iN
  rw [hn] at GY
  have hst:=ZZ (p:=p) (m:=0) (s:=s) (t:=t)
  rw [hn,wm] at hst
  have xl:(s'.view t).pc=(pF (nth p.code t) i:Int):=hb
  have Rf:=(WG iN).2
  have BZ:zo (nth (qz p).code t) (s'.view t).pc=nth (J5 (nth p.code t)) (pF (nth p.code t) i):=by rw [qY];exact y8 xl Rf
  have Ov:=ZZ (p:=qz p) (m:=1) (s:=s') (t:=t)
  rw [BZ,xl] at Ov
  by_cases hs:Kg (nth (nth p.code t) i).op
  ·have hx:=Wd (m:=0) (t:=t) (x:= { s.view t with pc:=(i:Int)+1 }) hs hw
   by_cases hp:QG t (nth (nth p.code t) i) (nth s.zW t).ze s.words.length s.owner
   ·have e:=hx.1 hp
    rw [<-hst] at e
    have e0:stepT p 0 s t 0= { (s.view t).done (Zg (nth (nth p.code t) i) (nth s.zW t).ze) with pc:=(i:Int)+1 } :=by rw [e];unfold TS.store;rw [if_neg zf];rfl
    rw [if_neg (by rw [e0];exact XQ)]
    refine ⟨_,three hq GW ht iN hs hb SC (by rw [hrel.ze t ht,hrel.words,hrel.owner];exact hp),?_⟩
    rw [e0,hrel.ze t ht,hv]
    have h4:=hrel.put hl HN (y:= { (s.view t).done (Zg (nth (nth p.code t) i) (nth s.zW t).ze) with pc:=(i:Int)+1 }) (u:=(pF (nth p.code t) (i+1):Int)) (λ_=>⟨i+1,by simp,za,V⟩)
    have e5:({ ({ s.view t with pc:=(nth s'.zW t).pc } :TS).done (Zg (nth (nth p.code t) i) (nth s.zW t).ze) with pc:=(pF (nth p.code t) (i+1):Int),wait:= [] } :TS)= { ({ (s.view t).done (Zg (nth (nth p.code t) i) (nth s.zW t).ze) with pc:=(i:Int)+1 } :TS) with pc:=(pF (nth p.code t) (i+1):Int) } :=by
     unfold TS.done
     simp only [show (s.view t).wait= [] from hw]
    rw [e5];exact h4
   ·have e:=hx.2 hp
    rw [<-hst] at e
    rw [if_pos (by rw [e])]
    have cO:=(Wd (m:=1) (t:=t) (x:= { s'.view t with pc:=(pF (nth p.code t) i:Int)+1 }) hs SC).2 (by show¬QG t _ (nth s'.zW t).ze s'.words.length s'.owner;rw [hrel.ze t ht,hrel.words,hrel.owner];exact hp)
    have xv:=kA iN (K8 hs).1 (K8 hs).2
    rw [xv] at Ov BZ
    rw [<-Ov] at cO
    have:=jq.zq GW si (QH (by rw [qY,xl];omega) (by rw [BZ];show q7 _ (nth s'.zW t).wait.length _=true;rw [SC];exact Rx hs)) (by rw [cO])
    rw [cO] at this
    rw [e]
    have uK:(s'.view t).zd=(s.view t).zd:=hrel.zd
    rw [show ({ ({ s'.view t with pc:=(pF (nth p.code t) i:Int)+1 } :TS) with zq:=true } :TS).zd=(s.view t).zd from uK] at this
    exact this
  ·obtain ⟨j,Ti,hj1,Xg⟩:=lz zR (m:=0) (m' :=1) ht iN hs (s.view t)
   have e2:stepT (qz p) 1 s' t 0= { stepT p 0 s t 0 with pc:=(pF (nth p.code t) j:Int) } :=by rw [Ov,hst,hv];exact Xg
   have lq:xp 1 (nth (qz p).code t) (s'.view t) 0=true:=by
    refine QH (by rw [qY,xl];omega) ?_
    rw [BZ,show (s'.view t).owner=(s.view t).owner from hrel.owner,show (s'.view t).wait.length=(s.view t).wait.length by show (nth s'.zW t).wait.length=_;rw [hrel.wait t ht];rfl]
    by_cases xd:(nth (nth p.code t) i).op=14
    ·rw [dx iN xd];unfold q7;simp [xd]
    by_cases xr:(nth (nth p.code t) i).op=15
    ·rw [DW iN xr];unfold q7;simp [xr]
    rw [kA iN xd xr];exact GY
   split
   ·rename_i hf
    have:=jq.zq GW si lq (by rw [e2];exact hf)
    rw [e2] at this;exact this
   ·rename_i hf
    refine ⟨_,.step GW si lq (by rw [e2];simpa using hf),?_⟩
    rw [e2]
    exact hrel.put hl HN λ_=>⟨j,by rw [hst];exact hj1,Ti,V⟩
 ·intro s s' hr GW hrel he
  have oB:=vi.1 he
  have:ended (qz p) s' =true:=vi.2 λt ht=>by
   rw [xm] at ht
   obtain ⟨h1,h2⟩:=oB t ht
   obtain ⟨i,hi,V7,hb⟩:=hrel.pc t ht
   rw [xq ht,hrel.wait t ht]
   refine ⟨?_,h2⟩
   rw [hi] at h1
   obtain rfl:i=(nth p.code t).length:=za
   rw [hb,R5];omega
  have h2:=jq.done GW this
  rw [hrel.words,hrel.zd] at h2
  exact h2
 ·intro s s' hr GW hrel he hst
  have zpM:Xo (qz p) 1 s' :=by
   intro u k hu
   rw [xm] at hu
   cases hc:xp 1 (nth (qz p).code u) (s'.view u) k with
   |false=>rfl
   |true=>
    exfalso
    have hw:=hr.ku zR u hu
    have SC:(s'.view u).wait= []:=by show (nth s'.zW u).wait= [];rw [hrel.wait u hu];exact hw
    rcases kj hc with ⟨rfl,h3,h4⟩|⟨h3,h4,_⟩
    case inr=>rw [SC] at h4;simp at h4;omega
    obtain ⟨i,hi,V7,hb⟩:=hrel.pc u hu
    have xl:(s'.view u).pc=(pF (nth p.code u) i:Int):=hb
    have qU:i<(nth p.code u).length:=by
     rcases yq i (nth p.code u).length with h|h
     ·exact h
     ·obtain rfl:i=(nth p.code u).length:=za
      rw [xl,xq hu,R5] at h3;omega
    have BZ:zo (nth (qz p).code u) (s'.view u).pc=nth (J5 (nth p.code u)) (pF (nth p.code u) i):=by rw [xq hu];exact y8 xl (WG qU).2
    have h0:=hst u 0 hu
    have wm:(s.view u).pc=(i:Int):=hi
    rw [BZ,SC] at h4
    have:xp 0 (nth p.code u) (s.view u) 0=true:=QH (by rw [wm];omega) (by
     rw [y8 wm qU,show (s.view u).wait= [] from hw]
     by_cases xd:(nth (nth p.code u) i).op=14
     ·unfold q7;simp [xd]
     by_cases xr:(nth (nth p.code u) i).op=15
     ·unfold q7;simp [xr]
     rw [kA qU xd xr] at h4
     rw [show (s.view u).owner=(s'.view u).owner from hrel.owner.symm];exact h4)
    rw [this] at h0;cases h0
  have Qo:ended (qz p) s' =false:=by
   cases hc:ended (qz p) s' with
   |false=>rfl
   |true=>
    exfalso
    have oB:=vi.1 hc
    have:ended p s=true:=vi.2 λt ht=>by
     obtain ⟨a1,a2⟩:=oB t (by rw [xm];exact ht)
     obtain ⟨i,hi,V7,hb⟩:=hrel.pc t ht
     rw [hrel.wait t ht] at a2
     refine ⟨?_,a2⟩
     rw [hi]
     rw [hb,xq ht] at a1
     rcases yq i (nth p.code t).length with h|h
     ·have:=(WG h).2;omega
     ·omega
    rw [this] at he;cases he
  have h2:=jq.stuck GW Qo zpM
  rw [hrel.words,hrel.zd] at h2
  exact h2
end
def Ga (op:Int):Prop:=op=9\/op=11\/op=18
structure pJ where
 pc:Int
 ze:List Int
 wt:Option Wt
 cs:Option (Int×Int)
 lk:Option Int
 pr:List Int
 zq:Bool
def tQ (i:Ins)(x:TS):Int:=match qp i x.ze x.words.length with
 |some q=>x.JM q.1
 |none=>0
def ZH (t:Nat)(i:Ins)(x:TS):Bool:=decide (nth x.owner i.a.toNat=(t:Int))&& !x.holds i.a
def vV (t:Nat)(i:Ins)(pc:Int)(ze:List Int)(W:Nat)(rd:Int)(QZ:Bool):pJ:=
 if i.op=1 then ⟨pc,ze.set i.a.toNat i.b,none,none,none,[],false⟩
 else if i.op=2 then ⟨pc,ze.set i.a.toNat (nth ze i.b.toNat),none,none,none,[],false⟩
 else if i.op=3 then ⟨pc,ze.set i.a.toNat (wrap64 (nth ze i.b.toNat+nth ze i.c.toNat)),none,none,none,[],false⟩
 else if i.op=4 then ⟨pc,ze.set i.a.toNat (wrap64 (nth ze i.b.toNat-nth ze i.c.toNat)),none,none,none,[],false⟩
 else if i.op=5 then ⟨pc,ze.set i.a.toNat (wrap64 (nth ze i.b.toNat*nth ze i.c.toNat)),none,none,none,[],false⟩
 else if i.op=6 then ⟨pc,ze.set i.a.toNat (bit (decide (nth ze i.b.toNat<nth ze i.c.toNat))),none,none,none,[],false⟩
 else if i.op=7 then ⟨pc,ze.set i.a.toNat (bit (decide (nth ze i.b.toNat=nth ze i.c.toNat))),none,none,none,[],false⟩
 else if i.op=8 then ⟨pc,ze.set i.a.toNat rd,none,none,none,[],false⟩
 else if i.op=9 then ⟨pc,ze,some ⟨false,i.a,nth ze i.b.toNat⟩,none,none,[],false⟩
 else if i.op=10 then (if 0<=nth ze i.b.toNat/\nth ze i.b.toNat<(W:Int) then ⟨pc,ze.set i.a.toNat rd,none,none,none,[],false⟩ else ⟨pc,ze,none,none,none,[],true⟩)
 else if i.op=11 then (if 0<=nth ze i.a.toNat/\nth ze i.a.toNat<(W:Int) then ⟨pc,ze,some ⟨false,nth ze i.a.toNat,nth ze i.b.toNat⟩,none,none,[],false⟩ else ⟨pc,ze,none,none,none,[],true⟩)
 else if i.op=13 then (if rd=nth ze i.b.toNat then ⟨pc,ze.set i.b.toNat 1,none,some (i.a,nth ze i.c.toNat),none,[],false⟩ else ⟨pc,ze.set i.b.toNat 0,none,none,none,[],false⟩)
 else if i.op=14 then ⟨i.a,ze,none,none,none,[],false⟩
 else if i.op=15 then (if nth ze i.a.toNat=0 then ⟨i.b,ze,none,none,none,[],false⟩ else ⟨pc,ze,none,none,none,[],false⟩)
 else if i.op=16 then ⟨pc,ze,none,none,none,[(t:Int),nth ze i.a.toNat],false⟩
 else if i.op=17 then ⟨pc,ze,none,none,some i.a,[],false⟩
 else if i.op=18 then (if QZ=true then ⟨pc,ze,some ⟨true,i.a,0⟩,none,none,[],false⟩ else ⟨pc,ze,none,none,none,[],true⟩)
 else ⟨pc,ze,none,none,none,[],false⟩
def wM (l:List Int):Option (Int×Int)->List Int
 |some q=>l.set q.1.toNat q.2
 |none=>l
def xz (l:List Int)(t:Nat):Option Int->List Int
 |some a=>l.set a.toNat t
 |none=>l
def vA (t:Nat)(x:TS)(f:pJ):TS:=⟨f.pc,f.ze,x.wait,wM x.words f.cs,xz x.owner t f.lk,x.zd++f.pr,f.zq⟩
def xw (m:Int)(t:Nat)(x:TS)(f:pJ):TS:=match f.wt with
 |some w=>(vA t x f).store m w
 |none=>vA t x f
theorem bd {words:List Int}{w:Int} :x4 [] words w=nth words w.toNat:=rfl
theorem Lo {m:Int}{t:Nat}{i:Ins}{x:TS}(hf:x.zq=false)(QO:i.op=13->x.wait= []):zJ m t i x=xw m t x (vV t i x.pc x.ze x.words.length (tQ i x) (ZH t i x)):=by
 obtain ⟨pc,ze,wait,words,owner,zd,zq⟩:=x
 simp only at hf QO
 subst hf
 have dis:∀n:Int,i.op=n->i.op=n:=λ_ h=>h
 unfold zJ
 by_cases e1:i.op=1
 ·simp [e1,vV,xw,vA,wM,xz,TS.put]
 by_cases e2:i.op=2
 ·simp [e2,vV,xw,vA,wM,xz,TS.put,TS.xQ]
 by_cases e3:i.op=3
 ·simp [e3,vV,xw,vA,wM,xz,TS.put,TS.xQ]
 by_cases e4:i.op=4
 ·simp [e4,vV,xw,vA,wM,xz,TS.put,TS.xQ]
 by_cases e5:i.op=5
 ·simp [e5,vV,xw,vA,wM,xz,TS.put,TS.xQ]
 by_cases e6:i.op=6
 ·simp [e6,vV,xw,vA,wM,xz,TS.put,TS.xQ];rfl
 by_cases e7:i.op=7
 ·simp [e7,vV,xw,vA,wM,xz,TS.put,TS.xQ];rfl
 by_cases e8:i.op=8
 ·simp [e8,vV,xw,vA,wM,xz,TS.put,TS.xQ,tQ,qp]
 by_cases e9:i.op=9
 ·simp [e9,vV,xw,vA,wM,xz,TS.put,TS.xQ]
 by_cases Wx:i.op=10
 ·by_cases hw:0<=nth ze i.b.toNat/\nth ze i.b.toNat<(words.length:Int)
  ·simp [Wx,vV,xw,vA,wM,xz,TS.put,TS.xQ,tQ,qp,TS.isWord,hw]
  ·simp [Wx,vV,xw,vA,wM,xz,TS.put,TS.xQ,tQ,qp,TS.isWord,hw]
 by_cases Kt:i.op=11
 ·by_cases hw:0<=nth ze i.a.toNat/\nth ze i.a.toNat<(words.length:Int)
  ·simp [Kt,vV,xw,vA,wM,xz,TS.put,TS.xQ,TS.isWord,hw]
  ·simp [Kt,vV,xw,vA,wM,xz,TS.put,TS.xQ,TS.isWord,hw]
 by_cases XX:i.op=13
 ·have hw:=QO XX
  subst hw
  by_cases hv:nth words i.a.toNat=nth ze i.b.toNat
  ·simp [XX,vV,xw,vA,wM,xz,TS.put,TS.xQ,tQ,qp,TS.JM,bd,hv]
  ·simp [XX,vV,xw,vA,wM,xz,TS.put,TS.xQ,tQ,qp,TS.JM,bd,hv]
 by_cases bm:i.op=14
 ·simp [bm,vV,xw,vA,wM,xz]
 by_cases GH:i.op=15
 ·by_cases hv:nth ze i.a.toNat=0
  ·simp [GH,vV,xw,vA,wM,xz,TS.xQ,hv]
  ·simp [GH,vV,xw,vA,wM,xz,TS.xQ,hv]
 by_cases He:i.op=16
 ·simp [He,vV,xw,vA,wM,xz,TS.xQ]
 by_cases KG:i.op=17
 ·simp [KG,vV,xw,vA,wM,xz]
 by_cases Jp:i.op=18
 ·by_cases h1:nth owner i.a.toNat=(t:Int)
  ·cases h2:TS.holds ⟨pc,ze,wait,words,owner,zd,false⟩ i.a
   ·simp [Jp,vV,xw,vA,wM,xz,ZH,h1,h2]
   ·simp [Jp,vV,xw,vA,wM,xz,ZH,h1,h2]
  ·simp [Jp,vV,xw,vA,wM,xz,ZH,h1]
 simp [e1,e2,e3,e4,e5,e6,e7,e8,e9,Wx,Kt,XX,bm,GH,He,KG,Jp,vV,xw,vA,wM,xz]
structure zax (i:Ins)(ze:List Int)(W:Nat)(QZ:Bool)(f:pJ):Prop where
 wt:∀q,f.wt=some q->f.cs=none/\f.lk=none/\f.zq=false/\Ga i.op/\((q.lock=false/\qp i ze W=some (q.wh,true))\/(q.lock=true/\i.op=18/\q.wh=i.a/\QZ=true))
 cs:∀q,f.cs=some q->f.lk=none/\i.op=13/\qp i ze W=some (q.1,false)
 lk:∀l,f.lk=some l->i.op=17/\l=i.a
 pr:f.zq=true->f.pr= []/\f.wt=none
def dL (f:pJ):Prop:=f.wt=none/\f.cs=none/\f.lk=none/\(f.zq=true->f.pr= [])
theorem ua {c:Prop}[Decidable c]{a b:pJ}(ha:dL a)(hb:dL b):dL (if c then a else b):=by split<;>assumption
theorem zdR {t:Nat}{i:Ins}{pc:Int}{ze:List Int}{W:Nat}{rd:Int}{QZ:Bool} :zax i ze W QZ (vV t i pc ze W rd QZ):=by
 by_cases e9:i.op=9
 ·constructor<;>simp [e9,vV,qp,Ga]
 by_cases Kt:i.op=11
 ·by_cases hw:0<=nth ze i.a.toNat/\nth ze i.a.toNat<(W:Int)
  ·constructor<;>simp [Kt,vV,qp,Ga,hw]
  ·constructor<;>simp [Kt,vV,qp,Ga,hw]
 by_cases XX:i.op=13
 ·by_cases hv:rd=nth ze i.b.toNat
  ·constructor<;>simp [XX,vV,qp,Ga,hv]
  ·constructor<;>simp [XX,vV,qp,Ga,hv]
 by_cases KG:i.op=17
 ·constructor<;>simp [KG,vV,qp,Ga]
 by_cases Jp:i.op=18
 ·cases QZ
  ·constructor<;>simp [Jp,vV,qp,Ga]
  ·constructor<;>simp [Jp,vV,qp,Ga]
 have hp:dL (vV t i pc ze W rd QZ):=by
  unfold vV
  simp only [if_neg e9,if_neg Kt,if_neg XX,if_neg KG,if_neg Jp]
  repeat' first|exact ⟨V,V,V,λ_=>rfl⟩|exact ⟨V,V,V,λh=>by cases h⟩|refine ua ?_ ?_
 obtain ⟨h1,h2,h3,h4⟩:=hp
 exact ⟨λq h=>(by rw [h1] at h;cases h),λq h=>(by rw [h2] at h;cases h),λq h=>(by rw [h3] at h;cases h),λh=>⟨h4 h,h1⟩⟩
theorem eM {p:Pg}(zR:yJ p){t:Nat}(ht:t<p.code.length){pc:Int}(h0:0<=pc)(h1:pc<((nth p.code t).length:Int)){ze:List Int}{q:Int×Bool}(h:qp (zo (nth p.code t) pc) ze p.words.length=some q):0<=q.1/\q.1<(p.words.length:Int):=by
 have hi:=(zR.uD ht (i:=pc.toNat) za).1
 rw [vL h1] at h
 unfold qp at h
 split at h
 ·rename_i e;cases h;exact (hi.o8 e).2
 split at h
 ·rename_i e;cases h;exact (hi.o9 e).1
 split at h
 ·rename_i e;cases h;exact (hi.o13 e).1
 split at h
 ·split at h
  ·rename_i e;cases h;exact e
  ·cases h
 split at h
 ·split at h
  ·rename_i e;cases h;exact e
  ·cases h
 ·cases h
theorem Cd {i:Ins}{ze:List Int}{W:Nat}{q:Int×Bool}(h:qp i ze W=some q):(i.op=8\/i.op=10\/i.op=13/\q.2=false)\/((i.op=9\/i.op=11)/\q.2=true)\/i.op=13:=by
 unfold qp at h
 split at h
 ·rename_i e;exact .inl (.inl e)
 split at h
 ·rename_i e;cases h;exact .inr (.inl ⟨.inl e,V⟩)
 split at h
 ·rename_i e;exact .inr (.inr e)
 split at h
 ·rename_i e;exact .inl (.inr (.inl e))
 split at h
 ·rename_i e
  split at h
  ·cases h;exact .inr (.inl ⟨.inr e,V⟩)
  ·cases h
 ·cases h
theorem RG {i:Ins}{ze:List Int}{W:Nat}{q:Int×Bool}(h:qp i ze W=some q)(owner:List Int):q7 owner 0 i=true:=by
 have:=Cd h
 unfold q7
 split
 ·rfl
 split
 ·rfl
 split
 ·rename_i e;omega
 ·rfl
theorem eF {c:List Ins}{x y:TS}{q:Int×Bool}(h:xC c x=some q)(hp:y.pc=x.pc)(hr:y.ze=x.ze)(hw:y.wait= [])(hl:y.words.length=x.words.length):xC c y=some q:=by
 unfold xC at h⊢
 split at h
 ·rename_i ha
  have qU:x.pc<(c.length:Int):=by
   unfold vT at ha
   simp only [qI,decide_eq_true_eq] at ha
   exact ha.1
  have h2:vT c y=true:=by
   unfold vT
   rw [hp,hw]
   simp only [qI,decide_eq_true_eq]
   exact ⟨qU,RG h _⟩
  rw [if_pos h2,hp,hr,hl];exact h
 ·cases h
theorem eD {c:List Ins}{y:TS}{q:Int×Bool}(qU:y.pc<(c.length:Int))(h:qp (zo c y.pc) y.ze y.words.length=some q)(hw:y.wait= []):xC c y=some q:=by
 unfold xC
 rw [if_pos]
 ·exact h
 ·unfold vT
  rw [hw]
  simp only [qI,decide_eq_true_eq]
  exact ⟨qU,RG h _⟩
def zme (p:Pg)(s:yc):Prop:=∃a b v x y,a≠b/\a<p.code.length/\b<p.code.length/\xC (nth p.code a) (s.view a)=some (v,x)/\xC (nth p.code b) (s.view b)=some (v,y)/\(x||y)=true
def Ar (p:Pg):Prop:=∀s,Reach p 0 s->¬zme p s
def gT (f:pJ)(l:List Int):List Int:=match f.wt with
 |some q=>if q.lock=true then wM l f.cs else (wM l f.cs).set q.wh.toNat q.qk
 |none=>wM l f.cs
def ZO (t:Nat)(f:pJ)(l:List Int):List Int:=match f.wt with
 |some q=>if q.lock=true then (xz l t f.lk).set q.wh.toNat (-1) else xz l t f.lk
 |none=>xz l t f.lk
theorem PJ {t:Nat}{x:TS}{f:pJ} :xw 0 t x f=⟨f.pc,f.ze,x.wait,gT f x.words,ZO t f x.owner,x.zd++f.pr,f.zq⟩:=by
 unfold xw gT ZO
 cases f.wt with
 |none=>rfl
 |some q=>
  simp only [TS.store,TS.done,vA]
  rfl
theorem PI {m:Int}(hm:0<m){t:Nat}{x:TS}{f:pJ} :xw m t x f=⟨f.pc,f.ze,x.wait++f.wt.toList,wM x.words f.cs,xz x.owner t f.lk,x.zd++f.pr,f.zq⟩:=by
 unfold xw
 cases h:f.wt with
 |none=>simp [vA]
 |some q=>
  simp only [TS.store,if_pos hm,vA]
  rfl
theorem Vd {l:List Int}{c:Option (Int×Int)} :(wM l c).length=l.length:=by cases c<;>simp [wM]
theorem Uo {l:List Int}{t:Nat}{c:Option Int} :(xz l t c).length=l.length:=by cases c<;>simp [xz]
theorem mn {f:pJ}{l:List Int} :(gT f l).length=l.length:=by
 unfold gT
 split
 ·split<;>simp [Vd]
 ·exact Vd
theorem Yb {l l' :List Int}{w i:Nat}{v:Int}(hl:l.length=l'.length)(h:nth l w=nth l' w):nth (l.set i v) w=nth (l'.set i v) w:=by
 rw [yL,yL,hl]
 split
 ·rfl
 ·exact h
theorem ez {l l' :List Int}{w:Nat}(f:pJ)(hl:l.length=l'.length)(h:nth l w=nth l' w):nth (gT f l) w=nth (gT f l') w:=by
 have h1:nth (wM l f.cs) w=nth (wM l' f.cs) w:=by
  cases f.cs with
  |none=>exact h
  |some q=>exact Yb hl h
 unfold gT
 split
 ·split
  ·exact h1
  ·exact Yb (by rw [Vd,Vd,hl]) h1
 ·exact h1
theorem fD {l l' :List Int}{w:Nat}(t:Nat)(f:pJ)(hl:l.length=l'.length)(h:nth l w=nth l' w):nth (ZO t f l) w=nth (ZO t f l') w:=by
 have h1:nth (xz l t f.lk) w=nth (xz l' t f.lk) w:=by
  cases f.lk with
  |none=>exact h
  |some q=>exact Yb hl h
 unfold ZO
 split
 ·split
  ·exact Yb (by rw [Uo,Uo,hl]) h1
  ·exact h1
 ·exact h1
def Qs (p:Pg)(e:yc)(t:Nat):pJ:=vV t (zo (nth p.code t) (nth e.zW t).pc) ((nth e.zW t).pc+1) (nth e.zW t).ze e.words.length (tQ (zo (nth p.code t) (nth e.zW t).pc) { e.view t with pc:=(e.view t).pc+1 }) (ZH t (zo (nth p.code t) (nth e.zW t).pc) { e.view t with pc:=(e.view t).pc+1 })
theorem eU {p:Pg}{m:Int}{e:yc}{t:Nat}(QO:(zo (nth p.code t) (nth e.zW t).pc).op=13->(nth e.zW t).wait= []):stepT p m e t 0=xw m t { e.view t with pc:=(e.view t).pc+1 } (Qs p e t):=by
 rw [ZZ]
 exact Lo V QO
theorem mI {p:Pg}{e:yc}{t:Nat}(hw:(nth e.zW t).wait= []):stepT p 0 e t 0=⟨(Qs p e t).pc,(Qs p e t).ze,[],gT (Qs p e t) e.words,ZO t (Qs p e t) e.owner,e.zd++(Qs p e t).pr,(Qs p e t).zq⟩:=by
 rw [eU λ_=>hw,PJ]
 show (⟨_,_,(nth e.zW t).wait,_,_,_,_⟩:TS)=_
 rw [hw]
 rfl
def Sm (e x:yc)(t:Nat):Prop:=(nth x.zW t).pc=(nth e.zW t).pc/\(nth x.zW t).ze=(nth e.zW t).ze
structure P1 (p:Pg)(e x:yc)(t:Nat)(r:Wt)(ws:List Wt):Prop where
 re:Reach p 0 x
 UW:∀u,u<p.code.length->u≠t->Sm e x u
 tch:r.lock=false->xC (nth p.code t) (x.view t)=some (r.wh,true)
 words:∀w:Nat,(∀q∈ws,q.lock=false->q.wh.toNat≠w)->nth x.words w=nth e.words w
 owner:∀l:Nat,(∀q∈ws,q.lock=true->q.wh.toNat≠l)->nth x.owner l=nth e.owner l
def J8 (p:Pg)(e:yc)(t:Nat):List (Wt×yc)->Prop
 | []=>True
 |r::rs=>P1 p e r.2 t r.1 (r.1::rs.map (·.1))/\J8 p e t rs
section
variable {p:Pg}{e:yc}{t u:Nat}
theorem J8.tail {a:List (Wt×yc)} :∀ {b:List (Wt×yc)},J8 p e t (b++a)->J8 p e t a
 | [],h=>h
 |_::b,h=>J8.tail (b:=b) h.2
theorem eE (zR:yJ p){x:yc}(hx:Reach p 0 x)(ht:t<p.code.length){q:Int×Bool}(h:xC (nth p.code t) (x.view t)=some q):0<=q.1/\q.1<(p.words.length:Int):=by
 have hw:=hx.wf zR
 unfold xC at h
 split at h
 ·rename_i ha
  unfold vT at ha
  simp only [qI,decide_eq_true_eq] at ha
  refine eM zR ht (hw.th t ht).pc.1 ha.1 (ze:=(x.view t).ze) ?_
  rw [<-hw.words];exact h
 ·cases h
theorem fL (zR:yJ p)(hf:Ar p)(he:Reach p 0 e)(hu:u<p.code.length)(ht:t<p.code.length)(lZ:u≠t)(qU:(nth e.zW t).pc<((nth p.code t).length:Int)){v:Int}{b:Bool}(h:qp (zo (nth p.code t) (nth e.zW t).pc) (nth e.zW t).ze p.words.length=some (v,b)):
  ∀ {L:List (Wt×yc)},J8 p e u L->∀r∈L,r.1.lock=false->r.1.wh.toNat≠v.toNat
 | [],_,r,hr,_=>by cases hr
 |a::L,hl,r,hr,hk=>by
  rcases List.mem_cons.1 hr with rfl|hr
  ·intro heq
   have h1:=hl.1
   have hx:=h1.re
   have Aw:=hx.wf zR
   obtain ⟨hp,hg⟩:=h1.UW t ht (λh=>lZ h.symm)
   have h2:=h1.tch hk
   have Vs:=eE zR hx hu h2
   have h3:xC (nth p.code t) (r.2.view t)=some (v,b):=by
    refine eD ?_ ?_ (hx.ku zR t ht)
    ·show (nth r.2.zW t).pc<_
     rw [hp];exact qU
    ·show qp (zo _ (nth r.2.zW t).pc) (nth r.2.zW t).ze r.2.words.length=_
     rw [hp,hg,Aw.words];exact h
   have DA:=eE zR hx ht h3
   have e2:r.1.wh=v:=by simp only at Vs DA;omega
   rw [e2] at h2
   exact hf _ hx ⟨u,t,v,true,b,lZ,hu,ht,h2,h3,V⟩
  ·exact fL zR hf he hu ht lZ qU h hl.2 r hr hk
theorem P1.step (zR:yJ p)(he:Reach p 0 e)(hu:u<p.code.length)(ht:t<p.code.length)(lZ:u≠t)(Xf:xp 0 (nth p.code t) (e.view t) 0=true)(hfe:(Qs p e t).zq=false){x:yc}{r:Wt}{ws:List Wt}(h:P1 p e x u r ws)
  (Xq:∀v b,qp (zo (nth p.code t) (nth e.zW t).pc) (nth e.zW t).ze p.words.length=some (v,b)->∀q∈ws,q.lock=false->q.wh.toNat≠v.toNat)
  (gv:(zo (nth p.code t) (nth e.zW t).pc).op=17\/(zo (nth p.code t) (nth e.zW t).pc).op=18->∀q∈ws,q.lock=true->q.wh.toNat≠(zo (nth p.code t) (nth e.zW t).pc).a.toNat):
  P1 p (e.yt t (stepT p 0 e t 0)) (x.yt t (stepT p 0 x t 0)) u r ws:=by
 have hx:=h.re
 have Aw:=hx.wf zR
 have hew:=he.wf zR
 obtain ⟨hp,hg⟩:=h.UW t ht (λh=>lZ h.symm)
 have Ax:=he.ku zR t ht
 have Jh:=hx.ku zR t ht
 have hle:=he.len zR ht
 have hlx:=hx.len zR ht
 have zw5:=he.len zR hu
 have zw4:=hx.len zR hu
 have Ye:tQ (zo (nth p.code t) (nth e.zW t).pc) { x.view t with pc:=(x.view t).pc+1 } =tQ (zo (nth p.code t) (nth e.zW t).pc) { e.view t with pc:=(e.view t).pc+1 } :=by
  unfold tQ
  show (match qp _ (nth x.zW t).ze x.words.length with|some q=>x4 (nth x.zW t).wait x.words q.1|none=>0)=(match qp _ (nth e.zW t).ze e.words.length with|some q=>x4 (nth e.zW t).wait e.words q.1|none=>0)
  rw [hg,Aw.words,hew.words,Jh,Ax]
  cases hq:qp (zo (nth p.code t) (nth e.zW t).pc) (nth e.zW t).ze p.words.length with
  |none=>rfl
  |some q=>exact h.words _ (λq9 h9 h8=>Xq q.1 q.2 hq q9 h9 h8)
 have hgd:(zo (nth p.code t) (nth e.zW t).pc).op=18->ZH t (zo (nth p.code t) (nth e.zW t).pc) { x.view t with pc:=(x.view t).pc+1 } =ZH t (zo (nth p.code t) (nth e.zW t).pc) { e.view t with pc:=(e.view t).pc+1 } :=λjc=>by
  unfold ZH TS.holds
  show (decide (nth x.owner _=_)&& !((nth x.zW t).wait.any _))=(decide (nth e.owner _=_)&& !((nth e.zW t).wait.any _))
  rw [Jh,Ax,h.owner _ (gv (.inr jc))]
 have hee:Qs p x t=Qs p e t:=by
  unfold Qs
  rw [hp,hg,Aw.words,hew.words,Ye]
  by_cases jc:(zo (nth p.code t) (nth e.zW t).pc).op=18
  ·rw [hgd jc]
  ·unfold vV
   simp only [if_neg jc]
 have hsx:=mI (p:=p) Jh
 have Dj:=mI (p:=p) Ax
 rw [hee] at hsx
 have hmx:xp 0 (nth p.code t) (x.view t) 0=true:=by
  rcases kj Xf with ⟨_,h1,h2⟩|⟨h1,_⟩
  case inr=>omega
  refine QH (by show (nth x.zW t).pc<_;rw [hp];exact h1) ?_
  show q7 x.owner (nth x.zW t).wait.length (zo _ (nth x.zW t).pc)=true
  have h3:q7 e.owner (nth e.zW t).wait.length (zo (nth p.code t) (nth e.zW t).pc)=true:=h2
  rw [Jh,hp]
  rw [Ax] at h3
  by_cases jk:(zo (nth p.code t) (nth e.zW t).pc).op=17
  ·unfold q7 at h3⊢
   rw [h.owner _ (gv (.inl jk))];exact h3
  ·unfold q7 at h3⊢
   simp only [if_neg jk] at h3⊢;exact h3
 have l3:Reach p 0 (x.yt t (stepT p 0 x t 0)):= .step hx ht hmx (by rw [hsx];exact hfe)
 refine ⟨l3,λv hv hvu=>?_,λhk=>?_,λw hw=>?_,λl hl=>?_⟩
 ·unfold Sm
  rw [xI hlx,xI hle]
  by_cases SE:t=v
  ·subst SE
   rw [if_pos V,if_pos V,hsx,Dj];exact ⟨V,V⟩
  ·rw [if_neg SE,if_neg SE];exact h.UW v hv hvu
 ·have h5:=h.tch hk
  have hv:=Je (s:=x) (t:=t) (u:=u) (y:=stepT p 0 x t 0) (λh=>lZ h.symm)
  refine eF h5 ?_ ?_ ?_ ?_
  ·rw [hv]
  ·rw [hv]
  ·rw [hv];exact hx.ku zR u hu
  ·rw [hv,hsx];exact mn
 ·show nth (stepT p 0 x t 0).words w=nth (stepT p 0 e t 0).words w
  rw [hsx,Dj]
  exact ez _ (by rw [Aw.words,hew.words]) (h.words w hw)
 ·show nth (stepT p 0 x t 0).owner l=nth (stepT p 0 e t 0).owner l
  rw [hsx,Dj]
  exact fD t _ (by rw [Aw.owner,hew.owner]) (h.owner l hl)
theorem J8.step (zR:yJ p)(he:Reach p 0 e)(hu:u<p.code.length)(ht:t<p.code.length)(lZ:u≠t)(Xf:xp 0 (nth p.code t) (e.view t) 0=true)(hfe:(Qs p e t).zq=false):∀ {L:List (Wt×yc)},J8 p e u L->
  (∀v b,qp (zo (nth p.code t) (nth e.zW t).pc) (nth e.zW t).ze p.words.length=some (v,b)->∀r∈L,r.1.lock=false->r.1.wh.toNat≠v.toNat)->
  ((zo (nth p.code t) (nth e.zW t).pc).op=17\/(zo (nth p.code t) (nth e.zW t).pc).op=18->∀r∈L,r.1.lock=true->r.1.wh.toNat≠(zo (nth p.code t) (nth e.zW t).pc).a.toNat)->
  J8 p (e.yt t (stepT p 0 e t 0)) u (L.map λr=>(r.1,r.2.yt t (stepT p 0 r.2 t 0)))
 | [],_,_,_=>trivial
 |a::L,h,Xq,gv=>by
  have e9:((a::L).map λr=>(r.1,r.2.yt t (stepT p 0 r.2 t 0)))=(a.1,a.2.yt t (stepT p 0 a.2 t 0))::(L.map λr=>(r.1,r.2.yt t (stepT p 0 r.2 t 0))):=rfl
  rw [e9]
  refine ⟨?_,J8.step zR he hu ht lZ Xf hfe h.2 (λv b hv r hr=>Xq v b hv r (xe _ hr)) (λho r hr=>gv ho r (xe _ hr))⟩
  have e8:(L.map λr=>(r.1,r.2.yt t (stepT p 0 r.2 t 0))).map (·.1)=L.map (·.1):=by simp
  rw [e8]
  refine h.1.step zR he hu ht lZ Xf hfe (λv b hv q hq=>?_) (λho q hq=>?_)
  ·rcases List.mem_cons.1 hq with rfl|hq
   ·exact Xq v b hv a (by simp)
   ·obtain ⟨r,hr,rfl⟩:=List.mem_map.1 hq
    exact Xq v b hv r (xe _ hr)
  ·rcases List.mem_cons.1 hq with rfl|hq
   ·exact gv ho a (by simp)
   ·obtain ⟨r,hr,rfl⟩:=List.mem_map.1 hq
    exact gv ho r (xe _ hr)
theorem J8.own (zR:yJ p)(he:Reach p 0 e)(ht:t<p.code.length)(f:Option Wt)
  (OG:∀w,(∀q,f=some q->q.lock=false->q.wh.toNat≠w)->nth (stepT p 0 e t 0).words w=nth e.words w) (Xq:∀l,(∀q,f=some q->q.lock=true->q.wh.toNat≠l)->nth (stepT p 0 e t 0).owner l=nth e.owner l)
  (hw:∀q,f=some q->q.lock=false->xC (nth p.code t) (e.view t)=some (q.wh,true)):∀ {L:List (Wt×yc)},J8 p e t L->J8 p (e.yt t (stepT p 0 e t 0)) t (L++(f.map λq=>(q,e)).toList)
 | [],_=>by
  cases f with
  |none=>trivial
  |some q=>
   refine ⟨⟨he,λv hv SE=>?_,λhk=>hw q V hk,λw hh=>?_,λl hh=>?_⟩,trivial⟩
   ·unfold Sm
    rw [xI (he.len zR ht),if_neg (λh=>SE h.symm)];exact ⟨V,V⟩
   ·exact (OG w λq' Vq hk=>by cases Vq;exact hh q (by simp) hk).symm
   ·exact (Xq l λq' Vq hk=>by cases Vq;exact hh q (by simp) hk).symm
 |a::L,h=>by
  refine ⟨⟨h.1.re,λv hv SE=>?_,h.1.tch,λw hh=>?_,λl hh=>?_⟩,J8.own zR he ht f OG Xq hw h.2⟩
  ·obtain ⟨h1,h2⟩:=h.1.UW v hv SE
   unfold Sm
   rw [xI (he.len zR ht),if_neg (λh=>SE h.symm)];exact ⟨h1,h2⟩
  ·rw [h.1.words w λq hq hk=>hh q (by rcases List.mem_cons.1 hq with rfl|hq;exact xx ..;exact xe _ (by show q∈List.map _ (L++_);rw [yi];exact GU _ hq)) hk]
   exact (OG w λq hq hk=>hh q (by subst hq;exact xe _ (by simp)) hk).symm
  ·rw [h.1.owner l λq hq hk=>hh q (by rcases List.mem_cons.1 hq with rfl|hq;exact xx ..;exact xe _ (by show q∈List.map _ (L++_);rw [yi];exact GU _ hq)) hk]
   exact (Xq l λq hq hk=>hh q (by subst hq;exact xe _ (by simp)) hk).symm
end
def jH (l:List Wt)(w:Int):Option Wt:=l.reverse.find? λx=> !x.lock&&decide (x.wh=w)
theorem UZ {l:List Wt}{w:Int}{q:Wt}(h:jH l w=some q):q∈l/\q.lock=false/\q.wh=w:=by
 have h1:=List.find?_some h
 have h2:=List.mem_of_find?_eq_some h
 simp only [qI,wE,decide_eq_true_eq] at h1
 exact ⟨List.mem_reverse.1 h2,h1.1,h1.2⟩
theorem jO {l:List Wt}{w:Int} :jH l w=none↔∀q∈l,q.lock=false->q.wh≠w:=by
 unfold jH
 rw [List.find?_eq_none]
 constructor
 ·intro h q hq hk he
  exact h q (List.mem_reverse.2 hq) (by simp [hk,he])
 ·intro h q hq hb
  simp only [qI,wE,decide_eq_true_eq] at hb
  exact h q (List.mem_reverse.1 hq) hb.1 hb.2
theorem Yq {a b:List Wt}{w:Int} :jH (a++b) w=(jH b w).or (jH a w):=by
 unfold jH
 rw [List.reverse_append,List.find?_append]
theorem oR {l:List Wt}{words:List Int}{w:Int} :x4 l words w=match jH l w with|some q=>q.qk|none=>nth words w.toNat:=rfl
structure Rec where
 w:Wt
 pd:Bool
 x:yc
def WE (L:List Rec):List Wt:=(L.filter (·.pd)).map (·.w)
def Xx (L:List Rec):List (Wt×yc):=L.map λr=>(r.w,r.x)
theorem N2 {L:List Rec}{q:Wt}(h:q∈WE L):∃r∈L,r.pd=true/\r.w=q:=by
 obtain ⟨r,hr,e⟩:=List.mem_map.1 h
 obtain ⟨h1,h2⟩:=List.mem_filter.1 hr
 exact ⟨r,h1,h2,e⟩
theorem rD {L:List Rec}{r:Rec}(h:r∈L)(hp:r.pd=true):r.w∈WE L:=List.mem_map.2 ⟨r,List.mem_filter.2 ⟨h,hp⟩,V⟩
theorem rB {L:List Rec}(hh:∀r rs,L=r::rs->r.pd=true)(h:WE L= []):L= []:=by
 cases L with
 |nil=>rfl
 |cons r rs=>
  have h1:=rD (L:=r::rs) (by simp) (hh r rs V)
  rw [h] at h1;cases h1
theorem Ue {x:Wt}{b:List Wt} :∀ {L:List Rec} {a:List Wt},WE L=a++x::b->∃L1 r L2,L=L1++r::L2/\r.pd=true/\r.w=x/\WE L1=a/\WE L2=b
 | [],a,h=>by cases a<;>cases h
 |r::L,a,h=>by
  cases hp:r.pd with
  |false=>
   have h1:WE L=a++x::b:=by
    have:WE (r::L)=WE L:=by unfold WE;rw [lR (by rw [hp];decide)]
    rw [<-this];exact h
   obtain ⟨L1,r',L2,e,h2,h3,h4,h5⟩:=Ue h1
   refine ⟨r::L1,r',L2,by rw [e];rfl,h2,h3,?_,h5⟩
   unfold WE;rw [lR (by rw [hp];decide)];exact h4
  |true=>
   have h1:WE (r::L)=r.w::WE L:=by unfold WE;rw [List.filter_cons_of_pos hp];rfl
   rw [h1] at h
   cases a with
   |nil=>
    have:=Y8 h
    exact ⟨[],r,L,V,hp,this.1,V,this.2⟩
   |cons a0 a=>
    obtain ⟨h2,h3⟩:=Y8 h
    obtain ⟨L1,r',L2,e,h4,h5,h6,h7⟩:=Ue h3
    refine ⟨r::L1,r',L2,by rw [e];rfl,h4,h5,?_,h7⟩
    unfold WE;rw [List.filter_cons_of_pos hp]
    show r.w::WE L1=_
    rw [h6,h2]
theorem rE {a b:List Rec} :WE (a++b)=WE a++WE b:=by unfold WE;rw [bF,yi]
def Hg (L:List Rec):List Rec:=L.dropWhile λr=> !r.pd
theorem D6 :∀ {L:List Rec} {r:Rec} {rs:List Rec},Hg L=r::rs->r.pd=true
 | [],_,_,h=>by cases h
 |a::L,r,rs,h=>by
  unfold Hg at h
  cases hp:a.pd with
  |true=>
   rw [List.dropWhile_cons_of_neg (by rw [hp];decide)] at h
   rw [<-(Y8 h).1];exact hp
  |false=>
   rw [List.dropWhile_cons_of_pos (by rw [hp];rfl)] at h
   exact D6 (L:=L) h
theorem bn :∀ {L:List Rec},WE (Hg L)=WE L
 | []=>rfl
 |a::L=>by
  unfold Hg
  cases hp:a.pd with
  |true=>rw [List.dropWhile_cons_of_neg (by rw [hp];decide)]
  |false=>
   rw [List.dropWhile_cons_of_pos (by rw [hp];rfl)]
   have:WE (a::L)=WE L:=by unfold WE;rw [lR (by rw [hp];decide)]
   rw [this];exact bn
theorem UE (L:List Rec):∃a,L=a++Hg L:=⟨_,(List.takeWhile_append_dropWhile (p:=λr:Rec=> !r.pd) (l:=L)).symm⟩
structure pG (p:Pg)(s e:yc)(L:Nat->List Rec):Prop where
 zd:e.zd=s.zd
 same:∀t,t<p.code.length->Sm s e t
 wait:∀t,t<p.code.length->(nth s.zW t).wait=WE (L t)
 head:∀t,t<p.code.length->∀r rs,L t=r::rs->r.pd=true
 fW:∀t,t<p.code.length->∀r∈L t,r.w.lock=true->r.pd=true
 EC:∀t,t<p.code.length->J8 p e t (Xx (L t))
 w1:∀t,t<p.code.length->∀w:Int,0<=w->∀q,jH (nth s.zW t).wait w=some q->nth e.words w.toNat=q.qk
 w2:∀w:Int,0<=w->(∀t,t<p.code.length->jH (nth s.zW t).wait w=none)->nth e.words w.toNat=nth s.words w.toNat
 o1:∀t,t<p.code.length->∀q∈(nth s.zW t).wait,q.lock=true->nth s.owner q.wh.toNat=(t:Int)/\nth e.owner q.wh.toNat= -1
 o2:∀l:Nat,(∀t,t<p.code.length->∀q∈(nth s.zW t).wait,q.lock=true->q.wh.toNat≠l)->nth e.owner l=nth s.owner l
 dis:∀t,t<p.code.length->(nth s.zW t).wait.Pairwise λa b=>a.lock=true->b.lock=true->a.wh.toNat≠b.wh.toNat
theorem zaT {l:List Wt}{j:Nat}(h:j<l.length):l=l.take j++nth l j::l.drop (j+1):=by
 rw [qq l j h,List.getElem_cons_drop,Bt]
theorem Lw {l:List Wt}{j:Nat} :l.eraseIdx j=l.take j++l.drop (j+1):=List.eraseIdx_eq_take_drop_succ l j
theorem zoC {m:Int}{l:List Wt}{j:Nat}(h:w6 m l j=true)(hj:j<l.length):l.take j= []\/((nth l j).lock=false/\∀q∈l.take j,q.lock=false/\q.wh≠(nth l j).wh):=by
 unfold w6 at h
 simp only [UI,decide_eq_true_eq,qI,wE,Bool.or_eq_false_iff,UK,List.mem_range] at h
 rcases h with h|⟨⟨_,h1⟩,h2⟩
 ·left;rw [h];rfl
 ·refine .inr ⟨h1,λq hq=>?_⟩
  obtain ⟨i,hi,rfl⟩:=List.mem_iff_getElem.1 hq
  have Dy:i<j:=by simp at hi;omega
  have h3:=h2 i Dy
  rw [qq _ _ (by omega:i<l.length)] at h3
  simp only [List.getElem_take]
  exact ⟨h3.1,by simpa using h3.2⟩
section
variable {p:Pg}{s e:yc}{L:Nat->List Rec}{m:Int}{t k:Nat}
theorem pG.flush (zR:yJ p)(hs:Reach p m s)(h:pG p s e L)(ht:t<p.code.length)(hk:0<k)(l6:k<=(nth s.zW t).wait.length)(OV:w6 m (nth s.zW t).wait (k-1)=true):∃L',pG p (s.yt t (stepT p m s t k)) e L' :=by
 have hl:=hs.len zR ht
 have EY:=hs.wf zR
 have hj:k-1<(nth s.zW t).wait.length:=za
 have hst:stepT p m s t k= { (s.view t).done (nth (nth s.zW t).wait (k-1)) with wait:=(nth s.zW t).wait.eraseIdx (k-1) } :=by
  unfold stepT XY
  rw [if_pos hk];rfl
 have WI:=zaT hj
 have hmy:=zoC OV hj
 rw [Lw] at hst
 generalize hx:nth (nth s.zW t).wait (k-1)=x at hst WI hmy
 generalize ha:(nth s.zW t).wait.take (k-1)=a at hst WI hmy
 generalize hb:(nth s.zW t).wait.drop (k-1+1)=b at hst WI
 have EV:x∈(nth s.zW t).wait:=by rw [WI];simp
 have Aw:=(EY.th t ht).wt x EV
 have zwq:0<=x.wh:=by split at Aw<;>omega
 obtain ⟨L1,r,L2,eL,S4,l3,Fs,hr4⟩:=Ue ((h.wait t ht).symm.trans WI)
 have nL:∀u,u≠t->nth (s.yt t (stepT p m s t k)).zW u=nth s.zW u:=λu hu=>by rw [xI hl,if_neg λh=>hu h.symm]
 have cP:nth (s.yt t (stepT p m s t k)).zW t=⟨(nth s.zW t).pc,(nth s.zW t).ze,a++b⟩:=by rw [xI hl,if_pos V,hst];rfl
 have yo:(s.yt t (stepT p m s t k)).words=if x.lock=true then s.words else s.words.set x.wh.toNat x.qk:=by rw [hst];rfl
 have og:(s.yt t (stepT p m s t k)).owner=if x.lock=true then s.owner.set x.wh.toNat (-1) else s.owner:=by rw [hst];rfl
 have OD:(s.yt t (stepT p m s t k)).zd=s.zd:=by rw [hst];rfl
 refine ⟨λu=>if u=t then Hg (L1++⟨r.w,false,r.x⟩::L2) else L u,?_⟩
 have zp7:WE (L1++⟨r.w,false,r.x⟩::L2)=a++b:=by
  rw [rE,Fs]
  congr 1
 have sub:∀q,q∈a++b->q∈(nth s.zW t).wait:=λq hq=>by
  rw [WI]
  rcases List.mem_append.1 hq with hq|hq
  ·exact GU _ hq
  ·exact WW _ (xe _ hq)
 have waits:∀u,u<p.code.length->∀q∈(nth (s.yt t (stepT p m s t k)).zW u).wait,q∈(nth s.zW u).wait:=λu hu q hq=>by
  by_cases e9:u=t
  ·subst e9;rw [cP] at hq;exact sub q hq
  ·rw [nL u e9] at hq;exact hq
 refine ⟨by rw [OD];exact h.zd,λu hu=>?_,λu hu=>?_,λu hu r9 rs9 e9=>?_,λu hu r9 Dn KD=>?_,λu hu=>?_,λu hu w hw q hq=>?_,λw hw hn=>?_,λu hu q hq Fu=>?_,λl hn=>?_,λu hu=>?_⟩
 ·by_cases e9:u=t
  ·subst e9;unfold Sm;rw [cP];exact h.same u hu
  ·unfold Sm;rw [nL u e9];exact h.same u hu
 ·by_cases e9:u=t
  ·subst e9;rw [cP,if_pos V,bn,zp7]
  ·rw [nL u e9,if_neg e9];exact h.wait u hu
 ·by_cases e8:u=t
  ·rw [if_pos e8] at e9;exact D6 e9
  ·rw [if_neg e8] at e9;exact h.head u hu r9 rs9 e9
 ·by_cases e8:u=t
  ·rw [if_pos e8] at Dn
   subst e8
   have hold:∀q∈L1++L2,q.w.lock=true->q.pd=true:=λq hq=>h.fW u hu q (by rw [eL];rcases List.mem_append.1 hq with hq|hq;exact GU _ hq;exact WW _ (xe _ hq))
   cases ML:x.lock with
   |false=>
    obtain ⟨a9,ea⟩:=UE (L1++⟨r.w,false,r.x⟩::L2)
    have hm:r9∈L1++⟨r.w,false,r.x⟩::L2:=by rw [ea];exact WW _ Dn
    rcases List.mem_append.1 hm with hm|hm
    ·exact hold r9 (GU _ hm) KD
    ·rcases List.mem_cons.1 hm with rfl|hm
     ·rw [show r.w=x from l3,ML] at KD;cases KD
     ·exact hold r9 (WW _ hm) KD
   |true=>
    have ha0:a= []:=by
     rcases hmy with h1|h1
     ·exact h1
     ·rw [ML] at h1;cases h1.1
    have hL1:L1= []:=by
     refine rB (λr8 rs8 e8=>?_) (Fs.trans ha0)
     exact h.head u hu r8 (rs8++r::L2) (by rw [eL,e8];rfl)
    subst hL1
    have e7:Hg ([]++⟨r.w,false,r.x⟩::L2)=Hg L2:=rfl
    rw [e7] at Dn
    obtain ⟨a9,ea⟩:=UE L2
    exact hold r9 (by rw [JP,ea];exact WW _ Dn) KD
  ·rw [if_neg e8] at Dn;exact h.fW u hu r9 Dn KD
 ·by_cases e8:u=t
  ·rw [if_pos e8]
   subst e8
   obtain ⟨a9,ea⟩:=UE (L1++⟨r.w,false,r.x⟩::L2)
   have h1:=h.EC u hu
   have e7:Xx (L u)=Xx (L1++⟨r.w,false,r.x⟩::L2):=by rw [eL];unfold Xx;simp
   rw [e7,ea] at h1
   unfold Xx at h1⊢
   rw [yi] at h1
   exact J8.tail h1
  ·rw [if_neg e8];exact h.EC u hu
 ·by_cases e8:u=t
  ·subst e8
   rw [cP] at hq
   refine h.w1 u hu w hw q ?_
   rw [WI]
   rw [Yq] at hq⊢
   cases YJ:jH b w with
   |some q9=>
    rw [YJ] at hq
    have e6:jH (x::b) w=some q9:=by
     rw [show x::b= [x]++b from V,Yq,YJ];rfl
    rw [e6];exact hq
   |none=>
    rw [YJ] at hq
    have Vq:jH a w=some q:=hq
    obtain ⟨h1,h2,h3⟩:=UZ Vq
    rcases hmy with h4|⟨h4,h5⟩
    ·rw [h4] at h1;cases h1
    ·have h6:=(h5 q h1).2
     have e6:jH (x::b) w=none:=jO.2 λq9 HL KD=>by
      rcases List.mem_cons.1 HL with rfl|HL
      ·intro e5;exact h6 (h3.trans e5.symm)
      ·exact (jO.1 YJ) q9 HL KD
     rw [e6];exact Vq
  ·rw [nL u e8] at hq;exact h.w1 u hu w hw q hq
 ·by_cases se:x.lock=false/\x.wh=w
  ·have e6:jH (nth s.zW t).wait w=some x:=by
    have AA:=hn t ht
    rw [cP] at AA
    rw [WI,Yq]
    rw [show (⟨(nth s.zW t).pc,(nth s.zW t).ze,a++b⟩:Th).wait=a++b from V] at AA
    have hn8:=jO.1 AA
    have e5:jH (x::b) w=some x:=by
     rw [show x::b= [x]++b from V,Yq,jO.2 λq9 HL KD=>hn8 q9 (WW _ HL) KD]
     unfold jH
     simp [se.1,se.2]
    rw [e5];rfl
   rw [h.w1 t ht w hw x e6,yo,if_neg (by rw [se.1];decide),se.2,yL,if_pos]
   refine ⟨V,?_⟩
   rw [if_neg (by rw [se.1];decide)] at Aw
   rw [EY.words];omega
  ·have e6:nth (s.yt t (stepT p m s t k)).words w.toNat=nth s.words w.toNat:=by
    rw [yo]
    split
    ·rfl
    ·rename_i h9
     rw [yL,if_neg]
     rintro ⟨h8,_⟩
     exact se ⟨by simpa using h9,za⟩
   rw [e6]
   refine h.w2 w hw λu hu=>?_
   have AA:=hn u hu
   by_cases e8:u=t
   ·subst e8
    rw [cP] at AA
    have hn8:=jO.1 AA
    rw [WI]
    refine jO.2 λq9 HL KD e5=>?_
    rcases List.mem_append.1 HL with HL|HL
    ·exact hn8 q9 (GU _ HL) KD e5
    ·rcases List.mem_cons.1 HL with rfl|HL
     ·exact se ⟨KD,e5⟩
     ·exact hn8 q9 (WW _ HL) KD e5
   ·rw [nL u e8] at AA;exact AA
 ·have hold:=h.o1 u hu q (waits u hu q hq) Fu
  refine ⟨?_,hold.2⟩
  rw [og]
  split
  ·rename_i ML
   rw [yL,if_neg]
   ·exact hold.1
   ·rintro ⟨h8,_⟩
    have Sz:=h.o1 t ht x EV ML
    have e8:u=t:=by
     have:(u:Int)=(t:Int):=by rw [<-hold.1,<-Sz.1,h8]
     omega
    subst e8
    have hd:=h.dis u hu
    rw [WI] at hd
    rw [cP] at hq
    have QI:=List.pairwise_append.1 hd
    rcases List.mem_append.1 hq with hq|hq
    ·exact QI.2.2 q hq x (by simp) Fu ML h8.symm
    ·exact (List.pairwise_cons.1 QI.2.1).1 q hq ML Fu h8
  ·exact hold.1
 ·by_cases se:x.lock=true/\x.wh.toNat=l
  ·have Sz:=h.o1 t ht x EV se.1
   rw [og,if_pos se.1,<-se.2,Sz.2,yL,if_pos]
   refine ⟨V,?_⟩
   rw [if_pos se.1] at Aw
   rw [EY.owner];omega
  ·have e6:nth (s.yt t (stepT p m s t k)).owner l=nth s.owner l:=by
    rw [og]
    split
    ·rename_i h9
     rw [yL,if_neg]
     rintro ⟨h8,_⟩
     exact se ⟨h9,h8⟩
    ·rfl
   rw [e6]
   refine h.o2 l λu hu q9 HL KD e5=>?_
   by_cases e8:u=t
   ·subst e8
    rw [WI] at HL
    have AA:=hn u hu
    rw [cP] at AA
    rcases List.mem_append.1 HL with HL|HL
    ·exact AA q9 (GU _ HL) KD e5
    ·rcases List.mem_cons.1 HL with rfl|HL
     ·exact se ⟨KD,e5⟩
     ·exact AA q9 (WW _ HL) KD e5
   ·exact hn u hu q9 (by rw [nL u e8];exact HL) KD e5
 ·by_cases e8:u=t
  ·subst e8
   rw [cP]
   have hd:=h.dis u hu
   rw [WI] at hd
   have QI:=List.pairwise_append.1 hd
   exact List.pairwise_append.2 ⟨QI.1,(List.pairwise_cons.1 QI.2.1).2,λx9 hx9 y9 hy9=>QI.2.2 x9 hx9 y9 (xe _ hy9)⟩
  ·rw [nL u e8];exact h.dis u hu
end
theorem Qg {f:pJ}{l:List Int}{w:Nat}(h1:∀q,f.wt=some q->q.lock=false->q.wh.toNat≠w)(h2:∀c,f.cs=some c->c.1.toNat≠w):nth (gT f l) w=nth l w:=by
 have h3:nth (wM l f.cs) w=nth l w:=by
  cases hc:f.cs with
  |none=>rfl
  |some c=>unfold wM;simp only;rw [yL,if_neg λh=>h2 c hc h.1]
 unfold gT
 split
 ·rename_i q hq
  split
  ·exact h3
  ·rename_i hk
   rw [yL,if_neg λh=>h1 q hq (by simpa using hk) h.1];exact h3
 ·exact h3
def RZ (L:List Rec)(f:Option Wt)(e:yc):List Rec:=L++(f.map λq=>(⟨q,true,e⟩:Rec)).toList
theorem CT {L:List Rec}{f:Option Wt}{e:yc} :WE (RZ L f e)=WE L++f.toList:=by
 unfold RZ
 rw [rE]
 cases f<;>rfl
theorem mV {L:List Rec}{f:Option Wt}{e:yc} :Xx (RZ L f e)=Xx L++(f.map λq=>(q,e)).toList:=by
 unfold RZ Xx
 rw [yi]
 cases f<;>rfl
def eW (p:Pg)(t:Nat)(r:Rec):Rec:=⟨r.w,r.pd,r.x.yt t (stepT p 0 r.x t 0)⟩
theorem ar {p:Pg}{t:Nat} :∀ {L:List Rec},WE (L.map (eW p t))=WE L
 | []=>rfl
 |a::L=>by
  have ih:=ar (p:=p) (t:=t) (L:=L)
  unfold WE at ih⊢
  rw [xA]
  cases hp:a.pd with
  |true=>
   rw [List.filter_cons_of_pos (show (eW p t a).pd=true from hp),List.filter_cons_of_pos hp,xA,xA,ih];rfl
  |false=>
   rw [lR (show¬(eW p t a).pd=true by show¬a.pd=true;rw [hp];decide),lR (by rw [hp];decide),ih]
theorem eV {p:Pg}{t:Nat}{L:List Rec} :Xx (L.map (eW p t))=(Xx L).map λr=>(r.1,r.2.yt t (stepT p 0 r.2 t 0)):=by
 unfold Xx
 rw [List.map_map,List.map_map];rfl
section
variable {p:Pg}{s e:yc}{L:Nat->List Rec}{m:Int}{t k:Nat}
theorem pG.step (zR:yJ p)(Gl:Ar p)(hm:0<m)(hs:Reach p m s)(he:Reach p 0 e)(h:pG p s e L)(ht:t<p.code.length)(Xf:xp m (nth p.code t) (s.view t) 0=true):
  xp 0 (nth p.code t) (e.view t) 0=true/\(stepT p m s t 0).zq=(stepT p 0 e t 0).zq/\(stepT p m s t 0).zd=(stepT p 0 e t 0).zd/\((stepT p 0 e t 0).zq=false->∃L',pG p (s.yt t (stepT p m s t 0)) (e.yt t (stepT p 0 e t 0)) L'):=by
 have Te:=hs.len zR ht
 have hle:=he.len zR ht
 have sf:=hs.wf zR
 have Ax:=he.wf zR
 have EX:=he.ku zR t ht
 obtain ⟨hp,hg⟩:=h.same t ht
 rcases kj Xf with ⟨_,qU,GY⟩|⟨h1,_⟩
 case inr=>omega
 have iI:(nth s.zW t).pc<((nth p.code t).length:Int):=qU
 have dh:q7 s.owner (nth s.zW t).wait.length (zo (nth p.code t) (nth s.zW t).pc)=true:=GY
 have hp0:0<=(nth s.zW t).pc:=(sf.th t ht).pc.1
 have hIR:GV p.ze.toNat p.words.length p.zm.toNat (zo (nth p.code t) (nth s.zW t).pc):=by
  rw [vL iI];exact (zR.uD ht za).1
 generalize hi:zo (nth p.code t) (nth s.zW t).pc=i at dh hIR
 have Tl:zo (nth p.code t) (nth e.zW t).pc=i:=by rw [hp];exact hi
 have SB:e.words.length=s.words.length:=by rw [Ax.words,sf.words]
 have ziv:e.owner.length=s.owner.length:=by rw [Ax.owner,sf.owner]
 have zkP:(nth s.zW t).wait= []->L t= []:=λhw=>rB (h.head t ht) ((h.wait t ht).symm.trans hw)
 have zg4:i.op=12\/i.op=13->(nth s.zW t).wait= []:=λh9=>by
  unfold q7 at dh
  rw [if_neg za,if_pos h9] at dh
  exact List.length_eq_zero_iff.1 (of_decide_eq_true dh)
 have zbY:i.op=17->(nth s.zW t).wait= []/\nth s.owner i.a.toNat= -1:=λh9=>by
  unfold q7 at dh
  rw [if_neg za,if_neg za,if_pos h9] at dh
  simp only [qI,decide_eq_true_eq] at dh
  exact ⟨List.length_eq_zero_iff.1 dh.1,dh.2⟩
 have sm:∀u,u<p.code.length->∀q∈(nth s.zW u).wait,0<=q.wh:=λu hu q hq=>by
  have:=(sf.th u hu).wt q hq
  split at this<;>omega
 have Ih:i.op=17->∀u,u<p.code.length->∀q∈(nth s.zW u).wait,q.lock=true->q.wh.toNat≠i.a.toNat:=λh9 u hu q hq hk e9=>by
  have h8:=(h.o1 u hu q hq hk).1
  rw [e9,(zbY h9).2] at h8
  omega
 have Vp:∀v b,qp i (nth e.zW t).ze p.words.length=some (v,b)->(0<=v/\v<(p.words.length:Int))/\∀u,u<p.code.length->u≠t->∀r∈Xx (L u),r.1.lock=false->r.1.wh.toNat≠v.toNat:=λv b hv=>by
  refine ⟨eM zR ht hp0 iI (ze:=(nth e.zW t).ze) (q:=(v,b)) (by rw [hi];exact hv),λu hu lZ=>fL zR Gl he hu ht lZ (by rw [hp];exact iI) (b:=b) (by rw [Tl];exact hv) (h.EC u hu)⟩
 have dS:∀u,u<p.code.length->∀q∈(nth s.zW u).wait,∃r∈Xx (L u),r.1=q:=λu hu q hq=>by
  rw [h.wait u hu] at hq
  obtain ⟨r,hr,_,e9⟩:=N2 hq
  exact ⟨(r.w,r.x),List.mem_map.2 ⟨r,hr,V⟩,e9⟩
 have ziB:∀v b,qp i (nth e.zW t).ze p.words.length=some (v,b)->∀u,u<p.code.length->u≠t->jH (nth s.zW u).wait v=none:=λv b hv u hu lZ=>jO.2 λq hq hk e9=>by
  obtain ⟨r,hr,e8⟩:=dS u hu q hq
  exact (Vp v b hv).2 u hu lZ r hr (by rw [e8];exact hk) (by rw [e8,e9])
 have Ye:tQ i { s.view t with pc:=(s.view t).pc+1 } =tQ i { e.view t with pc:=(e.view t).pc+1 } :=by
  unfold tQ
  show (match qp i (nth s.zW t).ze s.words.length with|some q=>x4 (nth s.zW t).wait s.words q.1|none=>0)=(match qp i (nth e.zW t).ze e.words.length with|some q=>x4 (nth e.zW t).wait e.words q.1|none=>0)
  rw [hg,sf.words,Ax.words,EX]
  cases hq:qp i (nth s.zW t).ze p.words.length with
  |none=>rfl
  |some q=>
   rw [<-hg] at hq
   have Vs:=(Vp q.1 q.2 hq).1
   show x4 _ _ _=nth e.words q.1.toNat
   rw [oR]
   cases hl:jH (nth s.zW t).wait q.1 with
   |some q9=>exact (h.w1 t ht q.1 Vs.1 q9 hl).symm
   |none=>
    refine (h.w2 q.1 Vs.1 λu hu=>?_).symm
    by_cases e9:u=t
    ·rw [e9];exact hl
    ·exact ziB q.1 q.2 hq u hu e9
 have hgd:i.op=18->ZH t i { s.view t with pc:=(s.view t).pc+1 } =ZH t i { e.view t with pc:=(e.view t).pc+1 } :=λjc=>by
  have zsk:=(hIR.MH (.inr jc)).1
  unfold ZH TS.holds
  show (decide (nth s.owner _=_)&& !((nth s.zW t).wait.any _))=(decide (nth e.owner _=_)&& !((nth e.zW t).wait.any _))
  rw [EX]
  by_cases hex:∃u,u<p.code.length/\∃q∈(nth s.zW u).wait,q.lock=true/\q.wh.toNat=i.a.toNat
  ·obtain ⟨u,hu,q,hq,hk,e9⟩:=hex
   obtain ⟨o1,o2⟩:=h.o1 u hu q hq hk
   rw [e9] at o1 o2
   rw [o1,o2]
   have e8:decide ((-1:Int)=(t:Int))=false:=decide_eq_false za
   rw [e8]
   by_cases e7:u=t
   ·subst e7
    have:((nth s.zW u).wait.any λw=>w.lock&&decide (w.wh=i.a))=true:=List.any_eq_true.2 ⟨q,hq,by
     have:=sm u hu q hq
     simp only [hk,Bool.true_and,decide_eq_true_eq];omega⟩
    rw [this];simp
   ·rw [decide_eq_false (show¬(u:Int)=(t:Int) from za)];rfl
  ·rw [h.o2 i.a.toNat λu hu q hq hk e9=>hex ⟨u,hu,q,hq,hk,e9⟩]
   have:((nth s.zW t).wait.any λw=>w.lock&&decide (w.wh=i.a))=false:=by
    rw [List.any_eq_false]
    intro q hq hb
    simp only [qI,decide_eq_true_eq] at hb
    exact hex ⟨t,ht,q,hq,hb.1,by rw [hb.2]⟩
   rw [this];rfl
 have hee:Qs p s t=Qs p e t:=by
  unfold Qs
  rw [Tl,hi,hp,hg,SB,Ye]
  by_cases jc:i.op=18
  ·rw [hgd jc]
  ·unfold vV
   simp only [if_neg jc]
 have hE:zax i (nth e.zW t).ze p.words.length (ZH t i { e.view t with pc:=(e.view t).pc+1 }) (Qs p e t):=by
  unfold Qs
  rw [Tl,Ax.words]
  exact zdR
 have Dj:=mI (p:=p) EX
 have hss:stepT p m s t 0=⟨(Qs p e t).pc,(Qs p e t).ze,(nth s.zW t).wait++(Qs p e t).wt.toList,wM s.words (Qs p e t).cs,xz s.owner t (Qs p e t).lk,s.zd++(Qs p e t).pr,(Qs p e t).zq⟩:=by
  rw [eU (λQO=>zg4 (.inr (by rw [hi] at QO;exact QO))),PI hm,hee];rfl
 generalize hf:Qs p e t=f at hee hE Dj hss
 have ziO:xp 0 (nth p.code t) (e.view t) 0=true:=by
  refine QH (by show (nth e.zW t).pc<_;rw [hp];exact iI) ?_
  show q7 e.owner (nth e.zW t).wait.length (zo _ (nth e.zW t).pc)=true
  rw [EX,Tl]
  unfold q7
  split
  ·rfl
  split
  ·rfl
  split
  ·rename_i jk
   rw [h.o2 i.a.toNat λu hu q hq hk=>Ih jk u hu q hq hk,(zbY jk).2];rfl
  ·rfl
 refine ⟨ziO,by rw [hss,Dj],by rw [hss,Dj,h.zd],λTq=>?_⟩
 have hfe:f.zq=false:=by rw [Dj] at Tq;exact Tq
 refine ⟨λu=>if u=t then RZ (L t) f.wt e else (L u).map (eW p t),?_⟩
 have zW:∀u,u≠t->nth (s.yt t (stepT p m s t 0)).zW u=nth s.zW u:=λu hu=>by rw [xI Te,if_neg λh=>hu h.symm]
 have tht:nth (s.yt t (stepT p m s t 0)).zW t=⟨f.pc,f.ze,(nth s.zW t).wait++f.wt.toList⟩:=by rw [xI Te,if_pos V,hss]
 have the:∀u,u≠t->nth (e.yt t (stepT p 0 e t 0)).zW u=nth e.zW u:=λu hu=>by rw [xI hle,if_neg λh=>hu h.symm]
 have tet:nth (e.yt t (stepT p 0 e t 0)).zW t=⟨f.pc,f.ze,[]⟩:=by rw [xI hle,if_pos V,Dj]
 have sw:(s.yt t (stepT p m s t 0)).words=wM s.words f.cs:=by rw [hss];rfl
 have so:(s.yt t (stepT p m s t 0)).owner=xz s.owner t f.lk:=by rw [hss];rfl
 have ew:(e.yt t (stepT p 0 e t 0)).words=gT f e.words:=by rw [Dj];rfl
 have eo:(e.yt t (stepT p 0 e t 0)).owner=ZO t f e.owner:=by rw [Dj];rfl
 have XH:∀c,f.cs=some c->(nth s.zW t).wait= []/\f.wt=none:=λc hc=>⟨zg4 (.inr (hE.cs c hc).2.1),by
  cases hw:f.wt with
  |none=>rfl
  |some q=>have:=(hE.wt q hw).1;rw [hc] at this;cases this⟩
 have zi8:∀l,f.lk=some l->(nth s.zW t).wait= []/\f.wt=none:=λl hl=>⟨(zbY (hE.lk l hl).1).1,by
  cases hw:f.wt with
  |none=>rfl
  |some q=>have:=(hE.wt q hw).2.1;rw [hl] at this;cases this⟩
 have AU:∀q,f.wt=some q->q.lock=false->qp i (nth e.zW t).ze p.words.length=some (q.wh,true):=λq hq hk=>by
  rcases (hE.wt q hq).2.2.2.2 with h9|h9
  ·exact h9.2
  ·rw [hk] at h9;cases h9.1
 have zfH:∀q,f.wt=some q->q.lock=true->i.op=18/\q.wh=i.a/\ZH t i { e.view t with pc:=(e.view t).pc+1 } =true:=λq hq hk=>by
  rcases (hE.wt q hq).2.2.2.2 with h9|h9
  ·rw [hk] at h9;cases h9.1
  ·exact h9.2
 have zgq:∀u,u<p.code.length->u≠t->∀q∈(nth s.zW u).wait,q.lock=false->nth (gT f e.words) q.wh.toNat=nth e.words q.wh.toNat:=λu hu lZ q hq hk=>by
  obtain ⟨r,hr,e8⟩:=dS u hu q hq
  refine Qg (λq0 Fv ss e9=>?_) λc hc e9=>?_
  ·exact (Vp q0.wh true (AU q0 Fv ss)).2 u hu lZ r hr (by rw [e8];exact hk) (by rw [e8];exact e9.symm)
  ·exact (Vp c.1 false (hE.cs c hc).2.2).2 u hu lZ r hr (by rw [e8];exact hk) (by rw [e8];exact e9.symm)
 have X7:∀u,u≠t->(nth (s.yt t (stepT p m s t 0)).zW u).wait=(nth s.zW u).wait:=λu hu=>by rw [zW u hu]
 have YS:(nth (s.yt t (stepT p m s t 0)).zW t).wait=(nth s.zW t).wait++f.wt.toList:=by rw [tht]
 refine ⟨?_,λu hu=>?_,λu hu=>?_,λu hu r9 rs9 e9=>?_,λu hu r9 Dn KD=>?_,λu hu=>?_,λu hu w hw q hq=>?_,λw hw hn=>?_,λu hu q hq hk=>?_,λl hn=>?_,λu hu=>?_⟩
 ·show (stepT p 0 e t 0).zd=(stepT p m s t 0).zd
  rw [hss,Dj,h.zd]
 ·by_cases e9:u=t
  ·subst e9;unfold Sm;rw [tht,tet];exact ⟨V,V⟩
  ·unfold Sm;rw [zW u e9,the u e9];exact h.same u hu
 ·by_cases e9:u=t
  ·subst e9;rw [YS,if_pos V,CT,h.wait u hu]
  ·rw [X7 u e9,if_neg e9,ar];exact h.wait u hu
 ·by_cases e8:u=t
  ·rw [if_pos e8] at e9
   unfold RZ at e9
   cases hL:L t with
   |nil=>
    rw [hL] at e9
    cases hw:f.wt with
    |none=>rw [hw] at e9;cases e9
    |some q=>rw [hw] at e9;rw [<-(Y8 e9).1]
   |cons r rs=>
    rw [hL] at e9
    rw [<-(Y8 e9).1];exact h.head t ht r rs hL
  ·rw [if_neg e8] at e9
   cases hL:L u with
   |nil=>rw [hL] at e9;cases e9
   |cons r rs=>
    rw [hL] at e9
    rw [<-(Y8 e9).1];exact h.head u hu r rs hL
 ·by_cases e8:u=t
  ·rw [if_pos e8] at Dn
   unfold RZ at Dn
   rcases List.mem_append.1 Dn with Dn|Dn
   ·exact h.fW t ht r9 Dn KD
   ·cases hw:f.wt with
    |none=>rw [hw] at Dn;cases Dn
    |some q=>rw [hw] at Dn;obtain rfl:=List.mem_singleton.1 Dn;rfl
  ·rw [if_neg e8] at Dn
   obtain ⟨r,hr,rfl⟩:=List.mem_map.1 Dn
   exact h.fW u hu r hr KD
 ·by_cases e8:u=t
  ·rw [if_pos e8,e8,mV]
   by_cases om:f.cs=none/\f.lk=none
   ·refine J8.own zR he ht f.wt (λw hh=>?_) (λl hh=>?_) (λq hq hk=>?_) (h.EC t ht)
    ·show nth (stepT p 0 e t 0).words w=_
     rw [Dj]
     exact Qg hh λc hc=>by rw [om.1] at hc;cases hc
    ·show nth (stepT p 0 e t 0).owner l=_
     rw [Dj]
     show nth (ZO t f e.owner) l=_
     unfold ZO
     rw [om.2]
     cases hw:f.wt with
     |none=>rfl
     |some q=>
      simp only
      split
      ·rename_i hk
       rw [yL,if_neg λh9=>hh q hw hk h9.1];rfl
      ·rfl
    ·refine eD (by show (nth e.zW t).pc<_;rw [hp];exact iI) ?_ EX
     show qp (zo _ (nth e.zW t).pc) (nth e.zW t).ze e.words.length=_
     rw [Tl,Ax.words];exact AU q hq hk
   ·have:(nth s.zW t).wait= []/\f.wt=none:=by
     cases hc:f.cs with
     |some c=>exact XH c hc
     |none=>
      cases hl:f.lk with
      |some l=>exact zi8 l hl
      |none=>exact absurd ⟨hc,hl⟩ om
    rw [this.2,zkP this.1];trivial
  ·rw [if_neg e8,eV]
   refine J8.step zR he hu ht e8 ziO (by rw [hf];exact hfe) (h.EC u hu) (λv b hv=>(Vp v b (by rw [Tl] at hv;exact hv)).2 u hu e8) (λho r hr hk=>?_)
   rw [Tl] at ho⊢
   obtain ⟨r9,Dn,rfl⟩:=List.mem_map.1 hr
   have BD:r9.w∈(nth s.zW u).wait:=by rw [h.wait u hu];exact rD Dn (h.fW u hu r9 Dn hk)
   rcases ho with jk|jc
   ·exact Ih jk u hu r9.w BD hk
   ·intro e9
    have h9:=(h.o1 u hu r9.w BD hk).2
    have XF:ZH t i { e.view t with pc:=(e.view t).pc+1 } =true:=by
     cases hgg:ZH t i { e.view t with pc:=(e.view t).pc+1 } with
     |true=>rfl
     |false=>
      exfalso
      have:f.zq=true:=by
       rw [<-hf]
       unfold Qs
       rw [Tl,hgg]
       unfold vV
       simp [jc]
      rw [hfe] at this;cases this
    unfold ZH at XF
    simp only [qI,decide_eq_true_eq] at XF
    have h8:nth e.owner i.a.toNat=(t:Int):=XF.1
    rw [show r9.w.wh.toNat=i.a.toNat from e9,h8] at h9
    omega
 ·rw [ew]
  by_cases e8:u=t
  ·subst e8
   rw [YS,Yq] at hq
   cases Ys:f.wt with
   |none=>
    rw [Ys] at hq
    have Vq:jH (nth s.zW u).wait w=some q:=hq
    cases hc:f.cs with
    |some c=>rw [(XH c hc).1] at Vq;cases Vq
    |none=>
     rw [Qg (λq0 Fv=>by rw [Ys] at Fv;cases Fv) λc hc' =>by rw [hc] at hc';cases hc']
     exact h.w1 u hu w hw q Vq
   |some q0=>
    rw [Ys] at hq
    by_cases Wl:q0.lock=false/\q0.wh=w
    ·have e7:jH [q0] w=some q0:=by unfold jH;simp [Wl.1,Wl.2]
     rw [show (some q0).toList= [q0] from V,e7] at hq
     have:q0=q:=by injection hq
     subst this
     have Vs:=(Vp q0.wh true (AU q0 Ys Wl.1)).1
     unfold gT
     rw [Ys]
     simp only [Wl.1]
     rw [if_neg zf,<-Wl.2,yL,if_pos]
     refine ⟨V,?_⟩
     rw [Vd,Ax.words];omega
    ·have e7:jH [q0] w=none:=jO.2 λq9 HL KD e9=>by
      obtain rfl:=List.mem_singleton.1 HL
      exact Wl ⟨KD,e9⟩
     rw [show (some q0).toList= [q0] from V,e7] at hq
     have Vq:jH (nth s.zW u).wait w=some q:=hq
     rw [Qg (λq1 OB l6 e9=>?_) λc hc=>by rw [(hE.wt q0 Ys).1] at hc;cases hc]
     ·exact h.w1 u hu w hw q Vq
     ·rw [Ys] at OB
      have e6:q0=q1:=by injection OB
      subst e6
      have Vs:=(Vp q0.wh true (AU q0 Ys l6)).1
      exact Wl ⟨l6,za⟩
  ·rw [X7 u e8] at hq
   obtain ⟨h1,h2,h3⟩:=UZ hq
   have:=zgq u hu e8 q h1 h2
   rw [h3] at this
   rw [this];exact h.w1 u hu w hw q hq
 ·rw [ew,sw]
  cases Ys:f.wt with
  |none=>
   have hold:nth e.words w.toNat=nth s.words w.toNat:=h.w2 w hw λu hu=>by
    have:=hn u hu
    by_cases e8:u=t
    ·rw [e8] at this⊢
     rw [YS,Ys] at this
     rw [show (none:Option Wt).toList= [] from V,k6] at this;exact this
    ·rw [X7 u e8] at this;exact this
   unfold gT
   rw [Ys]
   simp only
   cases f.cs with
   |none=>exact hold
   |some c=>exact Yb SB hold
  |some q0=>
   rw [(hE.wt q0 Ys).1]
   have BW:=hn t ht
   rw [YS,Ys] at BW
   have ziA:=jO.1 BW
   have hold:nth e.words w.toNat=nth s.words w.toNat:=h.w2 w hw λu hu=>by
    have:=hn u hu
    by_cases e8:u=t
    ·rw [e8]
     exact jO.2 λq hq hk=>ziA q (GU _ hq) hk
    ·rw [X7 u e8] at this;exact this
   rw [Qg (λq1 OB l6 e9=>?_) λc hc=>by rw [(hE.wt q0 Ys).1] at hc;cases hc]
   ·exact hold
   ·rw [Ys] at OB
    have e6:q0=q1:=by injection OB
    subst e6
    have Vs:=(Vp q0.wh true (AU q0 Ys l6)).1
    exact ziA q0 (WW _ (by simp)) l6 za
 ·rw [so,eo]
  have zhq:∀a:Nat,nth e.owner a= -1->(∀l,f.lk=some l->l.toNat≠a)->nth (ZO t f e.owner) a= -1:=λa ha hl=>by
   have h1:nth (xz e.owner t f.lk) a= -1:=by
    cases hl9:f.lk with
    |none=>exact ha
    |some l=>
     unfold xz
     simp only
     rw [yL,if_neg λh9=>hl l hl9 h9.1];exact ha
   unfold ZO
   split
   ·split
    ·rw [yL]
     split
     ·rfl
     ·exact h1
    ·exact h1
   ·exact h1
  by_cases e8:u=t
  ·subst e8
   rw [YS] at hq
   rcases List.mem_append.1 hq with hq|hq
   ·have zi9:f.lk=none:=by
     cases hl:f.lk with
     |none=>rfl
     |some l=>rw [(zi8 l hl).1] at hq;cases hq
    have hold:=h.o1 u hu q hq hk
    refine ⟨by rw [zi9];exact hold.1,zhq _ hold.2 λl hl=>by rw [zi9] at hl;cases hl⟩
   ·cases Ys:f.wt with
    |none=>rw [Ys] at hq;cases hq
    |some q0=>
     rw [Ys] at hq
     obtain rfl:=List.mem_singleton.1 hq
     obtain ⟨jc,hwa,XF⟩:=zfH q Ys hk
     rw [<-hgd jc] at XF
     unfold ZH at XF
     simp only [qI,decide_eq_true_eq] at XF
     have h8:nth s.owner i.a.toNat=(u:Int):=XF.1
     have hrg:=hIR.MH (.inr jc)
     refine ⟨?_,?_⟩
     ·rw [(hE.wt q Ys).2.1,hwa];exact h8
     ·unfold ZO
      rw [Ys]
      simp only [hk,if_true]
      rw [yL,if_pos]
      refine ⟨V,?_⟩
      rw [Uo,Ax.owner,hwa];omega
  ·rw [X7 u e8] at hq
   have hold:=h.o1 u hu q hq hk
   have Qo:∀l,f.lk=some l->l.toNat≠q.wh.toNat:=λl hl e9=>by
    obtain ⟨jk,e7⟩:=hE.lk l hl
    rw [e7] at e9
    exact Ih jk u hu q hq hk e9.symm
   refine ⟨?_,zhq _ hold.2 Qo⟩
   cases hl9:f.lk with
   |none=>exact hold.1
   |some l=>
    unfold xz
    simp only
    rw [yL,if_neg λh9=>Qo l hl9 h9.1];exact hold.1
 ·rw [so,eo]
  have hold:nth e.owner l=nth s.owner l:=h.o2 l λu hu q hq hk=>by
   by_cases e8:u=t
   ·rw [e8] at hq
    exact hn t ht q (by rw [YS];exact GU _ hq) hk
   ·exact hn u hu q (by rw [X7 u e8];exact hq) hk
  have h1:nth (xz e.owner t f.lk) l=nth (xz s.owner t f.lk) l:=by
   cases f.lk with
   |none=>exact hold
   |some a=>exact Yb ziv hold
  unfold ZO
  cases Ys:f.wt with
  |none=>exact h1
  |some q0=>
   simp only
   split
   ·rename_i hk
    rw [yL,if_neg λh9=>hn t ht q0 (by rw [YS,Ys];exact WW _ (by simp)) hk h9.1];exact h1
   ·exact h1
 ·by_cases e8:u=t
  ·subst e8
   rw [YS]
   cases Ys:f.wt with
   |none=>rw [show (none:Option Wt).toList= [] from V,k6];exact h.dis u hu
   |some q0=>
    refine List.pairwise_append.2 ⟨h.dis u hu,WX _ _,λa ha b hb hka hkb e9=>?_⟩
    obtain rfl:=List.mem_singleton.1 hb
    obtain ⟨jc,hwa,XF⟩:=zfH b Ys hkb
    rw [<-hgd jc] at XF
    unfold ZH TS.holds at XF
    simp only [qI,wE] at XF
    have h7:=XF.2
    have h8:((nth s.zW u).wait.any λw=>w.lock&&decide (w.wh=i.a))=false:=h7
    rw [List.any_eq_false] at h8
    have zsk:=(hIR.MH (.inr jc)).1
    have Vs:=sm u hu a ha
    refine h8 a ha ?_
    simp only [hka,Bool.true_and,decide_eq_true_eq]
    rw [hwa] at e9;omega
  ·rw [X7 u e8];exact h.dis u hu
theorem u2 (zR:yJ p)(Gl:Ar p)(hm:0<m):∀o,jq p m o->jq p 0 o:=by
 refine RL (λs e=>∃L,pG p s e L) ⟨_,.start,λ_=> [],?_⟩ ?_ ?_ ?_
 ·have hth:∀t,t<p.code.length->nth (yr p).zW t=⟨0,List.replicate p.ze.toNat 0,[]⟩:=λt ht=>zI _ _ _ ht
  refine ⟨V,λt ht=>⟨V,V⟩,λt ht=>by rw [hth t ht];rfl,λt ht r rs h=>(by cases h),λt ht r hr=>(by cases hr),λt ht=>trivial,λt ht w hw q hq=>?_,λw hw hn=>rfl,λt ht q hq=>?_,λl hn=>rfl,λt ht=>?_⟩
  ·rw [hth t ht] at hq;cases hq
  ·rw [hth t ht] at hq;cases hq
  ·rw [hth t ht];exact List.Pairwise.nil
 ·rintro s e t k hs he ⟨L,h⟩ ht hk
  by_cases h0:k=0
  ·subst h0
   obtain ⟨h1,h2,h3,h4⟩:=h.step zR Gl hm hs he ht hk
   split
   ·rename_i hf
    rw [h3]
    exact .zq he ht h1 (by rw [<-h2];exact hf)
   ·rename_i hf
    have hf' :(stepT p 0 e t 0).zq=false:=by rw [<-h2];simpa using hf
    obtain ⟨L',h5⟩:=h4 hf'
    exact ⟨_,.step he ht h1 hf',L',h5⟩
  ·rcases kj hk with ⟨h1,_⟩|⟨h1,h2,h3⟩
   ·exact absurd h1 h0
   ·have hf:(stepT p m s t k).zq=false:=by unfold stepT XY;rw [if_pos h1];rfl
    rw [if_neg (by rw [hf];decide)]
    obtain ⟨L',h5⟩:=h.flush zR hs ht h1 h2 h3
    exact ⟨e,he,L',h5⟩
 ·rintro s e hs he ⟨L,h⟩ oz
  have h1:=vi.1 oz
  have zg3:∀t,t<p.code.length->(nth s.zW t).wait= []:=λt ht=>List.length_eq_zero_iff.1 (h1 t ht).2
  have oB:ended p e=true:=vi.2 λt ht=>by
   rw [(h.same t ht).1,he.ku zR t ht]
   exact ⟨(h1 t ht).1,V⟩
  have hw:e.words=s.words:=by
   have hl:e.words.length=s.words.length:=by rw [(he.wf zR).words,(hs.wf zR).words]
   refine List.ext_getElem hl λi uN Dy=>?_
   have:=h.w2 (i:Int) za λt ht=>by rw [zg3 t ht];rfl
   simp only [UL] at this
   rw [qq _ _ uN,qq _ _ Dy] at this
   exact this
  have:=jq.done he oB
  rw [hw,h.zd] at this
  exact this
 ·rintro s e hs he ⟨L,h⟩ oz hst
  have Xq:∀t,t<p.code.length->vT (nth p.code t) (s.view t)=false/\(nth s.zW t).wait= []:=λt ht=>aL λk=>hst t k ht
  have ho:∀l,nth e.owner l=nth s.owner l:=λl=>h.o2 l λt ht q hq=>by rw [(Xq t ht).2] at hq;cases hq
  have zpO:Xo p 0 e:=λt k ht=>rR ⟨by
   have h1:=(Xq t ht).1
   unfold vT at h1⊢
   show (decide ((nth e.zW t).pc<_)&&q7 e.owner (nth e.zW t).wait.length (zo _ (nth e.zW t).pc))=false
   have h2:(decide ((nth s.zW t).pc<((nth p.code t).length:Int))&&q7 s.owner (nth s.zW t).wait.length (zo (nth p.code t) (nth s.zW t).pc))=false:=h1
   rw [(h.same t ht).1,he.ku zR t ht]
   rw [(Xq t ht).2] at h2
   unfold q7 at h2⊢
   rw [ho];exact h2,he.ku zR t ht⟩
  have Qo:ended p e=false:=by
   cases hc:ended p e with
   |false=>rfl
   |true=>
    exfalso
    have h1:=vi.1 hc
    have:ended p s=true:=vi.2 λt ht=>by
     rw [<-(h.same t ht).1,(Xq t ht).2]
     exact ⟨(h1 t ht).1,V⟩
    rw [this] at oz;cases oz
  have hw:e.words=s.words:=by
   have hl:e.words.length=s.words.length:=by rw [(he.wf zR).words,(hs.wf zR).words]
   refine List.ext_getElem hl λi uN Dy=>?_
   have:=h.w2 (i:Int) za λt ht=>by rw [(Xq t ht).2];rfl
   simp only [UL] at this
   rw [qq _ _ uN,qq _ _ Dy] at this
   exact this
  have:=jq.stuck he Qo zpO
  rw [hw,h.zd] at this
  exact this
end
def Qm :Pg:=⟨[[⟨9,0,0,0⟩],[⟨8,0,0,0⟩]],[0],0,1⟩
def Sp :List yc:=zad Qm 0 100 [yr Qm] [yr Qm]
def rW :Cl:=⟨0,0,1,0,0⟩
theorem El :D9 Qm 0 Sp=true:=zb
theorem Ej :¬pK Qm 0:=oZ El zb
theorem Ek :(Sp.all λs=>(List.range 2).all λa=>(List.range 2).all λb=>if a<b then (match vI Qm s a b with|some c=>decide (c=rW)|none=>true) else true)=true:=zb
theorem Eh :vI Qm (yr Qm) 0 1=some rW:=zb
theorem Ei {l:List Cl}(hn:l.Nodup)(hl:∀c,c∈l↔∃s,Reach Qm 0 s/\∃a b,a<b/\b<Qm.code.length/\vI Qm s a b=some c):l.length=1:=by
 have h1:rW∈l:=(hl _).2 ⟨_,.start,0,1,za,zf,Eh⟩
 have h2:∀c∈l,c=rW:=λc hc=>by
  obtain ⟨s,hs,a,b,GY,hb,e⟩:=(hl c).1 hc
  have I2:b<2:=hb
  have:=List.all_eq_true.1 (List.all_eq_true.1 (List.all_eq_true.1 Ek s (bp El hs)) a (List.mem_range.2 za)) b (List.mem_range.2 I2)
  rw [if_pos GY,e] at this
  exact of_decide_eq_true this
 rcases l with _|⟨a,_|⟨b,r⟩⟩
 ·cases h1
 ·rfl
 ·exfalso
  have ha:=h2 a (by simp)
  have hb:=h2 b (by simp)
  have:=(List.nodup_cons.1 hn).1
  exact this (by rw [ha,hb];simp)
theorem Pe {p:Pg}(hl:∀c,¬∃s,Reach p 0 s/\∃a b,a<b/\b<p.code.length/\vI p s a b=some c):Ar p:=by
 rintro s hs ⟨a,b,v,x,y,GY,ha,hb,h1,h2,h3⟩
 have key:∀a b x y,a<b->b<p.code.length->xC (nth p.code a) (s.view a)=some (v,x)->xC (nth p.code b) (s.view b)=some (v,y)->(x||y)=true->False:=by
  intro a b x y GY hb h1 h2 h3
  refine hl ⟨(a:Int),(nth s.zW a).pc,(b:Int),(nth s.zW b).pc,v⟩ ⟨s,hs,a,b,GY,hb,?_⟩
  unfold vI
  rw [h1,h2]
  simp only
  rw [if_pos ⟨trivial,h3⟩]
 rcases yq a b with h|h
 ·exact key a b x y h hb h1 h2 h3
 ·exact key b a y x za ha h2 h1 (by rw [Bool.or_comm];exact h3)
theorem DQ {p:Pg}(zR:yJ p)(hf:Ar p)(o:xR):jq p 0 o↔jq p 2 o:=⟨λh=>rH (NJ h),u2 zR hf zf o⟩
inductive StF (p:Pg)(t:Nat)(b:Int)(wt:List Wt)(a:Int)(ze:List Int)(W:Nat)(owner:List Int):Prop
 |A (i:Nat) (ha:a=i) (hi:i<=(nth p.code t).length) (hb:b=(pF (nth p.code t) i:Int)) (hw:wt= [])
 |B (i:Nat) (ha:a=i) (hi:i<(nth p.code t).length) (hs:Kg (nth (nth p.code t) i).op) (hb:b=(pF (nth p.code t) i:Int)+1) (hw:wt= [Zg (nth (nth p.code t) i) ze]) (hp:QG t (nth (nth p.code t) i) ze W owner)
 |C (i:Nat) (ha:a=i+1) (hi:i<(nth p.code t).length) (hs:Kg (nth (nth p.code t) i).op) (hb:b=(pF (nth p.code t) i:Int)+1) (hw:wt= [])
structure pD (p:Pg)(s' s:yc):Prop where
 words:s.words=s'.words
 owner:s.owner=s'.owner
 zd:s.zd=s'.zd
 ze:∀t,t<p.code.length->(nth s.zW t).ze=(nth s'.zW t).ze
 th:∀t,t<p.code.length->StF p t (nth s'.zW t).pc (nth s'.zW t).wait (nth s.zW t).pc (nth s.zW t).ze s.words.length s.owner
theorem QG.other {t:Nat}{i:Ins}{ze:List Int}{W W' :Nat}{owner zA:List Int}(h:QG t i ze W owner)(hW:W' =W)(ho:∀a,nth owner a=(t:Int)->nth zA a=t):QG t i ze W' zA:=⟨λe=>ho _ (h.1 e),by rw [hW];exact h.2⟩
theorem StF.other {p:Pg}{t:Nat}{b:Int}{wt:List Wt}{a:Int}{ze:List Int}{W W' :Nat}{owner zA:List Int}(h:StF p t b wt a ze W owner)(hW:W' =W)(ho:∀a,nth owner a=(t:Int)->nth zA a=t):StF p t b wt a ze W' zA:=by
 cases h with
 |A i ha hi hb hw=>exact .A i ha hi hb hw
 |B i ha hi hs hb hw hp=>exact .B i ha hi hs hb hw (hp.other hW ho)
 |C i ha hi hs hb hw=>exact .C i ha hi hs hb hw
theorem pD.both {p:Pg}{s' s:yc}(h:pD p s' s){t:Nat}(HN:t<s'.zW.length)(hl:t<s.zW.length){y' y:TS}(e1:y.words=y'.words)(e2:y.owner=y'.owner)(e3:y.zd=y'.zd)(e4:y.ze=y'.ze)(hW:y.words.length=s.words.length)
  (ho:∀a (u:Nat),u≠t->nth s.owner a=(u:Int)->nth y.owner a=u) (hst:StF p t y'.pc y'.wait y.pc y.ze y.words.length y.owner):pD p (s'.yt t y') (s.yt t y):=by
 refine ⟨e1,e2,e3,λu hu=>?_,λu hu=>?_⟩
 ·rw [xI hl,xI HN];split
  ·exact e4
  ·exact h.ze u hu
 ·rw [xI hl,xI HN]
  by_cases e:t=u
  ·subst e;rw [if_pos V,if_pos V];exact hst
  ·rw [if_neg e,if_neg e]
   exact (h.th u hu).other hW λa ha=>ho a u (λh=>e h.symm) ha
theorem pD.left {p:Pg}{s' s:yc}(h:pD p s' s){t:Nat}(HN:t<s'.zW.length){y' :TS}(e1:s.words=y'.words)(e2:s.owner=y'.owner)(e3:s.zd=y'.zd)(e4:t<p.code.length->(nth s.zW t).ze=y'.ze)(hst:t<p.code.length->StF p t y'.pc y'.wait (nth s.zW t).pc (nth s.zW t).ze s.words.length s.owner):pD p (s'.yt t y') s:=by
 refine ⟨e1,e2,e3,λu hu=>?_,λu hu=>?_⟩
 ·rw [xI HN];split
  ·rename_i e;subst e;exact e4 hu
  ·exact h.ze u hu
 ·rw [xI HN];split
  ·rename_i e;subst e;exact hst hu
  ·exact h.th u hu
theorem fa {l:List Int}{a b:Nat}{v x:Int}(h:nth l a=x)(hn:nth l b≠x):nth (l.set b v) a=x:=by
 rw [yL]
 split
 ·rename_i e;rw [e.1] at hn;exact absurd h hn
 ·exact h
section
variable {p:Pg}
theorem Gw (hR:pH p)(hs:∀t,t<p.code.length->(J5 (nth p.code t)).length<=400)(zR:yJ p):pH (qz p):=by
 refine ⟨λc hc x hx=>?_,hR.words⟩
 obtain ⟨t,ht,rfl⟩:=List.mem_iff_getElem.1 hc
 have Ut:t<p.code.length:=by simpa [qz] using ht
 rw [<-qq _ _ ht,xq Ut] at hx
 obtain ⟨j,hj,rfl⟩:=List.mem_iff_getElem.1 hx
 rw [<-qq _ _ hj]
 have x3:=hs t Ut
 obtain ⟨i,k,hi,hk,e⟩:=Dc (Q4 (wF (nth p.code t))) (nth p.code t) _ (qC _) j (by rw [<-Uk,Rl];exact hj)
 rw [GF] at hk
 have h0:Mx (nth (nth p.code t) i):=hR.code _ (qb _ _ Ut) _ (qb _ _ hi)
 have hjo:=zR.EM Ut
 have hn:∀q:Nat,q<=(nth p.code t).length->gy (pF (nth p.code t) q:Int):=λq hq=>by
  have:=zgn (c:=nth p.code t) (i:=q) hq
  unfold gy;omega
 by_cases ss:k=0
 ·subst ss
  have e' :j=pF (nth p.code t) i:=e
  rw [e']
  by_cases xd:(nth (nth p.code t) i).op=14
  ·rw [dx hi xd]
   exact ⟨hn _ (by have:=(hjo i hi).1 xd;omega),h0.2⟩
  by_cases xr:(nth (nth p.code t) i).op=15
  ·rw [DW hi xr]
   exact ⟨h0.1,hn _ (by have:=(hjo i hi).2 xr;omega),h0.2.2⟩
  rw [kA hi xd xr];exact h0
 ·by_cases hw:wF (nth p.code t) i=true
  ·rw [if_pos hw] at hk
   obtain rfl:k=1:=za
   have e' :j=pF (nth p.code t) i+1:=e
   rw [e',(Xy hi hw).1]
   exact ⟨by unfold gy;simp,by unfold gy;simp,by unfold gy;simp⟩
  ·rw [if_neg hw] at hk;omega
end
section
variable {p:Pg}
theorem u1 (zR:yJ p)(hq:yJ (qz p)):∀o,jq (qz p) 2 o->jq p 0 o:=by
  refine RL (λs' s=>pD p s' s) ⟨_,.start,?_⟩ ?_ ?_ ?_
  · have e:∀(p:Pg) t,t<p.code.length->nth (yr p).zW t=⟨0,List.replicate p.ze.toNat 0,[]⟩:=λp t ht=>zI _ _ _ ht
    refine ⟨V,V,V,λt ht=>?_,λt ht=>?_⟩
    · rw [e p t ht,e (qz p) t (by rw [xm];exact ht)];rfl
    · rw [e p t ht,e (qz p) t (by rw [xm];exact ht)]
      exact .A 0 V (wX _) (by simp [pF,y6]) V
  · intro s' s t k GW hr hrel ht hk
    rw [xm] at ht
    have si:t<(qz p).code.length:=by rw [xm];exact ht
    have qY:=xq ht
    have hl:=hr.len zR ht
    have HN:=GW.len hq si
    have Ys:=hr.ku zR t ht
    have Uu:=hrel.ze t ht
    rcases hrel.th t ht with ⟨i,ha,hi,hb,hw⟩|⟨i,ha,hi,hs,hb,hw,hp⟩|⟨i,ha,hi,hs,hb,hw⟩
    ·
      have hv:s.view t= { s'.view t with pc:=(i:Int) } :=by
        unfold yc.view
        simp only [Uu,Ys,hw,hrel.words,hrel.owner,hrel.zd,ha]
      rcases kj hk with ⟨rfl,qU,GY⟩|⟨h1,h2,_⟩
      case inr=>rw [show (s'.view t).wait= [] from hw] at h2;simp at h2;omega
      have xl:(s'.view t).pc=(pF (nth p.code t) i:Int):=hb
      have V7:i<(nth p.code t).length:=by
        rcases yq i (nth p.code t).length with h|h
        · exact h
        · obtain rfl:i=(nth p.code t).length:=za
          rw [xl,qY,R5] at qU;omega
      have Rf:=(WG V7).2
      have hn' :zo (nth (qz p).code t) (s'.view t).pc=nth (J5 (nth p.code t)) (pF (nth p.code t) i):=by rw [qY];exact y8 xl Rf
      rw [hn'] at GY
      have E3:=ZZ (p:=qz p) (m:=2) (s:=s') (t:=t)
      rw [hn',xl] at E3
      have mb:(s.view t).pc=(i:Int):=ha
      have hn:=y8 mb V7
      have hst:=ZZ (p:=p) (m:=0) (s:=s) (t:=t)
      rw [hn,mb] at hst
      by_cases hs:Kg (nth (nth p.code t) i).op
      · have xv:=kA V7 (K8 hs).1 (K8 hs).2
        rw [xv] at E3
        have hx:=Wd (m:=2) (t:=t) (x:= { s'.view t with pc:=(pF (nth p.code t) i:Int)+1 }) hs hw
        by_cases hp:QG t (nth (nth p.code t) i) (nth s'.zW t).ze s'.words.length s'.owner
        · have e:=hx.1 hp
          rw [<-E3] at e
          have e0:stepT (qz p) 2 s' t 0= { s'.view t with pc:=(pF (nth p.code t) i:Int)+1,wait:= [Zg (nth (nth p.code t) i) (nth s'.zW t).ze] } :=by
            rw [e];unfold TS.store;rw [if_pos zf]
            show ({ s'.view t with pc:=_,wait:=(nth s'.zW t).wait++ [_] } :TS)=_
            rw [hw];rfl
          rw [if_neg (by rw [e0];exact XQ)]
          refine ⟨s,hr,?_⟩
          rw [e0]
          exact hrel.left HN hrel.words hrel.owner hrel.zd (λ_=>Uu) (λ_=> .B i ha V7 hs V (by rw [Uu]) (by rw [Uu,hrel.words,hrel.owner];exact hp))
        · have e:=hx.2 hp
          rw [<-E3] at e
          rw [if_pos (by rw [e])]
          have cO:=(Wd (m:=0) (t:=t) (x:= { s.view t with pc:=(i:Int)+1 }) hs Ys).2 (by show¬QG t _ (nth s.zW t).ze s.words.length s.owner;rw [Uu,hrel.words,hrel.owner];exact hp)
          rw [<-hst] at cO
          have:=jq.zq hr ht (QH (by rw [mb];omega) (by rw [hn];show q7 _ (nth s.zW t).wait.length _=true;rw [Ys];exact Rx hs)) (by rw [cO])
          rw [cO] at this
          rw [e]
          rw [show ({ ({ s.view t with pc:=(i:Int)+1 } :TS) with zq:=true } :TS).zd=(s'.view t).zd from hrel.zd] at this
          exact this
      · obtain ⟨j,Ti,hj1,Xg⟩:=lz zR (m:=0) (m' :=2) ht V7 hs (s'.view t)
        have e' :stepT (qz p) 2 s' t 0= { stepT p 0 s t 0 with pc:=(pF (nth p.code t) j:Int) } :=by rw [E3,hst,hv];exact Xg
        have zrt:(stepT p 0 s t 0).pc=(j:Int):=by rw [hst,hv];exact hj1
        have lq:q7 (s.view t).owner (s.view t).wait.length (nth (nth p.code t) i)=true:=by
          rw [show (s.view t).owner=(s'.view t).owner from hrel.owner,show (s.view t).wait.length=(s'.view t).wait.length by show (nth s.zW t).wait.length=(nth s'.zW t).wait.length;rw [Ys,hw]]
          by_cases xd:(nth (nth p.code t) i).op=14
          · unfold q7;simp [xd]
          by_cases xr:(nth (nth p.code t) i).op=15
          · unfold q7;simp [xr]
          rw [kA V7 xd xr] at GY;exact GY
        have Xf:xp 0 (nth p.code t) (s.view t) 0=true:=QH (by rw [mb];omega) (by rw [hn];exact lq)
        split
        · rename_i hf
          rw [e'] at hf⊢
          exact jq.zq hr ht Xf hf
        · rename_i hf
          rw [e'] at hf
          refine ⟨_,.step hr ht Xf (by simpa using hf),?_⟩
          rw [e']
          have U5:=Kq (m:=0) (m' :=0) (n:=t) (x:= { s.view t with pc:=(i:Int)+1 }) hs
          rw [<-hst] at U5
          have EY:=(hr.wf zR).step zR ht Xf
          have ZU:(stepT p 0 s t 0).words.length=s.words.length:=EY.words.trans (hr.wf zR).words.symm
          refine hrel.both HN hl V V V V ZU (λa u Qo hu=>?_) ?_
          · by_cases jk:(nth (nth p.code t) i).op=17
            · rw [U5.2.2.2.1 jk]
              have Gl:nth s.owner (nth (nth p.code t) i).a.toNat= -1:=by
                unfold q7 at lq
                rw [if_neg za,if_neg za,if_pos jk] at lq
                simp only [qI,decide_eq_true_eq] at lq
                exact lq.2
              exact fa hu (by show nth s.owner _≠_;rw [Gl];omega)
            · rw [U5.2.2.1 jk];exact hu
          · exact .A j zrt Ti V (by show (stepT p 0 s t 0).wait= [];rw [U5.2.1];exact Ys)
    ·
      have xl:(s'.view t).pc=((pF (nth p.code t) i+1:Nat):Int):=by show (nth s'.zW t).pc=_;rw [hb];simp
      obtain ⟨hf1,hf2⟩:=Xy hi (mq.2 hs)
      rcases kj hk with ⟨rfl,qU,GY⟩|⟨h1,h2,_⟩
      · rw [qY,y8 xl hf2,hf1,show (s'.view t).wait=_ from hw] at GY
        exact absurd GY (by unfold q7;simp)
      rw [show (s'.view t).wait=_ from hw] at h2
      obtain rfl:k=1:=by simp at h2;omega
      have e' :stepT (qz p) 2 s' t 1= { (s'.view t).done (Zg (nth (nth p.code t) i) (nth s.zW t).ze) with wait:= [] } :=by
        unfold stepT XY
        rw [if_pos za,show (s'.view t).wait=_ from hw];rfl
      rw [if_neg (by rw [e'];exact XQ)]
      have mb:(s.view t).pc=(i:Int):=ha
      have hn:=y8 mb hi
      have hst:=ZZ (p:=p) (m:=0) (s:=s) (t:=t)
      rw [hn,mb] at hst
      have hx:=(Wd (m:=0) (t:=t) (x:= { s.view t with pc:=(i:Int)+1 }) hs Ys).1 hp
      rw [<-hst] at hx
      have e0:stepT p 0 s t 0= { (s.view t).done (Zg (nth (nth p.code t) i) (nth s.zW t).ze) with pc:=(i:Int)+1 } :=by rw [hx];unfold TS.store;rw [if_neg zf];rfl
      have Xf:xp 0 (nth p.code t) (s.view t) 0=true:=QH (by rw [mb];omega) (by rw [hn];show q7 _ (nth s.zW t).wait.length _=true;rw [Ys];exact Rx hs)
      have EY:=(hr.wf zR).step zR ht Xf
      have ZU:(stepT p 0 s t 0).words.length=s.words.length:=EY.words.trans (hr.wf zR).words.symm
      refine ⟨_,.step hr ht Xf (by rw [e0];rfl),?_⟩
      rw [e0] at ZU⊢
      rw [e']
      have d1:((s.view t).done (Zg (nth (nth p.code t) i) (nth s.zW t).ze)).words=((s'.view t).done (Zg (nth (nth p.code t) i) (nth s.zW t).ze)).words:=by unfold TS.done;simp only [show (s.view t).words=(s'.view t).words from hrel.words]
      have d2:((s.view t).done (Zg (nth (nth p.code t) i) (nth s.zW t).ze)).owner=((s'.view t).done (Zg (nth (nth p.code t) i) (nth s.zW t).ze)).owner:=by unfold TS.done;simp only [show (s.view t).owner=(s'.view t).owner from hrel.owner]
      refine hrel.both HN hl d1 d2 hrel.zd Uu ZU (λa u Qo hu=>?_) (.C i V hi hs hb V)
      show nth (if (Zg (nth (nth p.code t) i) (nth s.zW t).ze).lock=true then s.owner.set (Zg (nth (nth p.code t) i) (nth s.zW t).ze).wh.toNat (-1) else s.owner) a=u
      split
      · rename_i gv
        have jc:(nth (nth p.code t) i).op=18:=by
          unfold Zg at gv
          apply Classical.byContradiction
          intro jc
          rw [if_neg jc] at gv
          split at gv<;>cases gv
        have hwh:(Zg (nth (nth p.code t) i) (nth s.zW t).ze).wh=(nth (nth p.code t) i).a:=by unfold Zg;rw [if_pos jc]
        rw [hwh]
        exact fa hu (by rw [hp.1 jc];omega)
      · exact hu
    ·
      have xl:(s'.view t).pc=((pF (nth p.code t) i+1:Nat):Int):=by show (nth s'.zW t).pc=_;rw [hb];simp
      obtain ⟨hf1,hf2⟩:=Xy hi (mq.2 hs)
      rcases kj hk with ⟨rfl,qU,GY⟩|⟨h1,h2,_⟩
      case inr=>rw [show (s'.view t).wait= [] from hw] at h2;simp at h2;omega
      have hn' :zo (nth (qz p).code t) (s'.view t).pc=⟨12,0,0,0⟩:=by rw [qY,y8 xl hf2,hf1]
      have E1:=cx hi
      rw [if_pos (mq.2 hs)] at E1
      have e' :stepT (qz p) 2 s' t 0= { s'.view t with pc:=(pF (nth p.code t) (i+1):Int) } :=by
        rw [ZZ,hn',xl,wB zf,E1]
        simp
        omega
      rw [if_neg (by rw [e'];exact XQ)]
      refine ⟨s,hr,?_⟩
      rw [e']
      exact hrel.left HN hrel.words hrel.owner hrel.zd (λ_=>Uu) (λ_=> .A (i+1) (by rw [ha];simp) za V hw)
  · intro s' s GW hr hrel he
    have oB:=vi.1 he
    have:ended p s=true:=vi.2 λt ht=>by
      obtain ⟨h1,h2⟩:=oB t (by rw [xm];exact ht)
      rw [xq ht] at h1
      rw [hr.ku zR t ht]
      refine ⟨?_,V⟩
      rcases hrel.th t ht with ⟨i,ha,hi,hb,hw⟩|⟨i,ha,hi,hs,hb,hw,hp⟩|⟨i,ha,hi,hs,hb,hw⟩
      · rw [hb] at h1;rw [ha]
        rcases yq i (nth p.code t).length with h|h
        · have:=(WG h).2;omega
        · omega
      · rw [hw] at h2;simp at h2
      · rw [hb] at h1
        have:=(Xy hi (mq.2 hs)).2;omega
    have h2:=jq.done hr this
    rw [hrel.words,hrel.zd] at h2
    exact h2
  · intro s' s GW hr hrel he hst
    have hA:∀t,t<p.code.length->∃i:Nat,(nth s.zW t).pc=i/\i<=(nth p.code t).length/\(nth s'.zW t).pc=(pF (nth p.code t) i:Int)/\(nth s'.zW t).wait= []:=by
      intro t ht
      have h0:=hst t
      rw [xm,xq ht] at h0
      rcases hrel.th t ht with ⟨i,ha,hi,hb,hw⟩|⟨i,ha,hi,hs,hb,hw,hp⟩|⟨i,ha,hi,hs,hb,hw⟩
      · exact ⟨i,ha,hi,hb,hw⟩
      · have:=h0 1 ht
        unfold xp at this
        rw [if_neg za,show (s'.view t).wait=_ from hw] at this
        simp [w6] at this
      · have h1:=h0 0 ht
        have xl:(s'.view t).pc=((pF (nth p.code t) i+1:Nat):Int):=by show (nth s'.zW t).pc=_;rw [hb];simp
        obtain ⟨hf1,hf2⟩:=Xy hi (mq.2 hs)
        rw [QH (by rw [xl];omega) (by rw [y8 xl hf2,hf1,show (s'.view t).wait= [] from hw];rfl)] at h1
        cases h1
    have zpN:Xo p 0 s:=by
      intro u k hu
      cases hc:xp 0 (nth p.code u) (s.view u) k with
      |false=>rfl
      |true=>
        exfalso
        have Ys:=hr.ku zR u hu
        rcases kj hc with ⟨rfl,h3,h4⟩|⟨h3,h4,_⟩
        case inr=>rw [show (s.view u).wait= [] from Ys] at h4;simp at h4;omega
        obtain ⟨i,ha,hi,hb,hw⟩:=hA u hu
        have mb:(s.view u).pc=(i:Int):=ha
        have qU:i<(nth p.code u).length:=by rw [mb] at h3;omega
        have xl:(s'.view u).pc=(pF (nth p.code u) i:Int):=hb
        rw [y8 mb qU,show (s.view u).wait= [] from Ys] at h4
        have h0:=hst u 0 (by rw [xm];exact hu)
        rw [xq hu] at h0
        rw [QH (by rw [xl];have:=(WG qU).2;omega) (by
          rw [y8 xl (WG qU).2,show (s'.view u).wait= [] from hw]
          by_cases xd:(nth (nth p.code u) i).op=14
          · rw [dx qU xd];unfold q7;simp [xd]
          by_cases xr:(nth (nth p.code u) i).op=15
          · rw [DW qU xr];unfold q7;simp [xr]
          rw [kA qU xd xr,show (s'.view u).owner=(s.view u).owner from hrel.owner.symm];exact h4)] at h0
        cases h0
    have Qo:ended p s=false:=by
      cases hc:ended p s with
      |false=>rfl
      |true=>
        exfalso
        have oB:=vi.1 hc
        have:ended (qz p) s' =true:=vi.2 λt ht=>by
          rw [xm] at ht
          obtain ⟨a1,a2⟩:=oB t ht
          obtain ⟨i,ha,hi,hb,hw⟩:=hA t ht
          rw [xq ht,hw]
          refine ⟨?_,V⟩
          rw [ha] at a1
          obtain rfl:i=(nth p.code t).length:=za
          rw [hb,R5];omega
        rw [this] at he;cases he
    have h2:=jq.stuck hr Qo zpN
    rw [hrel.words,hrel.zd] at h2
    exact h2
theorem Jk (zR:yJ p)(hq:yJ (qz p))(o:xR):jq p 0 o↔jq (qz p) 2 o:=⟨λh=>rH (Lh zR hq o h),u1 zR hq o⟩
end
end Go.Proofs.YtmjkobhkkjgplaaGreatDoor
