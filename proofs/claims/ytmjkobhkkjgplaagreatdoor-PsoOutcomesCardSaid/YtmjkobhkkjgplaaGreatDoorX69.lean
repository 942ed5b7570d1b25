/- The memory in which stores wait: its methods. -/
import Derived.RangeFuncBox
import Derived.RangeFuncLeaves
import Derived.RangeFuncFrom
import Derived.Shelf.Abstract
import Derived.OwnWalkIn
import Derived.TacticsInMore
import Derived.LoopNIn
import Derived.LoopIn
import Derived.Test.YtmjkobhkkjgplaaGreatDoorS7
import Derived.Test.YtmjkobhkkjgplaaGreatDoorX0
import Derived.RangeFuncNested
import Derived.Test.YtmjkobhkkjgplaaGreatDoorX61
import Derived.Test.YtmjkobhkkjgplaaGreatDoorX16
import Derived.Test.YtmjkobhkkjgplaaGreatDoorS28
import Derived.Test.YtmjkobhkkjgplaaGreatDoorS15
import Derived.Test.YtmjkobhkkjgplaaGreatDoorX3
import Derived.Test.YtmjkobhkkjgplaaGreatDoorX66
section
section
namespace Go.Proofs.YtmjkobhkkjgplaaGreatDoor
open Go.RowKit Go.Shelf
set_option linter.unusedSimpArgs false
set_option linter.unusedVariables false
attribute [local go_sem] Oper.semAt_some
@[local go_sem] theorem sz_wt:Enc.sz Wt=3:=rfl
@[local go_sem] theorem agg_wt:Enc.agg Wt=true:=rfl
@[local go_sem] theorem cell_wt0 (x:Wt):Enc.cell x 0= .bool x.lock:=rfl
@[local go_sem] theorem cell_wt1 (x:Wt):Enc.cell x 1= .int .i64 x.wh:=rfl
@[local go_sem] theorem cell_wt2 (x:Wt):Enc.cell x 2= .int .i64 x.what:=rfl
@[local go_sem] theorem whole_wt (x:Wt):Enc.whole x= .agg #[.bool x.lock, .int .i64 x.wh, .int .i64 x.what]:=rfl
def backN (l:List Wt) (k:Nat):List (Nat×Wt):=(List.range k).map fun j=>(l.length-1-j,nth l (l.length-1-j))
theorem backN_succ (l:List Wt) (k:Nat):backN l (k+1)=backN l k++ [(l.length-1-k,nth l (l.length-1-k))]:=by simp [backN,List.range_succ]
theorem backN_len (l:List Wt) (k:Nat):(backN l k).length=k:=by simp [backN]
set_option maxRecDepth 100000 in
set_option maxHeartbeats 4000000 in
theorem back1_in (F:Fence) (n:Nat) (hF:F.fn 221) (hro:F.round=none) (hn:1≤n) (l Bs n₀:Nat) (s:Sl Wt) (hs3:s.l.length≤3) (hb:∀b,s.on b→b<n₀) (J Jx:List (Nat×Wt)→World→Prop)
  (hY:∀pre x W,J pre W→pre.length<s.l.length→YieldAt F (n-1) Tryz.prog l #[.int .i64 ((x.1:Nat):Int), .agg #[.bool x.2.lock, .int .i64 x.2.wh, .int .i64 x.2.what]] W fun e W' =>
   (e= .returned (.bool true)∧J (pre++ [x]) W' ∧Below n₀ W W')∨(e= .returned (.bool false)∧Jx (pre++ [x]) W'))
  (W:World) (hBs:Bs<n₀) (hBc:W.cell? ⟨Bs,0,none⟩=some (.slice s.A s.l.length s.cap)) (hs:s.At W) (h0:J [] W):
  CallsIn F n Tryz.prog 221 #[.func (.yield l) #[] #[], .pointer (some ⟨Bs,0,none⟩)] W fun e W' =>(∃v,e= .returned v)∧
   ((∃ys,ys=backN s.l s.l.length∧J ys W')∨(∃pre,(∃k,k≤s.l.length∧pre=backN s.l k)∧Jx pre W')):=by
 refine callsIn_of_wp Tryz.func221 rfl hF ?_ hro
 simp only [Tryz.ntmps221,List.size_toArray,List.length_cons,List.length_nil,Nat.reduceAdd,Nat.reduceSub,Array.replicate_succ,Array.replicate_zero,List.push_toArray,List.append_toArray,List.nil_append,List.cons_append]
 gi_wp2
 gi_loopw [3] (fun i wr=>∃k:Nat,k≤s.l.length∧i= .int .i64 ((s.l.length:Int)-1-k)∧J (backN s.l k) wr∧Below n₀ W wr)
  (fun i _=>(intOf i+1).toNat)
 case atStart=>exact ⟨0,Nat.zero_le _,by simp,h0,Below.refl _ _⟩
 case round=>
  obtain ⟨k,hk,rfl,hJs,hnx⟩:=hrel
  have hBx:wr.cell? ⟨Bs,0,none⟩=some (.slice s.A s.l.length s.cap):=(hnx.cell (p:=⟨Bs,0,none⟩) hBs).trans hBc
  have hsx:s.At wr:=hs.keep fun b hb' =>hnx.block b (hb b hb')
  by_cases hlt:k<s.l.length
  ·obtain ⟨q,hq,e9,e8⟩:∃q:Nat,q<s.l.length∧(s.l.length:Int)-1-k=((q:Nat):Int)∧s.l.length-1-k=q:=⟨s.l.length-1-k,by omega,by omega,rfl⟩
   obtain ⟨fn,tmps,assign,body,hy,hR⟩:=hY _ (q,nth s.l q) wr hJs (by rw [backN_len];exact hlt)
   dsimp only at hy
   rw [e9]
   gi_wp2
   refine hR.mono ?_
   rintro e W3 (⟨rfl,hJ3,hk3⟩|⟨rfl,hJx3⟩)
   ·gi_wp2
    go_roundw
    case rel=>exact ⟨k+1,by omega,by congr 1<;>omega,by rw [backN_succ,e8];exact hJ3,hnx.trans hk3⟩
    case measure=>simp [intOf]<;>omega
   ·gi_wp2
    refine bodyPost_ret (results_none rfl _ _ _) rfl ?_
    exact ⟨⟨_,rfl⟩, .inr ⟨_,⟨k+1,by omega,by rw [backN_succ,e8]⟩,hJx3⟩⟩
  ·obtain rfl:k=s.l.length:=by omega
   gi_wp2
   go_end0
   exact ⟨⟨_,rfl⟩, .inl ⟨_,rfl,hJs⟩⟩
set_option maxHeartbeats 1000000 in
theorem back_in (F:Fence) (n:Nat) (hF:F.fn 220) (hro:F.round=none) (a:Option Addr) (len cap:Nat) (w:World):
  CallsIn F n Tryz.prog 220 #[.slice a len cap] w fun e w' =>e= .returned (.func (.func 221) #[] #[.pointer (some ⟨w.heap.size,0,none⟩)])∧w' =w.alloc (.cells #[.slice a len cap] 267):=by
 refine callsIn_of_wp Tryz.func220 rfl hF ?_ hro
 simp only [Tryz.ntmps220,List.size_toArray,List.length_cons,List.length_nil,Nat.reduceAdd,Nat.reduceSub,Array.replicate_succ,Array.replicate_zero,List.push_toArray,List.append_toArray,List.nil_append,List.cons_append]
 gi_wp2
 go_ret
 exact ⟨rfl,rfl⟩
theorem back_stops (F:Fence) (n:Nat) (hF:F.fn 221) (hro:F.round=none) (hn:1≤n) (Bs n₀:Nat) (s:Sl Wt) (hs3:s.l.length≤3) (w:World) (hBs:Bs<n₀) (hn₀:n₀≤w.heap.size) (hb:∀b,s.on b→b<n₀)
  (hc:w.cell? ⟨Bs,0,none⟩=some (.slice s.A s.l.length s.cap)) (hs:s.At w):
  SeqStopsK F n Tryz.prog 221 #[.pointer (some ⟨Bs,0,none⟩)] (fun x:Nat×Wt=> #[Value.int .i64 ((x.1:Nat):Int), .agg #[.bool x.2.lock, .int .i64 x.2.wh, .int .i64 x.2.what]]) (Below n₀) (fun ys=>ys=backN s.l s.l.length)
   (fun pre=>∃k,k≤s.l.length∧pre=backN s.l k) s.l.length w:=fun l J Jx W hW _ _ hY h0=>
 back1_in F n hF hro hn l Bs n₀ s hs3 hb J Jx hY W hBs ((hW.cell (p:=⟨Bs,0,none⟩) (by show Bs<w.heap.size;omega)).trans hc) (hs.keep fun b hb' =>hW.block b (by have:=hb b hb';omega)) h0
end Go.Proofs.YtmjkobhkkjgplaaGreatDoor
end
namespace Go.Proofs.YtmjkobhkkjgplaaGreatDoor
open Go.RowKit Go.Shelf
set_option linter.unusedSimpArgs false
set_option linter.unusedVariables false
attribute [local go_sem] Oper.semAt_some sz_wt agg_wt cell_wt0 cell_wt1 cell_wt2 whole_wt
@[local go_sem] theorem cell_lsw (x:Ls Wt) (j:Nat):Enc.cell x j=x.v:=rfl
@[local go_sem] theorem sz_lsw:Enc.sz (Ls Wt)=1:=rfl
def NoM (wd:Int) (pre:List (Nat×Wt)):Prop:=∀x∈pre,¬(x.2.lock=false∧x.2.wh=wd)
def HitM (wd:Int) (pre:List (Nat×Wt)) (what:Int):Prop:=∃pre' x,pre=pre' ++ [x]∧NoM wd pre' ∧x.2.lock=false∧x.2.wh=wd∧x.2.what=what
theorem noM_snoc {wd:Int} {pre:List (Nat×Wt)} {x:Nat×Wt} (h:NoM wd pre) (hx:¬(x.2.lock=false∧x.2.wh=wd)):NoM wd (pre++ [x]):=fun y hy=>by
 rcases List.mem_append.1 hy with hy|hy
 ·exact h y hy
 ·obtain rfl:y=x:=by simpa using hy
  exact hx
theorem blk_own {β:Type} (B:Nat) (t:TypeId) (f:β→Array Value):Own (fun s W=>Blk W B t (f s)):=fun s X Y row hs hg hrow=>by
 refine (hg.block B hs.lt ?_).trans hs
 intro e'
 obtain ⟨o,ho,hc⟩:=hrow B e'.symm
 rw [show X.heap[B]? =_ from hs] at ho
 cases ho
 cases hc
theorem x_tailG {P:Program} {Q:Exit→Act→World→Prop} {C:World→Prop} {a:Act} {w:World} {id:Nat} {l:List Oper} (m:Nat) (ps:List Nat) (hm:P.follows .mixedOrders=true) (hB:tailB l m ps=true) (hC:C w.drew) (hl:opsAt l.toArray ps++opsAt l.toArray (quietIs m ps)=l.take m)
  (k:∀Z:Act→Prop,(∀a',(∀w',C w' →wpList P l.toArray (fun e a w=>match e with| .normal=>Q .normal a w|_=>False) (l.drop m) a' w')→Z a')→wpQuiet P l.toArray C Z (l.take m) a):(Code.region id l.toArray true).wp P Q a w:=by
 rw [←hl] at k
 simp only [tailB,Bool.and_eq_true,Nat.ble_eq] at hB
 obtain ⟨h1,h2,h3,h4,h5,h6,h7⟩:=hB
 have hpm:∀p∈ps,p<m:=fun p hp=>by simpa using (List.all_eq_true.1 h5) p hp
 refine Code.wp_mono (Q:=fun e a w=>match e with| .normal=>Q .normal a w|_=>False) (fun e a w he=>by cases e<;>first|exact he|exact he.elim) ?_
 refine wp_region_any hm ?_
 split at h7
 ·rename_i lp hlp
  have hq:=k _ (fun _ h=>h)
  have hcl0:ClosedB l (fun j=>(Array.replicate l.length false).getD j false):=by
   intro i o _ hS;simp only [Array.getD_eq_getD_getElem?,Array.getElem?_replicate] at hS;split at hS<;>cases hS
  obtain ⟨c1,c2,c3,c4,c5⟩:=pureIs_spec ps _ lp hlp hcl0
  have hsz:lp.size=l.length:=by simpa using c2
  have hlen:l.toArray.size=((quietIs m ps).length+(l.length-m))+ps.length:=by
   have:=Nat.eq_of_beq_eq_true h6
   simp;omega
  rw [hlen]
  rw [show Array.replicate ((quietIs m ps).length+(l.length-m)+ps.length) false=Array.replicate l.length false by rw [←hlen];simp]
  refine any_pure (C:=C) h4 (fun c a w h=>h) ps _ _ lp a w.drew hC hlp hq fun a' hq' => ?_
  have h8:=anyQ_is (P:=P) h4 (quietIs m ps) _ a' h7 hq'
  have hot:∀j,j<l.length→(orTail lp m).getD j false=(lp.getD j false||Nat.ble m j):=by
   intro j hj
   simp [orTail,Array.getD_eq_getD_getElem?,hsz,hj]
  refine any_tail (C:=C) hpm h1 h2 h3 _ lp (orTail lp m) a' w.drew hC (c4 (by simp)) c1 hsz (by simp [orTail,hsz]) (fun j hj=> ?_) (fun j hj hj2=> ?_) h8
  ·rw [hot j (by omega)]
   cases hb:Nat.ble m j
   ·simp
   ·rw [Nat.ble_eq] at hb;omega
  ·refine ⟨?_,by rw [hot j hj2,show Nat.ble m j=true by rw [Nat.ble_eq];exact hj];simp⟩
   rw [c5 j (fun hp=>by have:=hpm j hp;omega)]
   simp [Array.getD_eq_getD_getElem?,Array.getElem?_replicate,hj2]
 ·cases h7
theorem buf_leave {W:World} {D b:Nat} {v:Int} {R:Ending→World→Prop} {tmps:Array Value} {o:Obj} (hb:Boxed W b 3 (.int .i64 v)) (hne:b≠D) (ht:tmps.getD 6 undef= .pointer (some ⟨b,0,none⟩)) (hR:R (.returned (.int .i64 v)) (W.putObj D o)):
  LeavesInM Fence.wide 6 Tryz.prog Tryz.f212 tmps R [] .returning (W.putObj D o):=by
 have hb' :Boxed (W.putObj D o) b 3 (.int .i64 v):=(World.putObj_heap_other hne).trans hb
 have hc:=hb'.cell
 refine ⟨.int .i64 v, ?_,hR⟩
 unfold results
 rw [Array.getD_eq_getD_getElem?] at ht
 simp [Tryz.f212,ht,asAddr]
 unfold Boxed at hb'
 simp [loadVar,World.cell?,hb']
set_option maxRecDepth 100000 in
set_option maxHeartbeats 4000000 in
theorem bufLoad_in (g1 g0 t:Nat) (wait:Sl (Ls Wt)) (row:Sl Wt) (words owner:Ls Int) (wd:Int) (w:World) (hB1:Blk w g1 185 #[.pointer (some ⟨g0,0,none⟩), .slice wait.A wait.l.length wait.cap]) (hB0:Blk w g0 182 #[words.v,owner.v])
  (hwo:words.At w) (hoo:owner.At w) (hwa:wait.At w) (ht:t<wait.l.length) (hrv:(nth wait.l t).v= .slice row.A row.l.length row.cap) (hr:row.At w) (hr3:row.l.length≤3) (hwd:0≤wd∧wd<words.l.length):
  CallsIn Fence.wide 6 Tryz.prog 212 #[.pointer (some ⟨g1,0,none⟩), .int .i64 ((t:Nat):Int), .int .i64 wd] w fun e W' =>e= .returned (.int .i64 (findsL row.l words.l wd))∧Below w.heap.size w W' :=by
 refine callsIn_of_wp_marks Tryz.func212 rfl trivial ?_ rfl
 simp only [Tryz.ntmps212,List.size_toArray,List.length_cons,List.length_nil,Nat.reduceAdd,Nat.reduceSub,Array.replicate_succ,Array.replicate_zero,List.push_toArray,List.append_toArray,List.nil_append,List.cons_append]
 have hlt1:=hB1.lt
 have hB1' :=hB1
 have bW:=(Boxed.new w 3 (.int .i64 wd)).alloc (.cells #[.int .i64 0] 3)
 have bR:=Boxed.new (w.alloc (.cells #[.int .i64 wd] 3)) 3 (.int .i64 0)
 simp only [World.size_alloc] at bR
 have hA1:Below w.heap.size w ((w.alloc (.cells #[.int .i64 wd] 3)).alloc (.cells #[.int .i64 0] 3)):=((Below.refl _ w).alloc (Nat.le_refl _) _).alloc (by simp) _
 have hB1a:=(hB1.alloc (.cells #[.int .i64 wd] 3)).alloc (.cells #[.int .i64 0] 3)
 obtain ⟨c0,c1⟩:=hB1a.cells2
 have hwaa:wait.At ((w.alloc (.cells #[.int .i64 wd] 3)).alloc (.cells #[.int .i64 0] 3)):=hwa.keep fun b hb=>hA1.block b (hwa.lt hb)
 have ht' :(t:Int)<wait.l.length:=by omega
 gi_wp2_with (refine ⟨trivial, ?_⟩;gi_at_call 220;refine (back_in Fence.wide _ trivial rfl _ _ _ _).mono ?_;rintro e w' ⟨rfl,rfl⟩)
 have bW2:=bW.alloc (.cells #[.slice row.A row.l.length row.cap] 267)
 have bR2:=bR.alloc (.cells #[.slice row.A row.l.length row.cap] 267)
 have bS:=Boxed.new ((w.alloc (.cells #[.int .i64 wd] 3)).alloc (.cells #[.int .i64 0] 3)) 267 (.slice row.A row.l.length row.cap)
 simp only [World.size_alloc] at bS
 have hA2:Below w.heap.size w (((w.alloc (.cells #[.int .i64 wd] 3)).alloc (.cells #[.int .i64 0] 3)).alloc (.cells #[.slice row.A row.l.length row.cap] 267)):=hA1.alloc (by simp;omega) _
 have hsz:(((w.alloc (.cells #[.int .i64 wd] 3)).alloc (.cells #[.int .i64 0] 3)).alloc (.cells #[.slice row.A row.l.length row.cap] 267)).heap.size=w.heap.size+3:=by simp
 obtain ⟨W0,hW0⟩:∃W0,((w.alloc (.cells #[.int .i64 wd] 3)).alloc (.cells #[.int .i64 0] 3)).alloc (.cells #[.slice row.A row.l.length row.cap] 267)=W0:=⟨_,rfl⟩
 rw [hW0] at bW2 bR2 bS hA2 hsz⊢
 clear hW0 c0 c1 hB1a hwaa hA1 bR bW
 have hsz1:w.heap.size+3≤W0.heap.size:=by omega
 clear hsz
 have hrow0:row.At W0:=hr.keep fun b hb=>hA2.block b (hr.lt hb)
 refine wpIn_rangeFunc_ownH rfl (by omega) (gf:=221) (lb:= #[.pointer (some ⟨w.heap.size+1+1,0,none⟩)]) rfl trivial (enters_of Tryz.func221 (by kernel_rfl) rfl)
  (back_stops Fence.wide (6-1) trivial rfl (by omega) (w.heap.size+1+1) W0.heap.size row hr3 W0 (by omega) (Nat.le_refl _) (fun b hb=>by have:=hr.lt hb;omega) bS.cell hrow0) belowK_t (belowK_b (Nat.le_refl _)) (Below.refl _ _) (fun _=>rfl)
  (fun pre W=>((Boxed W w.heap.size 3 (.int .i64 wd)∧Boxed W (w.heap.size+1) 3 (.int .i64 0))∧Below W0.heap.size W0 W)∧NoM wd pre)
  (fun c pre W=>(∃what:Int,(c= .ret∧HitM wd pre what)∧Boxed W (w.heap.size+1) 3 (.int .i64 what))∧Below w.heap.size w W)
  (OwnFrom.and (OwnFrom.and (OwnFrom.and (Own.from (boxed_own _ _ _) _) (Own.from (boxed_own _ _ _) _)) (ownFrom_below (Nat.le_refl _) (Nat.le_refl _))) (fun _ _ _ _ hs _ _=>hs))
  (fun c=>OwnFrom.and (fun s X Y rw_ hs hg hrr=>by
   obtain ⟨what,h1,h2⟩:=hs
   exact ⟨what,h1,boxed_own (w.heap.size+1) 3 (fun (_:Unit)=>Value.int .i64 what) () X Y rw_ h2 hg (fun r e=>(hrr r e).2)⟩) (ownFrom_below (Nat.le_refl _) (by omega)))
  ⟨⟨⟨bW2,bR2⟩,Below.refl _ _⟩,fun x hx=>by cases hx⟩
  (fun x a' W=>∃Bx,w.heap.size+1<Bx∧Blk W Bx 266 #[.bool x.2.lock, .int .i64 x.2.wh, .int .i64 x.2.what]∧a' = { tmps:= #[.pointer (some ⟨g1,0,none⟩), .int .i64 ((t:Nat):Int), .int .i64 wd,undef,undef, .pointer (some ⟨w.heap.size,0,none⟩), .pointer (some ⟨w.heap.size+1,0,none⟩),undef, .pointer (some ⟨Bx,0,none⟩), .pointer (some ⟨g1,0,none⟩), .pointer (some ⟨g1,0,none⟩), .pointer (some ⟨g1,1,none⟩), .slice wait.A wait.l.length wait.cap, .int .i64 ((t:Nat):Int), .pointer (some (wait.adr 1 t 0)), .slice row.A row.l.length row.cap, .func (.func 221) #[] #[.pointer (some ⟨w.heap.size+1+1,0,none⟩)], .int .i64 ((x.1:Nat):Int), .agg #[.bool x.2.lock, .int .i64 x.2.wh, .int .i64 x.2.what],undef,undef,undef,undef,undef,undef,undef,undef,undef,undef,undef,undef,undef,undef,undef,undef,undef,undef],defers:= [] })
  (fun x a' _ X Y rw_ hs hg hrr=>by obtain ⟨Bx,h1,h2,h3⟩:=hs;exact ⟨Bx,h1,blk_own Bx 266 (fun (_:Unit)=> #[Value.bool x.2.lock, .int .i64 x.2.wh, .int .i64 x.2.what]) () X Y rw_ h2 hg (fun r e=>(hrr r e).2),h3⟩)
  ?assign ?body ?done ?stop
 case assign=>
  rintro l pre x W K ⟨⟨⟨bW1,bR1⟩,hB1⟩,hno⟩ hK
  gi_wp2
  exact hK _ _ ((KeepsOthers.alloc _ _).from _) ((Below.refl _ W).alloc hB1.size _) ⟨⟨⟨bW1.alloc _,bR1.alloc _⟩,hB1.alloc hB1.size _⟩,hno⟩ ⟨W.heap.size,bR1.lt,Blk.new W 266 _,rfl⟩
 case body=>
  rintro l pre ⟨j,⟨lock,wh,what⟩⟩ a' W hl ⟨r,hr9⟩ ⟨⟨⟨bW1,bR1⟩,hB1⟩,hno⟩ ⟨Bx,hBx,bX,rfl⟩ hlt
  obtain ⟨x0,x1,x2⟩:=bX.cells3
  have cW:=bW1.cell
  have cR:=bR1.cell
  have fR:=bR1.frozen
  dsimp only at x0 x1 x2
  cases lock
  ·by_cases he:wh=wd
   ·subst he
    gi_wp2
    exact ⟨(KeepsOthers.setCell _ _ _).from _,⟨what,⟨rfl,pre,(j,⟨false,wh,what⟩),rfl,hno,rfl,rfl,rfl⟩,bR1.set _⟩,(hA2.trans (hB1.mono hA2.size)).setCell (p:=⟨w.heap.size+1,0,none⟩) (by show w.heap.size≤w.heap.size+1;omega) _⟩
   ·gi_wp2
    exact ⟨KeepsFrom.refl _ _,Below.refl _ _,⟨⟨bW1,bR1⟩,hB1⟩,noM_snoc hno (fun h=>he h.2)⟩
  ·gi_wp2
   exact ⟨KeepsFrom.refl _ _,Below.refl _ _,⟨⟨bW1,bR1⟩,hB1⟩,noM_snoc hno (fun h=>by cases h.1)⟩
 case done=>
  rename_i Q9 K9 hK9
  rintro D ys W hD rfl ⟨⟨⟨bW1,bR1⟩,hB1⟩,hno⟩ hK
  have hbW:Below w.heap.size w W:=hA2.trans (hB1.mono hA2.size)
  obtain ⟨c0,c1⟩:=(hB1'.below' hbW).cells2
  have cW:=bW1.cell
  have cR:=bR1.cell
  have hlD:D<W.heap.size:=(Array.getElem?_eq_some_iff.1 hK).1
  have hfin:findsL row.l words.l wd=nth words.l wd.toNat:=findsL_none fun i hi h9=>by
   refine hno (i,nth row.l i) ?_ h9
   exact List.mem_map.2 ⟨row.l.length-1-i,List.mem_range.2 (by omega),by rw [show row.l.length-1-(row.l.length-1-i)=i by omega]⟩
  have X0:∀x:XW W,x.w.cell? ⟨g1,0,none⟩=some (.pointer (some ⟨g0,0,none⟩)):=fun x=>((hB1'.below' hbW).below' x.h).cells2.1
  have X1:∀x:XW W,x.w.cell? ⟨w.heap.size,0,none⟩=some (.int .i64 wd):=fun x=>by rw [x.h.cell (show w.heap.size<W.heap.size from bW1.lt)];exact cW
  refine hK9 _ _ (wpIn_seq (wpIn_wide.2 ?_))
  refine x_tailG 6 [] (by kernel_rfl) (by kernel_rfl) (C:=fun w' =>∃x:XW W,w' =x.w) ⟨⟨_,(Below.refl _ _).drew⟩,rfl⟩ (by kernel_rfl) fun Z hZ=> ?_
  simp only [List.take_succ_cons,List.take_zero]
  repeat (go_big_quiet_step (fail))
  refine wpQuiet_nil (hZ _ ?_)
  rintro _ ⟨x,rfl⟩
  simp only [List.drop_succ_cons,List.drop_zero]
  have hbx:Below w.heap.size w x.w:=hbW.trans (x.h.mono hbW.size)
  have bRx:Boxed x.w (w.heap.size+1) 3 (.int .i64 0):=(x.h.block _ bR1.lt).trans bR1
  have hKx:x.w.heap[D]? =some (.deferred (some [])):=(x.h.block _ hlD).trans hK
  go_wp2_with (go_at_call 202;refine Calls.mono (plLoad_c g0 words owner ((t:Nat):Int) wd 0 x.w (hB0.below' hbx) (hwo.keep fun b hb=>hbx.block b (hwo.lt hb)) (hoo.keep fun b hb=>hbx.block b (hoo.lt hb)) hwd) ?_;rintro e w' ⟨v,rfl,rfl,hs⟩;have hb9:Below w.heap.size w w' :=hbx.trans (hs.chg.to_below.mono hbx.size);have bR9:Boxed w' (w.heap.size+1) 3 (.int .i64 0):=(hs.chg.to_below.block _ bRx.lt).trans bRx;have hK9:w'.heap[D]? =some (.deferred (some [])):=(hs.chg.to_below.block _ (Array.getElem?_eq_some_iff.1 hKx).1).trans hKx;have cR9:=bR9.cell;have fR9:=bR9.frozen)
  gi_wp2
  exact ⟨by simp, .inl ⟨_,_,rfl,run_takeDeferred ((Below.heap_setCell _ _ _ D (by show D≠w.heap.size+1;omega)).trans hK9),buf_leave (bR9.set _) (by omega) rfl ⟨by rw [hfin],(hb9.setCell (p:=⟨w.heap.size+1,0,none⟩) (by show w.heap.size≤w.heap.size+1;omega) _).trans (belowK_b (w:=W0) (by omega) _ D _ (.deferred none) (by omega) ((Below.heap_setCell _ _ _ D (by show D≠w.heap.size+1;omega)).trans hK9) rfl rfl)⟩⟩⟩
 case stop=>
  rintro D c pre W hD ⟨k,hk,rfl⟩ ⟨⟨what,⟨rfl,hhit⟩,bR1⟩,hB1⟩ hK
  gi_wp2
  have hval:findsL row.l words.l wd=what:=by
   obtain ⟨pre',x,h1,h2,h3,h4,h5⟩:=hhit
   cases k with
   |zero=>have:=congrArg List.length h1;simp [backN] at this
   |succ k=>
    rw [backN_succ] at h1
    obtain ⟨e1,e2⟩:=List.append_inj' h1 rfl
    have e3:(row.l.length-1-k,nth row.l (row.l.length-1-k))=x:=by simpa using e2
    subst e3 e1
    refine (findsL_some (i:=row.l.length-1-k) (by omega) h3 h4 fun j hj hjl h9=>h2 (j,nth row.l j) ?_ h9).trans h5
    exact List.mem_map.2 ⟨row.l.length-1-j,List.mem_range.2 (by omega),by rw [show row.l.length-1-(row.l.length-1-j)=j by omega]⟩
  refine ⟨by simp, .inl ⟨_,_,rfl,run_takeDeferred hK,buf_leave bR1 (by omega) rfl ⟨by rw [hval],hB1.trans (belowK_b (w:=W0) (by omega) W D _ (.deferred none) (by omega) hK rfl rfl)⟩⟩⟩
end Go.Proofs.YtmjkobhkkjgplaaGreatDoor
end
namespace Go.Proofs.YtmjkobhkkjgplaaGreatDoor
open Go.RowKit
set_option linter.unusedSimpArgs false
set_option linter.unusedVariables false
set_option maxRecDepth 100000
set_option maxHeartbeats 2000000
theorem eq_wtv (x y:Wt) (w:World):(binOp .eql 266 (.agg #[.bool x.lock, .int .i64 x.wh, .int .i64 x.what]) (.agg #[.bool y.lock, .int .i64 y.wh, .int .i64 y.what])).run Tryz.prog w= .ok (.bool (decide (x=y))) w:=by
 obtain ⟨a,b,c⟩:=x
 obtain ⟨a',b',c'⟩:=y
 simp [binOp,Op.equal,Op.maxDepth,go_sem]
 by_cases h1:a=a' <;>by_cases h2:b=b' <;>by_cases h3:c=c' <;>simp [h1,h2,h3]
theorem eq_wtvG (p q:Operand) (x y:Wt) (w:World):(eqGuard .eql 266 p q (.agg #[.bool x.lock, .int .i64 x.wh, .int .i64 x.what]) (.agg #[.bool y.lock, .int .i64 y.wh, .int .i64 y.what])).run Tryz.prog w= .ok () w:=by
 simp [eqGuard]
 try kernel_rfl
theorem Sh.holeAt {K:Nat→Prop} {W w:World} {L:List Asn} {α:Type} [Enc α] {R:Ls α→Asn} {E:TypeId} {v:Value} {M:List (Ls α)} {q:Nat} (h:Sh K W w L) (i:Nat) (hi:L[i]? =some (.big (holeX R E v M q))):(⟨v,rvs M⟩:Ls RV).At w:=
 own_at (E:=E) ((h.ok _ (List.mem_of_getElem? hi)).1 _ (List.mem_cons_self ..))
theorem hold_yes {l:List Wt} {ad:Int} {n:Nat} (hn:n<l.length) (e:nth l n=⟨true,ad,0⟩):(l.any fun x=>x.lock&&decide (x.wh=ad))=true:=
 List.any_eq_true.2 ⟨_,nth_mem _ _ hn,by rw [e];simp⟩
theorem hold_no {l:List Wt} {ad:Int} (hlk:∀x∈l,x.lock=true→x.what=0) (h:∀i,i<l.length→nth l i≠⟨true,ad,0⟩):(l.any fun x=>x.lock&&decide (x.wh=ad))=false:=by
 rw [List.any_eq_false]
 intro x hx hc
 obtain ⟨i,hi,rfl⟩:=List.mem_iff_getElem.1 hx
 simp only [Bool.and_eq_true,decide_eq_true_eq] at hc
 have h3:=hlk _ hx hc.1
 refine h i hi ?_
 rw [nth_lt _ _ hi]
 generalize l[i]=y at hc h3
 obtain ⟨a,b,c⟩:=y
 simp only at hc h3
 rw [hc.1,hc.2,h3]
theorem snoc_ne {l:List Wt} {y:Wt} {n:Nat} (h:∀i,i<n→nth l i≠y) (h2:¬nth l n=y):∀i,i<n+1→nth l i≠y:=fun i hi=>by
 rcases Nat.lt_or_eq_of_le (Nat.le_of_lt_succ hi) with h3|h3
 ·exact h i h3
 ·subst h3;exact h2
theorem eraseIdx_td {α:Type} (l:List α) (k:Nat):l.eraseIdx k=l.take k++l.drop (k+1):=List.eraseIdx_eq_take_drop_succ l k
theorem cloneW_c (x:Ls Wt) (W:World) (hx:x.At W) (hl:x.l.length≤100000):
    Rets Tryz.prog 219 [x.v] W (fun v w' =>∃s:Ls Wt,v=s.v∧Sh0 W w' [.own 266 (⟨s.v,x.l⟩:Ls Wt)]):=by
 refine gen Tryz.func219 Tryz.ntmps219 (Sh0.ext1 hx:Sh (fun _=>False) W W [.at_ x]) rfl fun a10 h10=>gG h10<|sG (oM 1 rfl<|.nl)<|gK fun _ k12=>sG (oM 1 rfl<|oV (r_eqnil (s:=x) sl_267 rfl rfl rfl (fun w h=>(h.at 0 rfl))) rfl<|.nl)<|?_;clear h10
 refine gCb rfl (fun hb14=> ?_) fun hb14=> ?_
 ·skip
  refine sG (oM 1 rfl<|.nl)<|gR<|fun a16 w16 h16=> ?_
  try simp only [Exit.then,Exit.inBlock]
  refine x_ret1 (fn:=Tryz.f219) (t:=2) rfl h16 rfl<|⟨⟨.slice none 0 0, []⟩,rfl, ?_⟩
  rw [nilB_nil hx (by assumption)]
  exact (h16.sh.nil (α:=Wt) 266).sel (L' := [_]) [0] rfl
 refine gS<|hK k12<|sK fun _ k17=>gE1 (fun _ _ h_=>x_lit0 (α:=Wt) h_ sl_267 ti_266 rfl rfl rfl) rfl fun v18=>gRn (oM 1 rfl<|.nl)<|gE1 (fun _ _ h_=>x_app (r:=0) (rm:=1) (s:=(⟨v18, []⟩:Ls Wt)) (m:=x) h_ sl_267 ti_266 rfl rfl rfl rfl rfl rfl rfl (fun w h=>(h.at 1 rfl)) (fun b hb=> .inr hb) (fun q hq b hb=> .inr ⟨q,hq,hb⟩) rfl rfl rfl inferInstance (show (([]).length+x.l.length)*24≤140737488355328∧([]).length+x.l.length≤140737488355328 from om9) rfl rfl) rfl fun v19=>gRn (oM 1 rfl<|.nl)<|nK k17<|gR<|fun a20 w20 h20=> ?_
 try simp only [Exit.then,Exit.inBlock]
 refine x_ret1 (fn:=Tryz.f219) (t:=2) rfl h20 rfl<|⟨⟨v19, []⟩,rfl, ?_⟩
 exact (h20.sh.sel [0] rfl)
theorem deleteW_c (K:Nat→Prop) (x:Ls Wt) (i j:Nat) (W:World) (hS:Sh K W W [.own 266 x]) (hij:i<j∧j≤x.l.length):
    Rets Tryz.prog 218 [x.v, .int .i64 ((i:Nat):Int), .int .i64 ((j:Nat):Int)] W (fun v w' =>∃u:Ls Wt,v=u.v∧Sh K W w' [.own 266 (⟨u.v,x.l.take i++x.l.drop j⟩:Ls Wt)]):=by
 have hcx:=own_vcap (hS.ok _ (List.mem_cons_self ..))
 have hll:(x.l.take i++x.l.drop j).length=x.l.length-(j-i):=by rw [List.length_append,List.length_take,List.length_drop];omega
 refine gen Tryz.func218 Tryz.ntmps218 hS rfl fun a10 h10=>gG h10<|sG (oM 1 rfl<|.nl)<|sK fun _ k12=>gNl (aO 0 rfl) fun hl13=>gRn (oM 4 rfl<|oln sl_267 (aO 0 rfl) rfl<|oV (r_sl3 (s:=x) (lo:=i) (hi:=j) (mx:=x.l.length) sl_267 ti_266 rfl rfl rfl rfl rfl (fun w h=>(h.own 0 rfl)) (show i≤j∧j≤x.l.length∧x.l.length≤x.l.length from om9)) rfl<|.nl)<|nK k12<|gK fun _ k14=>sG (oM 2 rfl<|oeqN _ _ rfl<|.nl)<|?_;clear h10
 refine gcd rfl (fun hb16 hp16=> ?_) fun hb16 hp16=> ?_
 ·skip
  exfalso
  omega
 refine gS<|hK k14<|sG (oM 1 rfl<|oln sl_267 (aO 0 rfl) rfl<|oM 1 rfl<|.nl)<|gK fun _ k18=>rT 6 [] (by kernel_rfl) (by kernel_rfl) (oM 2 rfl<|oV (r_slH (s:=x) (j:=i) sl_267 ti_266 rfl rfl rfl (fun w h=>(h.own 0 rfl)) (show i≤x.l.length from om9) (show 0<x.l.length from om9)) rfl<|oM 2 rfl<|oV (r_slL (s:=x) (k:=j) sl_267 ti_266 rfl rfl rfl (fun w h=>(h.own 0 rfl)) (show j≤x.l.length from om9)) rfl<|.nl)<|fun a20 w20 h20=>wl_ex (x_del2 (r:=0) (j:=i) (k:=j) (s:=x) h20 sl_267 ti_266 rfl rfl rfl rfl rfl rfl inferInstance (show i≤j∧j≤x.l.length∧0<x.l.length from (by omega)) rfl rfl) (wanted_none rfl _) ?_
 rintro a21 w21 ⟨v21,hc21,h21⟩;clear h20
 refine gG h21<|gRn (oM 1 rfl<|.nl)<|nK k18<|sK fun _ k22=>gRn (oM 2 rfl<|oln (n:=(x.l.take i++x.l.drop j).length) sl_267 (aO 0 rfl) rfl<|oM 1 rfl<|oV (r_slTail (s:=(⟨v21,x.l.take i++x.l.drop j⟩:Ls Wt)) (lo:=(x.l.take i++x.l.drop j).length) (hi:=x.l.length) sl_267 ti_266 rfl rfl rfl rfl (fun w h=>(h.own 0 rfl)) (show (x.l.take i++x.l.drop j).length≤x.l.length∧x.l.length≤vcap v21 from om9)) rfl<|.nl)<|gE (fun _ _ h_=>x_clearT (r:=0) (hi:=x.l.length) (s:=(⟨v21,x.l.take i++x.l.drop j⟩:Ls Wt)) h_ sl_267 ti_266 rfl rfl rfl rfl rfl rfl (show (x.l.take i++x.l.drop j).length<x.l.length∧x.l.length≤vcap v21 from om9) rfl) rfl<|nK k22<|gF [0] rfl<|sG (oM 2 rfl<|.nl)<|gR<|fun a25 w25 h25=> ?_;clear h21
 try simp only [Exit.then,Exit.inBlock]
 refine x_ret1 (fn:=Tryz.f218) (t:=6) rfl h25 rfl ?_
 exact ⟨⟨v21, []⟩,rfl,h25.sh⟩
theorem tbWaits_c (g1 g0:Nat) (wait:Ls (Ls Wt)) (t:Nat) (ad:Int) (W:World) (hB:Blk W g1 185 #[.pointer (some ⟨g0,0,none⟩),wait.v]) (hw:wait.At W) (ht:t<wait.l.length):
    Rets Tryz.prog 216 [.pointer (some ⟨g1,0,none⟩), .int .i64 ((t:Nat):Int)] W (fun v w' =>v= .int .i64 (((nth wait.l t).l.length:Nat):Int)∧Sh0 W w' []):=by
 refine gen Tryz.func216 Tryz.ntmps216 (Sh0.ext (by intro A hA;simp only [List.mem_cons,List.not_mem_nil,or_false] at hA;rcases hA with rfl|rfl;exact hB;exact hw) (by intro A hA b hb;simp only [List.mem_cons,List.not_mem_nil,or_false] at hA;rcases hA with rfl|rfl<;>exact hb):Sh (fun _=>False) W W [.rblk g1 185 [.pointer (some ⟨g0,0,none⟩),wait.v], .at_ wait]) rfl fun a10 h10=>gG h10<|sG (oM 1 rfl<|.nl)<|sK fun _ k12=>gNl (aA 1 rfl) fun hl13=>gNl (fun w h=>((h.at 1 rfl).nth t (show t<wait.l.length from (by omega)))) fun (hl14:((nth wait.l t).l).length≤140737488355328)=>gRn (oM 1 rfl<|onf fl_185_1 rfl<|olR 0 ti_183 rfl rfl<|oM 1 rfl<|oxN sl_183 ti_267 (aA 1 rfl) _ om9 rfl<|olE ((nth wait.l t).v) ti_267 (aA 1 rfl) om9 rfl<|oln (n:=((nth wait.l t).l).length) sl_267 (fun w h=>((h.at 1 rfl).nth t (show t<wait.l.length from (by omega)))) rfl<|oM 1 rfl<|.nl)<|nK k12<|gR<|fun a15 w15 h15=> ?_;clear h10
 try simp only [Exit.then,Exit.inBlock]
 refine x_ret1 (fn:=Tryz.f216) (t:=4) rfl h15 rfl ?_
 exact ⟨rfl,(h15.sh.sel [] rfl)⟩
theorem tbReady_c (g1 g0:Nat) (wait:Ls (Ls Wt)) (t:Nat) (ad:Int) (W:World) (hB:Blk W g1 185 #[.pointer (some ⟨g0,0,none⟩),wait.v]) (hw:wait.At W) (ht:t<wait.l.length):
    Rets Tryz.prog 213 [.pointer (some ⟨g1,0,none⟩), .int .i64 ((t:Nat):Int)] W (fun v w' =>∃s:Ls Int,v=s.v∧s.l=(if (nth wait.l t).l.length=0 then [] else [0])∧Sh0 W w' [.own 3 s]):=by
 refine gen Tryz.func213 Tryz.ntmps213 (Sh0.ext (by intro A hA;simp only [List.mem_cons,List.not_mem_nil,or_false] at hA;rcases hA with rfl|rfl;exact hB;exact hw) (by intro A hA b hb;simp only [List.mem_cons,List.not_mem_nil,or_false] at hA;rcases hA with rfl|rfl<;>exact hb):Sh (fun _=>False) W W [.rblk g1 185 [.pointer (some ⟨g0,0,none⟩),wait.v], .at_ wait]) rfl fun a10 h10=>gG h10<|sG (oM 1 rfl<|.nl)<|gK fun _ k12=>sK fun _ k13=>gNl (aA 1 rfl) fun hl14=>gNl (fun w h=>((h.at 1 rfl).nth t (show t<wait.l.length from (by omega)))) fun (hl15:((nth wait.l t).l).length≤140737488355328)=>gRn (oM 1 rfl<|onf fl_185_1 rfl<|olR 0 ti_183 rfl rfl<|oM 1 rfl<|oxN sl_183 ti_267 (aA 1 rfl) _ om9 rfl<|olE ((nth wait.l t).v) ti_267 (aA 1 rfl) om9 rfl<|oln (n:=((nth wait.l t).l).length) sl_267 (fun w h=>((h.at 1 rfl).nth t (show t<wait.l.length from (by omega)))) rfl<|oeqN _ 0 rfl<|.nl)<|nK k13<|?_;clear h10
 refine gcd rfl (fun hb16 hp16=> ?_) fun hb16 hp16=> ?_
 ·skip
  refine sG (oM 1 rfl<|.nl)<|gR<|fun a18 w18 h18=> ?_
  try simp only [Exit.then,Exit.inBlock]
  refine x_ret1 (fn:=Tryz.f213) (t:=4) rfl h18 rfl ?_
  exact ⟨⟨.slice none 0 0, []⟩,rfl,by rw [if_pos (by assumption)],(h18.sh.nil (α:=Int) 3).sel (L' := [_]) [0] rfl⟩
 refine gS<|hK k12<|sK fun _ k19=>gE1 (fun _ _ h_=>x_lit (n:=1) (cs:= [.int .i64 0]) ([0]:List Int) h_ sl_23 ti_3 rfl rfl rfl (by decide) rfl (by kernel_rfl) rfl (fun q hq w h=>Flat.inner _ _) (fun q hq b hb=>(Flat.on _ _ hb).elim) rfl rfl) rfl fun v20=>gRn (oM 1 rfl<|.nl)<|nK k19<|gR<|fun a21 w21 h21=> ?_
 try simp only [Exit.then,Exit.inBlock]
 refine x_ret1 (fn:=Tryz.f213) (t:=4) rfl h21 rfl ?_
 exact ⟨⟨v20, [0]⟩,rfl,by rw [if_neg (by assumption)],(h21.sh.sel [0] rfl)⟩
theorem tbFreeing_c (g1 g0:Nat) (wait:Ls (Ls Wt)) (t:Nat) (ad:Int) (W:World) (hB:Blk W g1 185 #[.pointer (some ⟨g0,0,none⟩),wait.v]) (hw:wait.At W) (ht:t<wait.l.length) (hlk:∀x∈(nth wait.l t).l,x.lock=true→x.what=0):
    Rets Tryz.prog 211 [.pointer (some ⟨g1,0,none⟩), .int .i64 ((t:Nat):Int), .int .i64 ad] W (fun v w' =>v= .bool ((nth wait.l t).l.any fun x=>x.lock&&decide (x.wh=ad))∧Sh0 W w' []):=by
 refine gen Tryz.func211 Tryz.ntmps211 (Sh0.ext (by intro A hA;simp only [List.mem_cons,List.not_mem_nil,or_false] at hA;rcases hA with rfl|rfl;exact hB;exact hw) (by intro A hA b hb;simp only [List.mem_cons,List.not_mem_nil,or_false] at hA;rcases hA with rfl|rfl<;>exact hb):Sh (fun _=>False) W W [.rblk g1 185 [.pointer (some ⟨g0,0,none⟩),wait.v], .at_ wait]) rfl fun a10 h10=>gG h10<|sG (oM 1 rfl<|.nl)<|gK fun _ k12=>sK fun _ k13=>gNl (aA 1 rfl) fun hl14=>gNl (fun w h=>((h.at 1 rfl).nth t (show t<wait.l.length from (by omega)))) fun (hl15:((nth wait.l t).l).length≤140737488355328)=>gRn (oM 1 rfl<|onf fl_185_1 rfl<|olR 0 ti_183 rfl rfl<|oM 1 rfl<|oxN sl_183 ti_267 (aA 1 rfl) _ om9 rfl<|olE ((nth wait.l t).v) ti_267 (aA 1 rfl) om9 rfl<|oln (n:=((nth wait.l t).l).length) sl_267 (fun w h=>((h.at 1 rfl).nth t (show t<wait.l.length from (by omega)))) rfl<|oM 1 rfl<|.nl)<|nK k13<|gB<|fun a17 w17 h17=>x_loop (fun m a w=>∃(n:Nat),(n≤(nth wait.l t).l.length)∧(∀i,i<n→nth (nth wait.l t).l i≠⟨true,ad,0⟩)∧St 26 (fun _=>False) W a w [(2, .int .i64 ad),(15,(nth wait.l t).v),(16, .int .i64 ((((nth wait.l t).l).length:Nat):Int)),(17, .int .i64 ((n:Nat):Int))] [.rblk g1 185 [.pointer (some ⟨g0,0,none⟩),wait.v], .at_ wait]∧m=(nth wait.l t).l.length-n) ⟨_,0,(by omega),(fun i hi=>absurd hi (by omega)),h17.nf ⟨rfl,rfl,rfl,rfl,trivial⟩,rfl⟩ ?_;clear h10
 clear h17
 rintro m16 a16 w16 ⟨n,hn,hno,h16,hm16⟩
 refine gG h16<|sG (oltN _ _ rfl<|.nl)<|gK fun _ k19=>gcd rfl (fun hb20 hp20=> ?_) fun hb20 hp20=> ?_;clear h16
 ·skip
  refine gS<|hK k19<|gK fun _ k21=>gB<|sK fun _ k22=>gRn (oxN sl_267 ti_266 (fun w h=>((h.at 1 rfl).nth t (show t<wait.l.length from (by omega)))) _ om9 rfl<|olw2 [.bool ((nth ((nth wait.l t).l) n).lock), .int .i64 ((nth ((nth wait.l t).l) n).wh), .int .i64 ((nth ((nth wait.l t).l) n).what)] ti_266 (fun w h=>((h.at 1 rfl).nth t (show t<wait.l.length from (by omega)))) om9 rfl<|.nl)<|gal ti_266 rfl fun b23=>gsw 0 ti_266 rfl rfl rfl<|nK k22<|sG (olw 0 ti_266 rfl rfl<|oM 1 rfl<|oV (r_build (cs:= [.bool true, .int .i64 ad, .int .i64 0]) rfl rfl (by kernel_rfl)) rfl<|oV (r_eqS rfl rfl rfl (fun w=>eq_wtvG _ _ (⟨(nth ((nth wait.l t).l) n).lock,(nth ((nth wait.l t).l) n).wh,(nth ((nth wait.l t).l) n).what⟩:Wt) (⟨true,ad,0⟩:Wt) w) (fun w=>eq_wtv (⟨(nth ((nth wait.l t).l) n).lock,(nth ((nth wait.l t).l) n).wh,(nth ((nth wait.l t).l) n).what⟩:Wt) (⟨true,ad,0⟩:Wt) w)) rfl<|.nl)<|gcd rfl (fun hb26 hp26=> ?_) fun hb26 hp26=> ?_
  ·skip
   refine sG (oM 1 rfl<|.nl)<|gR<|fun a28 w28 h28=> ?_
   try simp only [Exit.then,Exit.inBlock]
   refine x_ret1 (fn:=Tryz.f211) (t:=6) rfl h28 rfl ?_
   exact ⟨by rw [hold_yes (show n<(nth wait.l t).l.length by omega) (by assumption)],(h28.sh.sel [] rfl)⟩
  refine gS<|hK k21<|gL<|gRn (oadN _ 1 om9 rfl<|oM 1 rfl<|.nl)<|nN<|fun a29 w29 h29=>x_again ⟨_, ?_,n+1, ?_, ?_,h29.nrm ⟨rfl,rfl,rfl,rfl,trivial⟩ [1,2] rfl,rfl⟩
  · rw [hm16];first|omega|(simp only [lens9];omega)
  · omega
  · exact snoc_ne hno (by assumption)
 refine gX<|hK k12<|sG (oM 1 rfl<|.nl)<|gR<|fun a31 w31 h31=> ?_
 try simp only [Exit.then,Exit.inBlock]
 refine x_ret1 (fn:=Tryz.f211) (t:=6) rfl h31 rfl ?_
 exact ⟨by rw [hold_no hlk fun i hi=>hno i (by omega)],(h31.sh.sel [] rfl)⟩
theorem tbStore_c (K:Nat→Prop) (g1 g0:Nat) (v9:Value) (M:List (Ls Wt)) (t:Nat) (ad wd:Int) (W:World) (hS:Sh K W W [.blk g1 185 [.pointer (some ⟨g0,0,none⟩),v9], .big (matX (.own 266) 267 v9 M)]) (ht:t<M.length) (hl:(nth M t).l.length≤100):
    Rets Tryz.prog 214 [.pointer (some ⟨g1,0,none⟩), .int .i64 ((t:Nat):Int), .int .i64 ad, .int .i64 wd] W (fun v w' =>v= .tuple #[]∧∃u:Ls Wt,u.l=(nth M t).l++ [⟨false,ad,wd⟩]∧Sh K W w' [.blk g1 185 [.pointer (some ⟨g0,0,none⟩),v9], .big (matX (.own 266) 267 v9 (M.set t u))]):=by
 refine gen Tryz.func214 Tryz.ntmps214 hS rfl fun a10 h10=>gG h10<|gF [0,1,2,3] rfl<|fun a11 w11 h11=>x_any ((fun Φ Ψ S a w=>(S 15=false∧S 16=false∧S 18=false∧FrI 26 S Φ Ψ a∧Sh K W w [.blk g1 185 [.pointer (some ⟨g0,0,none⟩),v9], .big (matX (.own 266) 267 v9 M)])∨(S 15=true∧S 16=false∧S 18=false∧∃(v7015:Value),FrI 26 S Φ (Ψ++ [(15,23,v7015)]) a∧Sh K W w [.own 266 (⟨v7015, [(⟨false,ad,wd⟩:Wt)]⟩:Ls Wt), .blk g1 185 [.pointer (some ⟨g0,0,none⟩),v9], .big (matX (.own 266) 267 v9 M)])∨(S 15=true∧S 16=true∧S 18=false∧∃(v7015:Value) (v7016:Value),FrI 26 S Φ (Ψ++ [(15,23,v7015),(16,24,v7016),(17,25, .pointer (some (padr v9 1 t 0)))]) a∧Sh K W w [.own 266 (⟨v7016,(nth M t).l++([(⟨false,ad,wd⟩:Wt)])⟩:Ls Wt), .own 266 (⟨v7015, [(⟨false,ad,wd⟩:Wt)]⟩:Ls Wt), .blk g1 185 [.pointer (some ⟨g0,0,none⟩),v9], .big (holeX (.own 266) 267 v9 M t)])∨(S 15=true∧S 16=true∧S 18=true∧∃(v7015:Value) (v7016:Value),FrI 26 S Φ (Ψ++ [(15,23,v7015),(16,24,v7016),(17,25, .pointer (some (padr v9 1 t 0)))]) a∧Sh K W w [.own 266 (⟨v7015, [(⟨false,ad,wd⟩:Wt)]⟩:Ls Wt), .blk g1 185 [.pointer (some ⟨g0,0,none⟩),v9], .big (matX (.own 266) 267 v9 (M.set t (⟨v7016,(nth M t).l++([(⟨false,ad,wd⟩:Wt)])⟩:Ls Wt)))])) [(0, .pointer (some ⟨g1,0,none⟩)),(1, .int .i64 ((t:Nat):Int)),(2, .int .i64 ad),(3, .int .i64 wd)] [(0,8, .pointer (some ⟨g1,0,none⟩)),(1,9, .pointer (some ⟨g1,0,none⟩)),(2,10, .pointer (some ⟨g1,1,none⟩)),(3,11,v9),(4,12, .int .i64 ((t:Nat):Int)),(5,13, .pointer (some ⟨g1,0,none⟩)),(6,14, .pointer (some ⟨g1,0,none⟩)),(7,15, .pointer (some ⟨g1,1,none⟩)),(8,16,v9),(9,17, .int .i64 ((t:Nat):Int)),(10,18, .pointer (some (padr v9 1 t 0))),(11,19,(nth M t).v),(12,20, .int .i64 ad),(13,21, .int .i64 wd),(14,22, .agg #[.bool false, .int .i64 ad, .int .i64 wd])]) (by kernel_rfl) (by kernel_rfl) (Or.inl (⟨rfl,rfl,rfl,FrI.start h11.fr,h11.sh.drew⟩)) ?_ ?_;clear h10
 ·intro S i o ho hSi hcl hdep a w hI
  clear h11
  rcases i with _|_|_|_|_|_|_|_|_|_|_|_|_|_|_|_|_|_|_|i
  ·obtain rfl:_=o:=Option.some.inj ho
   rcases hI with ⟨ν15,ν16,ν18,φ,ς⟩|⟨ν15,ν16,ν18,v7015,φ,ς⟩|⟨ν15,ν16,ν18,v7015,v7016,φ,ς⟩|⟨_,_,ν18,_⟩
   ·exact sq φ φ.fr0 ς (r_move rfl rfl) 0 rfl rfl rfl rfl rfl rfl fun a hg=>Or.inl (⟨un rfl ν15,un rfl ν16,un rfl ν18,hg,ς⟩)
   ·exact sq φ φ.fr0 ς (r_move rfl rfl) 0 rfl rfl rfl rfl rfl rfl fun a hg=>Or.inr (Or.inl (⟨un rfl ν15,un rfl ν16,un rfl ν18,v7015,hg,ς⟩))
   ·exact sq φ φ.fr0 ς (r_move rfl rfl) 0 rfl rfl rfl rfl rfl rfl fun a hg=>Or.inr (Or.inr (Or.inl (⟨un rfl ν15,un rfl ν16,un rfl ν18,v7015,v7016,hg,ς⟩)))
   ·exact no_way (cA hcl 18 0 rfl ν18) hSi
  ·obtain rfl:_=o:=Option.some.inj ho
   have hd0:S 0=true:=depAt hdep 0 rfl rfl
   rcases hI with ⟨ν15,ν16,ν18,φ,ς⟩|⟨ν15,ν16,ν18,v7015,φ,ς⟩|⟨ν15,ν16,ν18,v7015,v7016,φ,ς⟩|⟨_,_,ν18,_⟩
   ·exact sq φ (Fr.cons φ.fr0 (φ.at_ 0 0 8 _ rfl hd0)) ς (r_nil rfl rfl) 1 rfl rfl rfl rfl rfl rfl fun a hg=>Or.inl (⟨un rfl ν15,un rfl ν16,un rfl ν18,hg,ς⟩)
   ·exact sq φ (Fr.cons φ.fr0 (φ.at_ 0 0 8 _ rfl hd0)) ς (r_nil rfl rfl) 1 rfl rfl rfl rfl rfl rfl fun a hg=>Or.inr (Or.inl (⟨un rfl ν15,un rfl ν16,un rfl ν18,v7015,hg,ς⟩))
   ·exact sq φ (Fr.cons φ.fr0 (φ.at_ 0 0 8 _ rfl hd0)) ς (r_nil rfl rfl) 1 rfl rfl rfl rfl rfl rfl fun a hg=>Or.inr (Or.inr (Or.inl (⟨un rfl ν15,un rfl ν16,un rfl ν18,v7015,v7016,hg,ς⟩)))
   ·exact no_way (cA hcl 18 1 rfl ν18) hSi
  ·obtain rfl:_=o:=Option.some.inj ho
   have hd1:S 1=true:=depAt hdep 0 rfl rfl
   rcases hI with ⟨ν15,ν16,ν18,φ,ς⟩|⟨ν15,ν16,ν18,v7015,φ,ς⟩|⟨ν15,ν16,ν18,v7015,v7016,φ,ς⟩|⟨_,_,ν18,_⟩
   ·exact sq φ (Fr.cons φ.fr0 (φ.at_ 1 1 9 _ rfl hd1)) ς (r_fieldB (r:=1) fl_185_1 rfl rfl rfl) 2 rfl rfl rfl rfl rfl rfl fun a hg=>Or.inl (⟨un rfl ν15,un rfl ν16,un rfl ν18,hg,ς⟩)
   ·exact sq φ (Fr.cons φ.fr0 (φ.at_ 1 1 9 _ rfl hd1)) ς (r_fieldB (r:=1) fl_185_1 rfl rfl rfl) 2 rfl rfl rfl rfl rfl rfl fun a hg=>Or.inr (Or.inl (⟨un rfl ν15,un rfl ν16,un rfl ν18,v7015,hg,ς⟩))
   ·exact sq φ (Fr.cons φ.fr0 (φ.at_ 1 1 9 _ rfl hd1)) ς (r_fieldB (r:=1) fl_185_1 rfl rfl rfl) 2 rfl rfl rfl rfl rfl rfl fun a hg=>Or.inr (Or.inr (Or.inl (⟨un rfl ν15,un rfl ν16,un rfl ν18,v7015,v7016,hg,ς⟩)))
   ·exact no_way (cA hcl 18 2 rfl ν18) hSi
  ·obtain rfl:_=o:=Option.some.inj ho
   have hd2:S 2=true:=depAt hdep 0 rfl rfl
   rcases hI with ⟨ν15,ν16,ν18,φ,ς⟩|⟨ν15,ν16,ν18,v7015,φ,ς⟩|⟨ν15,ν16,ν18,v7015,v7016,φ,ς⟩|⟨_,_,ν18,_⟩
   ·exact sq φ (Fr.cons φ.fr0 (φ.at_ 2 2 10 _ rfl hd2)) ς (r_ldb (i:=0) ti_183 rfl rfl rfl rfl) 3 rfl rfl rfl rfl rfl rfl fun a hg=>Or.inl (⟨un rfl ν15,un rfl ν16,un rfl ν18,hg,ς⟩)
   ·exact sq φ (Fr.cons φ.fr0 (φ.at_ 2 2 10 _ rfl hd2)) ς (r_ldb (i:=1) ti_183 rfl rfl rfl rfl) 3 rfl rfl rfl rfl rfl rfl fun a hg=>Or.inr (Or.inl (⟨un rfl ν15,un rfl ν16,un rfl ν18,v7015,hg,ς⟩))
   ·exact sq φ (Fr.cons φ.fr0 (φ.at_ 2 2 10 _ rfl hd2)) ς (r_ldb (i:=2) ti_183 rfl rfl rfl rfl) 3 rfl rfl rfl rfl rfl rfl fun a hg=>Or.inr (Or.inr (Or.inl (⟨un rfl ν15,un rfl ν16,un rfl ν18,v7015,v7016,hg,ς⟩)))
   ·exact no_way (cA hcl 18 3 rfl ν18) hSi
  ·obtain rfl:_=o:=Option.some.inj ho
   rcases hI with ⟨ν15,ν16,ν18,φ,ς⟩|⟨ν15,ν16,ν18,v7015,φ,ς⟩|⟨ν15,ν16,ν18,v7015,v7016,φ,ς⟩|⟨_,_,ν18,_⟩
   ·exact sq φ φ.fr0 ς (r_move rfl rfl) 4 rfl rfl rfl rfl rfl rfl fun a hg=>Or.inl (⟨un rfl ν15,un rfl ν16,un rfl ν18,hg,ς⟩)
   ·exact sq φ φ.fr0 ς (r_move rfl rfl) 4 rfl rfl rfl rfl rfl rfl fun a hg=>Or.inr (Or.inl (⟨un rfl ν15,un rfl ν16,un rfl ν18,v7015,hg,ς⟩))
   ·exact sq φ φ.fr0 ς (r_move rfl rfl) 4 rfl rfl rfl rfl rfl rfl fun a hg=>Or.inr (Or.inr (Or.inl (⟨un rfl ν15,un rfl ν16,un rfl ν18,v7015,v7016,hg,ς⟩)))
   ·exact no_way (cA hcl 18 4 rfl ν18) hSi
  ·obtain rfl:_=o:=Option.some.inj ho
   rcases hI with ⟨ν15,ν16,ν18,φ,ς⟩|⟨ν15,ν16,ν18,v7015,φ,ς⟩|⟨_,ν16,_⟩|⟨_,ν16,_⟩
   ·exact sq φ φ.fr0 ς (r_move rfl rfl) 5 rfl rfl rfl rfl rfl rfl fun a hg=>Or.inl (⟨un rfl ν15,un rfl ν16,un rfl ν18,hg,ς⟩)
   ·exact sq φ φ.fr0 ς (r_move rfl rfl) 5 rfl rfl rfl rfl rfl rfl fun a hg=>Or.inr (Or.inl (⟨un rfl ν15,un rfl ν16,un rfl ν18,v7015,hg,ς⟩))
   ·exact no_way (cA hcl 16 5 rfl ν16) hSi
   ·exact no_way (cA hcl 16 5 rfl ν16) hSi
  ·obtain rfl:_=o:=Option.some.inj ho
   have hd5:S 5=true:=depAt hdep 0 rfl rfl
   rcases hI with ⟨ν15,ν16,ν18,φ,ς⟩|⟨ν15,ν16,ν18,v7015,φ,ς⟩|⟨_,ν16,_⟩|⟨_,ν16,_⟩
   ·exact sq φ (Fr.cons φ.fr0 (φ.at_ 5 5 13 _ rfl hd5)) ς (r_nil rfl rfl) 6 rfl rfl rfl rfl rfl rfl fun a hg=>Or.inl (⟨un rfl ν15,un rfl ν16,un rfl ν18,hg,ς⟩)
   ·exact sq φ (Fr.cons φ.fr0 (φ.at_ 5 5 13 _ rfl hd5)) ς (r_nil rfl rfl) 6 rfl rfl rfl rfl rfl rfl fun a hg=>Or.inr (Or.inl (⟨un rfl ν15,un rfl ν16,un rfl ν18,v7015,hg,ς⟩))
   ·exact no_way (cA hcl 16 6 rfl ν16) hSi
   ·exact no_way (cA hcl 16 6 rfl ν16) hSi
  ·obtain rfl:_=o:=Option.some.inj ho
   have hd6:S 6=true:=depAt hdep 0 rfl rfl
   rcases hI with ⟨ν15,ν16,ν18,φ,ς⟩|⟨ν15,ν16,ν18,v7015,φ,ς⟩|⟨_,ν16,_⟩|⟨_,ν16,_⟩
   ·exact sq φ (Fr.cons φ.fr0 (φ.at_ 6 6 14 _ rfl hd6)) ς (r_fieldB (r:=1) fl_185_1 rfl rfl rfl) 7 rfl rfl rfl rfl rfl rfl fun a hg=>Or.inl (⟨un rfl ν15,un rfl ν16,un rfl ν18,hg,ς⟩)
   ·exact sq φ (Fr.cons φ.fr0 (φ.at_ 6 6 14 _ rfl hd6)) ς (r_fieldB (r:=1) fl_185_1 rfl rfl rfl) 7 rfl rfl rfl rfl rfl rfl fun a hg=>Or.inr (Or.inl (⟨un rfl ν15,un rfl ν16,un rfl ν18,v7015,hg,ς⟩))
   ·exact no_way (cA hcl 16 7 rfl ν16) hSi
   ·exact no_way (cA hcl 16 7 rfl ν16) hSi
  ·obtain rfl:_=o:=Option.some.inj ho
   have hd7:S 7=true:=depAt hdep 0 rfl rfl
   rcases hI with ⟨ν15,ν16,ν18,φ,ς⟩|⟨ν15,ν16,ν18,v7015,φ,ς⟩|⟨_,ν16,_⟩|⟨_,ν16,_⟩
   ·exact sq φ (Fr.cons φ.fr0 (φ.at_ 7 7 15 _ rfl hd7)) ς (r_ldb (i:=0) ti_183 rfl rfl rfl rfl) 8 rfl rfl rfl rfl rfl rfl fun a hg=>Or.inl (⟨un rfl ν15,un rfl ν16,un rfl ν18,hg,ς⟩)
   ·exact sq φ (Fr.cons φ.fr0 (φ.at_ 7 7 15 _ rfl hd7)) ς (r_ldb (i:=1) ti_183 rfl rfl rfl rfl) 8 rfl rfl rfl rfl rfl rfl fun a hg=>Or.inr (Or.inl (⟨un rfl ν15,un rfl ν16,un rfl ν18,v7015,hg,ς⟩))
   ·exact no_way (cA hcl 16 8 rfl ν16) hSi
   ·exact no_way (cA hcl 16 8 rfl ν16) hSi
  ·obtain rfl:_=o:=Option.some.inj ho
   rcases hI with ⟨ν15,ν16,ν18,φ,ς⟩|⟨ν15,ν16,ν18,v7015,φ,ς⟩|⟨_,ν16,_⟩|⟨_,ν16,_⟩
   ·exact sq φ φ.fr0 ς (r_move rfl rfl) 9 rfl rfl rfl rfl rfl rfl fun a hg=>Or.inl (⟨un rfl ν15,un rfl ν16,un rfl ν18,hg,ς⟩)
   ·exact sq φ φ.fr0 ς (r_move rfl rfl) 9 rfl rfl rfl rfl rfl rfl fun a hg=>Or.inr (Or.inl (⟨un rfl ν15,un rfl ν16,un rfl ν18,v7015,hg,ς⟩))
   ·exact no_way (cA hcl 16 9 rfl ν16) hSi
   ·exact no_way (cA hcl 16 9 rfl ν16) hSi
  ·obtain rfl:_=o:=Option.some.inj ho
   have hd8:S 8=true:=depAt hdep 0 rfl rfl
   have hd9:S 9=true:=depAt hdep 1 rfl rfl
   rcases hI with ⟨ν15,ν16,ν18,φ,ς⟩|⟨ν15,ν16,ν18,v7015,φ,ς⟩|⟨_,ν16,_⟩|⟨_,ν16,_⟩
   ·exact sq φ (Fr.cons (Fr.cons φ.fr0 (φ.at_ 8 8 16 _ rfl hd8)) (φ.at_ 9 9 17 _ rfl hd9)) ς (r_ixN (s:=(⟨v9,rvs M⟩:Ls RV)) (q:=t) sl_183 ti_267 rfl rfl rfl (fun w h=>(h.matAt 1 rfl)) (by rw [rvs_len];exact (show t<M.length from (by omega)))) 10 rfl rfl rfl rfl rfl rfl fun a hg=>Or.inl (⟨un rfl ν15,un rfl ν16,un rfl ν18,hg,ς⟩)
   ·exact sq φ (Fr.cons (Fr.cons φ.fr0 (φ.at_ 8 8 16 _ rfl hd8)) (φ.at_ 9 9 17 _ rfl hd9)) ς (r_ixN (s:=(⟨v9,rvs M⟩:Ls RV)) (q:=t) sl_183 ti_267 rfl rfl rfl (fun w h=>(h.matAt 2 rfl)) (by rw [rvs_len];exact (show t<M.length from (by omega)))) 10 rfl rfl rfl rfl rfl rfl fun a hg=>Or.inr (Or.inl (⟨un rfl ν15,un rfl ν16,un rfl ν18,v7015,hg,ς⟩))
   ·exact no_way (cA hcl 16 10 rfl ν16) hSi
   ·exact no_way (cA hcl 16 10 rfl ν16) hSi
  ·obtain rfl:_=o:=Option.some.inj ho
   have hd10:S 10=true:=depAt hdep 0 rfl rfl
   rcases hI with ⟨ν15,ν16,ν18,φ,ς⟩|⟨ν15,ν16,ν18,v7015,φ,ς⟩|⟨_,ν16,_⟩|⟨_,ν16,_⟩
   ·exact sq φ (Fr.cons φ.fr0 (φ.at_ 10 10 18 _ rfl hd10)) ς (Rn.same (r_lde (s:=(⟨v9,rvs M⟩:Ls RV)) (i:=t) (v:=(nth (rvs M) t).v) ti_267 rfl rfl rfl (fun w h=>h.matAt 1 rfl) (by rw [rvs_len];exact (show t<M.length from (by omega))) (Nat.le_of_ble_eq_true rfl) rfl) (nth_rvs M t)) 11 rfl rfl rfl rfl rfl rfl fun a hg=>Or.inl (⟨un rfl ν15,un rfl ν16,un rfl ν18,hg,ς⟩)
   ·exact sq φ (Fr.cons φ.fr0 (φ.at_ 10 10 18 _ rfl hd10)) ς (Rn.same (r_lde (s:=(⟨v9,rvs M⟩:Ls RV)) (i:=t) (v:=(nth (rvs M) t).v) ti_267 rfl rfl rfl (fun w h=>h.matAt 2 rfl) (by rw [rvs_len];exact (show t<M.length from (by omega))) (Nat.le_of_ble_eq_true rfl) rfl) (nth_rvs M t)) 11 rfl rfl rfl rfl rfl rfl fun a hg=>Or.inr (Or.inl (⟨un rfl ν15,un rfl ν16,un rfl ν18,v7015,hg,ς⟩))
   ·exact no_way (cA hcl 16 11 rfl ν16) hSi
   ·exact no_way (cA hcl 16 11 rfl ν16) hSi
  ·obtain rfl:_=o:=Option.some.inj ho
   rcases hI with ⟨ν15,ν16,ν18,φ,ς⟩|⟨ν15,_⟩|⟨ν15,_⟩|⟨ν15,_⟩
   ·exact sq φ φ.fr0 ς (r_move rfl rfl) 12 rfl rfl rfl rfl rfl rfl fun a hg=>Or.inl (⟨un rfl ν15,un rfl ν16,un rfl ν18,hg,ς⟩)
   ·exact no_way (cA hcl 15 12 rfl ν15) hSi
   ·exact no_way (cA hcl 15 12 rfl ν15) hSi
   ·exact no_way (cA hcl 15 12 rfl ν15) hSi
  ·obtain rfl:_=o:=Option.some.inj ho
   rcases hI with ⟨ν15,ν16,ν18,φ,ς⟩|⟨ν15,_⟩|⟨ν15,_⟩|⟨ν15,_⟩
   ·exact sq φ φ.fr0 ς (r_move rfl rfl) 13 rfl rfl rfl rfl rfl rfl fun a hg=>Or.inl (⟨un rfl ν15,un rfl ν16,un rfl ν18,hg,ς⟩)
   ·exact no_way (cA hcl 15 13 rfl ν15) hSi
   ·exact no_way (cA hcl 15 13 rfl ν15) hSi
   ·exact no_way (cA hcl 15 13 rfl ν15) hSi
  ·obtain rfl:_=o:=Option.some.inj ho
   have hd12:S 12=true:=depAt hdep 0 rfl rfl
   have hd13:S 13=true:=depAt hdep 1 rfl rfl
   rcases hI with ⟨ν15,ν16,ν18,φ,ς⟩|⟨ν15,_⟩|⟨ν15,_⟩|⟨ν15,_⟩
   ·exact sq φ (Fr.cons (Fr.cons φ.fr0 (φ.at_ 12 12 20 _ rfl hd12)) (φ.at_ 13 13 21 _ rfl hd13)) ς (r_build (cs:= [.bool false, .int .i64 ad, .int .i64 wd]) rfl rfl (by kernel_rfl)) 14 rfl rfl rfl rfl rfl rfl fun a hg=>Or.inl (⟨un rfl ν15,un rfl ν16,un rfl ν18,hg,ς⟩)
   ·exact no_way (cA hcl 15 14 rfl ν15) hSi
   ·exact no_way (cA hcl 15 14 rfl ν15) hSi
   ·exact no_way (cA hcl 15 14 rfl ν15) hSi
  ·obtain rfl:_=o:=Option.some.inj ho
   have hd14:S 14=true:=depAt hdep 0 rfl rfl
   rcases hI with ⟨ν15,ν16,ν18,φ,ς⟩|⟨ν15,_⟩|⟨ν15,_⟩|⟨ν15,_⟩
   ·have hs:=St.mk (Fr.cons φ.fr0 (φ.at_ 14 14 22 _ rfl hd14)) ς
    refine step_ex (x_lit (n:=1) (cs:= [.bool false, .int .i64 ad, .int .i64 wd]) ([(⟨false,ad,wd⟩:Wt)]:List Wt) hs sl_267 ti_266 rfl rfl rfl (by decide) rfl (by kernel_rfl) rfl (fun q hq w h=>Flat.inner _ _) (fun q hq b hb=>(Flat.on _ _ hb).elim) rfl rfl) (wanted_none rfl _) ?_
    rintro a45 w45 ⟨v45,h45⟩ ⟨v0,ht45⟩
    exact Or.inr (Or.inl (⟨upd_self _ _,un rfl ν16,un rfl ν18,v45,φ.stepW hcl hSi [0,1,2,3,4,5,6,7,8,9,10,11,12,13,14] (by kernel_rfl) (by kernel_rfl) ht45 h45.fr.defers (h45.fr.at_ 23 _ rfl) 15 rfl rfl rfl rfl,(h45.sh.sel [0,1,2] rfl)⟩))
   ·exact no_way ν15 hSi
   ·exact no_way ν15 hSi
   ·exact no_way ν15 hSi
  ·obtain rfl:_=o:=Option.some.inj ho
   have hd11:S 11=true:=depAt hdep 0 rfl rfl
   have hd15:S 15=true:=depAt hdep 1 rfl rfl
   rcases hI with ⟨ν15,_⟩|⟨ν15,ν16,ν18,v7015,φ,ς⟩|⟨_,ν16,_⟩|⟨_,ν16,_⟩
   ·exact no_way hd15 ν15
   ·have hs:=St.mk (Fr.cons (Fr.cons φ.fr0 (φ.at_ 11 11 19 _ rfl hd11)) (φ.at_ 15 15 23 _ rfl hd15)) ς
    refine step_ex (x_appMat (i:=t) (r:=2) (rm:=0) (m:=(⟨v7015, [(⟨false,ad,wd⟩:Wt)]⟩:Ls Wt)) hs sl_267 ti_266 rfl rfl rfl rfl (show t<M.length from (by omega)) rfl rfl rfl (fun w h=>(h.own 0 rfl)) (fun b hb=>own_on (hs.sh.ok _ (List.mem_of_getElem? (i:=0) rfl)) hb) rfl rfl rfl inferInstance (show (((nth M t).l).length+([(⟨false,ad,wd⟩:Wt)]).length)*24≤140737488355328∧((nth M t).l).length+([(⟨false,ad,wd⟩:Wt)]).length≤140737488355328 from (by first|omega|(simp only [lens9];omega))) rfl rfl) (wanted_none rfl _) ?_
    rintro a46 w46 ⟨v46,h46⟩ ⟨v0,ht46⟩
    exact Or.inr (Or.inr (Or.inl (⟨un rfl ν15,upd_self _ _,un rfl ν18,v7015,v46,φ.stepW hcl hSi [0,1,2,3,4,5,6,7,8,9,10,11,12,13,14,15] (by kernel_rfl) (by kernel_rfl) ht46 h46.fr.defers (h46.fr.at_ 24 _ rfl) 16 rfl rfl rfl rfl,(h46.sh.sel [0,1,2,3] rfl)⟩)))
   ·exact no_way ν16 hSi
   ·exact no_way ν16 hSi
  ·obtain rfl:_=o:=Option.some.inj ho
   have hd3:S 3=true:=depAt hdep 0 rfl rfl
   have hd4:S 4=true:=depAt hdep 1 rfl rfl
   have hd15:S 15=true:=depAt hdep 17 rfl rfl
   have hd16:S 16=true:=depAt hdep 18 rfl rfl
   rcases hI with ⟨ν15,_⟩|⟨_,ν16,_⟩|⟨ν15,ν16,ν18,v7015,v7016,φ,ς⟩|⟨_,_,ν18,_⟩
   ·exact no_way hd15 ν15
   ·exact no_way hd16 ν16
   ·exact sq φ (Fr.cons (Fr.cons φ.fr0 (φ.at_ 3 3 11 _ rfl hd3)) (φ.at_ 4 4 12 _ rfl hd4)) ς (r_ixN (s:=(⟨v9,rvs M⟩:Ls RV)) (q:=t) sl_183 ti_267 rfl rfl rfl (fun w h=>(h.holeAt 3 rfl)) (by rw [rvs_len];exact (show t<M.length from (by omega)))) 17 rfl rfl rfl rfl rfl rfl fun a hg=>Or.inr (Or.inr (Or.inl (⟨un rfl ν15,un rfl ν16,un rfl ν18,v7015,v7016,hg,ς⟩)))
   ·exact no_way (cA hcl 18 17 rfl ν18) hSi
  ·obtain rfl:_=o:=Option.some.inj ho
   have hd17:S 17=true:=depAt hdep 0 rfl rfl
   have hd16:S 16=true:=depAt hdep 1 rfl rfl
   have hd15:S 15=true:=depAt hdep 18 rfl rfl
   rcases hI with ⟨ν15,_⟩|⟨_,ν16,_⟩|⟨ν15,ν16,ν18,v7015,v7016,φ,ς⟩|⟨_,_,ν18,_⟩
   ·exact no_way hd15 ν15
   ·exact no_way hd16 ν16
   ·have hs:=St.mk (Fr.cons (Fr.cons φ.fr0 (φ.at_ 16 16 24 _ rfl hd16)) (φ.at_ 17 17 25 _ rfl hd17)) ς
    refine step_ex (x_stHole (i:=t) (r:=2) (s:=(⟨v7016,(nth M t).l++([(⟨false,ad,wd⟩:Wt)])⟩:Ls Wt)) hs ti_267 rfl rfl rfl rfl rfl (show t<M.length from (by omega)) (hs.sh.own 0 rfl)) (wanted_none rfl _) ?_
    rintro a48 w48 h48 ⟨v0,ht48⟩
    exact Or.inr (Or.inr (Or.inr (⟨un rfl ν15,un rfl ν16,upd_self _ _,v7015,v7016,φ.noneW hcl hSi [0,1,2,3,4,5,6,7,8,9,10,11,12,13,14,15,16,17] (by kernel_rfl) (by kernel_rfl) ht48 h48.fr.defers rfl,(h48.sh.sel [0,1,2] rfl)⟩)))
   ·exact no_way ν18 hSi
  · simp at ho
 intro S hall a w hI
 clear h11
 rcases hI with ⟨ν15,ν16,ν18,φ,ς⟩|⟨ν15,ν16,ν18,v7015,φ,ς⟩|⟨ν15,ν16,ν18,v7015,v7016,φ,ς⟩|⟨ν15,ν16,ν18,v7015,v7016,φ,ς⟩
 · exact no_way (hall 15 (by decide)) ν15
 · exact no_way (hall 16 (by decide)) ν16
 · exact no_way (hall 18 (by decide)) ν18
 have h49:St 26 K W a w _ _:=⟨φ.fr0,ς⟩
 clear hall φ ς ν15 ν16 ν18
 try simp only [Exit.then,Exit.inBlock,if_true]
 refine x_end0 (fn:=Tryz.f214) rfl h49 ?_
 exact ⟨rfl,(⟨v7016,(nth M t).l++([(⟨false,ad,wd⟩:Wt)])⟩:Ls Wt),rfl,(h49.sh.sel [1,2] rfl)⟩
theorem tbFree_c (K:Nat→Prop) (g1 g0:Nat) (v9:Value) (M:List (Ls Wt)) (t:Nat) (ad wd:Int) (W:World) (hS:Sh K W W [.blk g1 185 [.pointer (some ⟨g0,0,none⟩),v9], .big (matX (.own 266) 267 v9 M)]) (ht:t<M.length) (hl:(nth M t).l.length≤100):
    Rets Tryz.prog 210 [.pointer (some ⟨g1,0,none⟩), .int .i64 ((t:Nat):Int), .int .i64 ad] W (fun v w' =>v= .tuple #[]∧∃u:Ls Wt,u.l=(nth M t).l++ [⟨true,ad,0⟩]∧Sh K W w' [.blk g1 185 [.pointer (some ⟨g0,0,none⟩),v9], .big (matX (.own 266) 267 v9 (M.set t u))]):=by
 refine gen Tryz.func210 Tryz.ntmps210 hS rfl fun a10 h10=>gG h10<|gF [0,1,2] rfl<|fun a11 w11 h11=>x_any ((fun Φ Ψ S a w=>(S 14=false∧S 15=false∧S 17=false∧FrI 23 S Φ Ψ a∧Sh K W w [.blk g1 185 [.pointer (some ⟨g0,0,none⟩),v9], .big (matX (.own 266) 267 v9 M)])∨(S 14=true∧S 15=false∧S 17=false∧∃(v7014:Value),FrI 23 S Φ (Ψ++ [(14,20,v7014)]) a∧Sh K W w [.own 266 (⟨v7014, [(⟨true,ad,0⟩:Wt)]⟩:Ls Wt), .blk g1 185 [.pointer (some ⟨g0,0,none⟩),v9], .big (matX (.own 266) 267 v9 M)])∨(S 14=true∧S 15=true∧S 17=false∧∃(v7014:Value) (v7015:Value),FrI 23 S Φ (Ψ++ [(14,20,v7014),(15,21,v7015),(16,22, .pointer (some (padr v9 1 t 0)))]) a∧Sh K W w [.own 266 (⟨v7015,(nth M t).l++([(⟨true,ad,0⟩:Wt)])⟩:Ls Wt), .own 266 (⟨v7014, [(⟨true,ad,0⟩:Wt)]⟩:Ls Wt), .blk g1 185 [.pointer (some ⟨g0,0,none⟩),v9], .big (holeX (.own 266) 267 v9 M t)])∨(S 14=true∧S 15=true∧S 17=true∧∃(v7014:Value) (v7015:Value),FrI 23 S Φ (Ψ++ [(14,20,v7014),(15,21,v7015),(16,22, .pointer (some (padr v9 1 t 0)))]) a∧Sh K W w [.own 266 (⟨v7014, [(⟨true,ad,0⟩:Wt)]⟩:Ls Wt), .blk g1 185 [.pointer (some ⟨g0,0,none⟩),v9], .big (matX (.own 266) 267 v9 (M.set t (⟨v7015,(nth M t).l++([(⟨true,ad,0⟩:Wt)])⟩:Ls Wt)))])) [(0, .pointer (some ⟨g1,0,none⟩)),(1, .int .i64 ((t:Nat):Int)),(2, .int .i64 ad)] [(0,6, .pointer (some ⟨g1,0,none⟩)),(1,7, .pointer (some ⟨g1,0,none⟩)),(2,8, .pointer (some ⟨g1,1,none⟩)),(3,9,v9),(4,10, .int .i64 ((t:Nat):Int)),(5,11, .pointer (some ⟨g1,0,none⟩)),(6,12, .pointer (some ⟨g1,0,none⟩)),(7,13, .pointer (some ⟨g1,1,none⟩)),(8,14,v9),(9,15, .int .i64 ((t:Nat):Int)),(10,16, .pointer (some (padr v9 1 t 0))),(11,17,(nth M t).v),(12,18, .int .i64 ad),(13,19, .agg #[.bool true, .int .i64 ad, .int .i64 0])]) (by kernel_rfl) (by kernel_rfl) (Or.inl (⟨rfl,rfl,rfl,FrI.start h11.fr,h11.sh.drew⟩)) ?_ ?_;clear h10
 ·intro S i o ho hSi hcl hdep a w hI
  clear h11
  rcases i with _|_|_|_|_|_|_|_|_|_|_|_|_|_|_|_|_|_|i
  ·obtain rfl:_=o:=Option.some.inj ho
   rcases hI with ⟨ν14,ν15,ν17,φ,ς⟩|⟨ν14,ν15,ν17,v7014,φ,ς⟩|⟨ν14,ν15,ν17,v7014,v7015,φ,ς⟩|⟨_,_,ν17,_⟩
   ·exact sq φ φ.fr0 ς (r_move rfl rfl) 0 rfl rfl rfl rfl rfl rfl fun a hg=>Or.inl (⟨un rfl ν14,un rfl ν15,un rfl ν17,hg,ς⟩)
   ·exact sq φ φ.fr0 ς (r_move rfl rfl) 0 rfl rfl rfl rfl rfl rfl fun a hg=>Or.inr (Or.inl (⟨un rfl ν14,un rfl ν15,un rfl ν17,v7014,hg,ς⟩))
   ·exact sq φ φ.fr0 ς (r_move rfl rfl) 0 rfl rfl rfl rfl rfl rfl fun a hg=>Or.inr (Or.inr (Or.inl (⟨un rfl ν14,un rfl ν15,un rfl ν17,v7014,v7015,hg,ς⟩)))
   ·exact no_way (cA hcl 17 0 rfl ν17) hSi
  ·obtain rfl:_=o:=Option.some.inj ho
   have hd0:S 0=true:=depAt hdep 0 rfl rfl
   rcases hI with ⟨ν14,ν15,ν17,φ,ς⟩|⟨ν14,ν15,ν17,v7014,φ,ς⟩|⟨ν14,ν15,ν17,v7014,v7015,φ,ς⟩|⟨_,_,ν17,_⟩
   ·exact sq φ (Fr.cons φ.fr0 (φ.at_ 0 0 6 _ rfl hd0)) ς (r_nil rfl rfl) 1 rfl rfl rfl rfl rfl rfl fun a hg=>Or.inl (⟨un rfl ν14,un rfl ν15,un rfl ν17,hg,ς⟩)
   ·exact sq φ (Fr.cons φ.fr0 (φ.at_ 0 0 6 _ rfl hd0)) ς (r_nil rfl rfl) 1 rfl rfl rfl rfl rfl rfl fun a hg=>Or.inr (Or.inl (⟨un rfl ν14,un rfl ν15,un rfl ν17,v7014,hg,ς⟩))
   ·exact sq φ (Fr.cons φ.fr0 (φ.at_ 0 0 6 _ rfl hd0)) ς (r_nil rfl rfl) 1 rfl rfl rfl rfl rfl rfl fun a hg=>Or.inr (Or.inr (Or.inl (⟨un rfl ν14,un rfl ν15,un rfl ν17,v7014,v7015,hg,ς⟩)))
   ·exact no_way (cA hcl 17 1 rfl ν17) hSi
  ·obtain rfl:_=o:=Option.some.inj ho
   have hd1:S 1=true:=depAt hdep 0 rfl rfl
   rcases hI with ⟨ν14,ν15,ν17,φ,ς⟩|⟨ν14,ν15,ν17,v7014,φ,ς⟩|⟨ν14,ν15,ν17,v7014,v7015,φ,ς⟩|⟨_,_,ν17,_⟩
   ·exact sq φ (Fr.cons φ.fr0 (φ.at_ 1 1 7 _ rfl hd1)) ς (r_fieldB (r:=1) fl_185_1 rfl rfl rfl) 2 rfl rfl rfl rfl rfl rfl fun a hg=>Or.inl (⟨un rfl ν14,un rfl ν15,un rfl ν17,hg,ς⟩)
   ·exact sq φ (Fr.cons φ.fr0 (φ.at_ 1 1 7 _ rfl hd1)) ς (r_fieldB (r:=1) fl_185_1 rfl rfl rfl) 2 rfl rfl rfl rfl rfl rfl fun a hg=>Or.inr (Or.inl (⟨un rfl ν14,un rfl ν15,un rfl ν17,v7014,hg,ς⟩))
   ·exact sq φ (Fr.cons φ.fr0 (φ.at_ 1 1 7 _ rfl hd1)) ς (r_fieldB (r:=1) fl_185_1 rfl rfl rfl) 2 rfl rfl rfl rfl rfl rfl fun a hg=>Or.inr (Or.inr (Or.inl (⟨un rfl ν14,un rfl ν15,un rfl ν17,v7014,v7015,hg,ς⟩)))
   ·exact no_way (cA hcl 17 2 rfl ν17) hSi
  ·obtain rfl:_=o:=Option.some.inj ho
   have hd2:S 2=true:=depAt hdep 0 rfl rfl
   rcases hI with ⟨ν14,ν15,ν17,φ,ς⟩|⟨ν14,ν15,ν17,v7014,φ,ς⟩|⟨ν14,ν15,ν17,v7014,v7015,φ,ς⟩|⟨_,_,ν17,_⟩
   ·exact sq φ (Fr.cons φ.fr0 (φ.at_ 2 2 8 _ rfl hd2)) ς (r_ldb (i:=0) ti_183 rfl rfl rfl rfl) 3 rfl rfl rfl rfl rfl rfl fun a hg=>Or.inl (⟨un rfl ν14,un rfl ν15,un rfl ν17,hg,ς⟩)
   ·exact sq φ (Fr.cons φ.fr0 (φ.at_ 2 2 8 _ rfl hd2)) ς (r_ldb (i:=1) ti_183 rfl rfl rfl rfl) 3 rfl rfl rfl rfl rfl rfl fun a hg=>Or.inr (Or.inl (⟨un rfl ν14,un rfl ν15,un rfl ν17,v7014,hg,ς⟩))
   ·exact sq φ (Fr.cons φ.fr0 (φ.at_ 2 2 8 _ rfl hd2)) ς (r_ldb (i:=2) ti_183 rfl rfl rfl rfl) 3 rfl rfl rfl rfl rfl rfl fun a hg=>Or.inr (Or.inr (Or.inl (⟨un rfl ν14,un rfl ν15,un rfl ν17,v7014,v7015,hg,ς⟩)))
   ·exact no_way (cA hcl 17 3 rfl ν17) hSi
  ·obtain rfl:_=o:=Option.some.inj ho
   rcases hI with ⟨ν14,ν15,ν17,φ,ς⟩|⟨ν14,ν15,ν17,v7014,φ,ς⟩|⟨ν14,ν15,ν17,v7014,v7015,φ,ς⟩|⟨_,_,ν17,_⟩
   ·exact sq φ φ.fr0 ς (r_move rfl rfl) 4 rfl rfl rfl rfl rfl rfl fun a hg=>Or.inl (⟨un rfl ν14,un rfl ν15,un rfl ν17,hg,ς⟩)
   ·exact sq φ φ.fr0 ς (r_move rfl rfl) 4 rfl rfl rfl rfl rfl rfl fun a hg=>Or.inr (Or.inl (⟨un rfl ν14,un rfl ν15,un rfl ν17,v7014,hg,ς⟩))
   ·exact sq φ φ.fr0 ς (r_move rfl rfl) 4 rfl rfl rfl rfl rfl rfl fun a hg=>Or.inr (Or.inr (Or.inl (⟨un rfl ν14,un rfl ν15,un rfl ν17,v7014,v7015,hg,ς⟩)))
   ·exact no_way (cA hcl 17 4 rfl ν17) hSi
  ·obtain rfl:_=o:=Option.some.inj ho
   rcases hI with ⟨ν14,ν15,ν17,φ,ς⟩|⟨ν14,ν15,ν17,v7014,φ,ς⟩|⟨_,ν15,_⟩|⟨_,ν15,_⟩
   ·exact sq φ φ.fr0 ς (r_move rfl rfl) 5 rfl rfl rfl rfl rfl rfl fun a hg=>Or.inl (⟨un rfl ν14,un rfl ν15,un rfl ν17,hg,ς⟩)
   ·exact sq φ φ.fr0 ς (r_move rfl rfl) 5 rfl rfl rfl rfl rfl rfl fun a hg=>Or.inr (Or.inl (⟨un rfl ν14,un rfl ν15,un rfl ν17,v7014,hg,ς⟩))
   ·exact no_way (cA hcl 15 5 rfl ν15) hSi
   ·exact no_way (cA hcl 15 5 rfl ν15) hSi
  ·obtain rfl:_=o:=Option.some.inj ho
   have hd5:S 5=true:=depAt hdep 0 rfl rfl
   rcases hI with ⟨ν14,ν15,ν17,φ,ς⟩|⟨ν14,ν15,ν17,v7014,φ,ς⟩|⟨_,ν15,_⟩|⟨_,ν15,_⟩
   ·exact sq φ (Fr.cons φ.fr0 (φ.at_ 5 5 11 _ rfl hd5)) ς (r_nil rfl rfl) 6 rfl rfl rfl rfl rfl rfl fun a hg=>Or.inl (⟨un rfl ν14,un rfl ν15,un rfl ν17,hg,ς⟩)
   ·exact sq φ (Fr.cons φ.fr0 (φ.at_ 5 5 11 _ rfl hd5)) ς (r_nil rfl rfl) 6 rfl rfl rfl rfl rfl rfl fun a hg=>Or.inr (Or.inl (⟨un rfl ν14,un rfl ν15,un rfl ν17,v7014,hg,ς⟩))
   ·exact no_way (cA hcl 15 6 rfl ν15) hSi
   ·exact no_way (cA hcl 15 6 rfl ν15) hSi
  ·obtain rfl:_=o:=Option.some.inj ho
   have hd6:S 6=true:=depAt hdep 0 rfl rfl
   rcases hI with ⟨ν14,ν15,ν17,φ,ς⟩|⟨ν14,ν15,ν17,v7014,φ,ς⟩|⟨_,ν15,_⟩|⟨_,ν15,_⟩
   ·exact sq φ (Fr.cons φ.fr0 (φ.at_ 6 6 12 _ rfl hd6)) ς (r_fieldB (r:=1) fl_185_1 rfl rfl rfl) 7 rfl rfl rfl rfl rfl rfl fun a hg=>Or.inl (⟨un rfl ν14,un rfl ν15,un rfl ν17,hg,ς⟩)
   ·exact sq φ (Fr.cons φ.fr0 (φ.at_ 6 6 12 _ rfl hd6)) ς (r_fieldB (r:=1) fl_185_1 rfl rfl rfl) 7 rfl rfl rfl rfl rfl rfl fun a hg=>Or.inr (Or.inl (⟨un rfl ν14,un rfl ν15,un rfl ν17,v7014,hg,ς⟩))
   ·exact no_way (cA hcl 15 7 rfl ν15) hSi
   ·exact no_way (cA hcl 15 7 rfl ν15) hSi
  ·obtain rfl:_=o:=Option.some.inj ho
   have hd7:S 7=true:=depAt hdep 0 rfl rfl
   rcases hI with ⟨ν14,ν15,ν17,φ,ς⟩|⟨ν14,ν15,ν17,v7014,φ,ς⟩|⟨_,ν15,_⟩|⟨_,ν15,_⟩
   ·exact sq φ (Fr.cons φ.fr0 (φ.at_ 7 7 13 _ rfl hd7)) ς (r_ldb (i:=0) ti_183 rfl rfl rfl rfl) 8 rfl rfl rfl rfl rfl rfl fun a hg=>Or.inl (⟨un rfl ν14,un rfl ν15,un rfl ν17,hg,ς⟩)
   ·exact sq φ (Fr.cons φ.fr0 (φ.at_ 7 7 13 _ rfl hd7)) ς (r_ldb (i:=1) ti_183 rfl rfl rfl rfl) 8 rfl rfl rfl rfl rfl rfl fun a hg=>Or.inr (Or.inl (⟨un rfl ν14,un rfl ν15,un rfl ν17,v7014,hg,ς⟩))
   ·exact no_way (cA hcl 15 8 rfl ν15) hSi
   ·exact no_way (cA hcl 15 8 rfl ν15) hSi
  ·obtain rfl:_=o:=Option.some.inj ho
   rcases hI with ⟨ν14,ν15,ν17,φ,ς⟩|⟨ν14,ν15,ν17,v7014,φ,ς⟩|⟨_,ν15,_⟩|⟨_,ν15,_⟩
   ·exact sq φ φ.fr0 ς (r_move rfl rfl) 9 rfl rfl rfl rfl rfl rfl fun a hg=>Or.inl (⟨un rfl ν14,un rfl ν15,un rfl ν17,hg,ς⟩)
   ·exact sq φ φ.fr0 ς (r_move rfl rfl) 9 rfl rfl rfl rfl rfl rfl fun a hg=>Or.inr (Or.inl (⟨un rfl ν14,un rfl ν15,un rfl ν17,v7014,hg,ς⟩))
   ·exact no_way (cA hcl 15 9 rfl ν15) hSi
   ·exact no_way (cA hcl 15 9 rfl ν15) hSi
  ·obtain rfl:_=o:=Option.some.inj ho
   have hd8:S 8=true:=depAt hdep 0 rfl rfl
   have hd9:S 9=true:=depAt hdep 1 rfl rfl
   rcases hI with ⟨ν14,ν15,ν17,φ,ς⟩|⟨ν14,ν15,ν17,v7014,φ,ς⟩|⟨_,ν15,_⟩|⟨_,ν15,_⟩
   ·exact sq φ (Fr.cons (Fr.cons φ.fr0 (φ.at_ 8 8 14 _ rfl hd8)) (φ.at_ 9 9 15 _ rfl hd9)) ς (r_ixN (s:=(⟨v9,rvs M⟩:Ls RV)) (q:=t) sl_183 ti_267 rfl rfl rfl (fun w h=>(h.matAt 1 rfl)) (by rw [rvs_len];exact (show t<M.length from (by omega)))) 10 rfl rfl rfl rfl rfl rfl fun a hg=>Or.inl (⟨un rfl ν14,un rfl ν15,un rfl ν17,hg,ς⟩)
   ·exact sq φ (Fr.cons (Fr.cons φ.fr0 (φ.at_ 8 8 14 _ rfl hd8)) (φ.at_ 9 9 15 _ rfl hd9)) ς (r_ixN (s:=(⟨v9,rvs M⟩:Ls RV)) (q:=t) sl_183 ti_267 rfl rfl rfl (fun w h=>(h.matAt 2 rfl)) (by rw [rvs_len];exact (show t<M.length from (by omega)))) 10 rfl rfl rfl rfl rfl rfl fun a hg=>Or.inr (Or.inl (⟨un rfl ν14,un rfl ν15,un rfl ν17,v7014,hg,ς⟩))
   ·exact no_way (cA hcl 15 10 rfl ν15) hSi
   ·exact no_way (cA hcl 15 10 rfl ν15) hSi
  ·obtain rfl:_=o:=Option.some.inj ho
   have hd10:S 10=true:=depAt hdep 0 rfl rfl
   rcases hI with ⟨ν14,ν15,ν17,φ,ς⟩|⟨ν14,ν15,ν17,v7014,φ,ς⟩|⟨_,ν15,_⟩|⟨_,ν15,_⟩
   ·exact sq φ (Fr.cons φ.fr0 (φ.at_ 10 10 16 _ rfl hd10)) ς (Rn.same (r_lde (s:=(⟨v9,rvs M⟩:Ls RV)) (i:=t) (v:=(nth (rvs M) t).v) ti_267 rfl rfl rfl (fun w h=>h.matAt 1 rfl) (by rw [rvs_len];exact (show t<M.length from (by omega))) (Nat.le_of_ble_eq_true rfl) rfl) (nth_rvs M t)) 11 rfl rfl rfl rfl rfl rfl fun a hg=>Or.inl (⟨un rfl ν14,un rfl ν15,un rfl ν17,hg,ς⟩)
   ·exact sq φ (Fr.cons φ.fr0 (φ.at_ 10 10 16 _ rfl hd10)) ς (Rn.same (r_lde (s:=(⟨v9,rvs M⟩:Ls RV)) (i:=t) (v:=(nth (rvs M) t).v) ti_267 rfl rfl rfl (fun w h=>h.matAt 2 rfl) (by rw [rvs_len];exact (show t<M.length from (by omega))) (Nat.le_of_ble_eq_true rfl) rfl) (nth_rvs M t)) 11 rfl rfl rfl rfl rfl rfl fun a hg=>Or.inr (Or.inl (⟨un rfl ν14,un rfl ν15,un rfl ν17,v7014,hg,ς⟩))
   ·exact no_way (cA hcl 15 11 rfl ν15) hSi
   ·exact no_way (cA hcl 15 11 rfl ν15) hSi
  ·obtain rfl:_=o:=Option.some.inj ho
   rcases hI with ⟨ν14,ν15,ν17,φ,ς⟩|⟨ν14,_⟩|⟨ν14,_⟩|⟨ν14,_⟩
   ·exact sq φ φ.fr0 ς (r_move rfl rfl) 12 rfl rfl rfl rfl rfl rfl fun a hg=>Or.inl (⟨un rfl ν14,un rfl ν15,un rfl ν17,hg,ς⟩)
   ·exact no_way (cA hcl 14 12 rfl ν14) hSi
   ·exact no_way (cA hcl 14 12 rfl ν14) hSi
   ·exact no_way (cA hcl 14 12 rfl ν14) hSi
  ·obtain rfl:_=o:=Option.some.inj ho
   have hd12:S 12=true:=depAt hdep 0 rfl rfl
   rcases hI with ⟨ν14,ν15,ν17,φ,ς⟩|⟨ν14,_⟩|⟨ν14,_⟩|⟨ν14,_⟩
   ·exact sq φ (Fr.cons φ.fr0 (φ.at_ 12 12 18 _ rfl hd12)) ς (r_build (cs:= [.bool true, .int .i64 ad, .int .i64 0]) rfl rfl (by kernel_rfl)) 13 rfl rfl rfl rfl rfl rfl fun a hg=>Or.inl (⟨un rfl ν14,un rfl ν15,un rfl ν17,hg,ς⟩)
   ·exact no_way (cA hcl 14 13 rfl ν14) hSi
   ·exact no_way (cA hcl 14 13 rfl ν14) hSi
   ·exact no_way (cA hcl 14 13 rfl ν14) hSi
  ·obtain rfl:_=o:=Option.some.inj ho
   have hd13:S 13=true:=depAt hdep 0 rfl rfl
   rcases hI with ⟨ν14,ν15,ν17,φ,ς⟩|⟨ν14,_⟩|⟨ν14,_⟩|⟨ν14,_⟩
   ·have hs:=St.mk (Fr.cons φ.fr0 (φ.at_ 13 13 19 _ rfl hd13)) ς
    refine step_ex (x_lit (n:=1) (cs:= [.bool true, .int .i64 ad, .int .i64 0]) ([(⟨true,ad,0⟩:Wt)]:List Wt) hs sl_267 ti_266 rfl rfl rfl (by decide) rfl (by kernel_rfl) rfl (fun q hq w h=>Flat.inner _ _) (fun q hq b hb=>(Flat.on _ _ hb).elim) rfl rfl) (wanted_none rfl _) ?_
    rintro a44 w44 ⟨v44,h44⟩ ⟨v0,ht44⟩
    exact Or.inr (Or.inl (⟨upd_self _ _,un rfl ν15,un rfl ν17,v44,φ.stepW hcl hSi [0,1,2,3,4,5,6,7,8,9,10,11,12,13] (by kernel_rfl) (by kernel_rfl) ht44 h44.fr.defers (h44.fr.at_ 20 _ rfl) 14 rfl rfl rfl rfl,(h44.sh.sel [0,1,2] rfl)⟩))
   ·exact no_way ν14 hSi
   ·exact no_way ν14 hSi
   ·exact no_way ν14 hSi
  ·obtain rfl:_=o:=Option.some.inj ho
   have hd11:S 11=true:=depAt hdep 0 rfl rfl
   have hd14:S 14=true:=depAt hdep 1 rfl rfl
   rcases hI with ⟨ν14,_⟩|⟨ν14,ν15,ν17,v7014,φ,ς⟩|⟨_,ν15,_⟩|⟨_,ν15,_⟩
   ·exact no_way hd14 ν14
   ·have hs:=St.mk (Fr.cons (Fr.cons φ.fr0 (φ.at_ 11 11 17 _ rfl hd11)) (φ.at_ 14 14 20 _ rfl hd14)) ς
    refine step_ex (x_appMat (i:=t) (r:=2) (rm:=0) (m:=(⟨v7014, [(⟨true,ad,0⟩:Wt)]⟩:Ls Wt)) hs sl_267 ti_266 rfl rfl rfl rfl (show t<M.length from (by omega)) rfl rfl rfl (fun w h=>(h.own 0 rfl)) (fun b hb=>own_on (hs.sh.ok _ (List.mem_of_getElem? (i:=0) rfl)) hb) rfl rfl rfl inferInstance (show (((nth M t).l).length+([(⟨true,ad,0⟩:Wt)]).length)*24≤140737488355328∧((nth M t).l).length+([(⟨true,ad,0⟩:Wt)]).length≤140737488355328 from (by first|omega|(simp only [lens9];omega))) rfl rfl) (wanted_none rfl _) ?_
    rintro a45 w45 ⟨v45,h45⟩ ⟨v0,ht45⟩
    exact Or.inr (Or.inr (Or.inl (⟨un rfl ν14,upd_self _ _,un rfl ν17,v7014,v45,φ.stepW hcl hSi [0,1,2,3,4,5,6,7,8,9,10,11,12,13,14] (by kernel_rfl) (by kernel_rfl) ht45 h45.fr.defers (h45.fr.at_ 21 _ rfl) 15 rfl rfl rfl rfl,(h45.sh.sel [0,1,2,3] rfl)⟩)))
   ·exact no_way ν15 hSi
   ·exact no_way ν15 hSi
  ·obtain rfl:_=o:=Option.some.inj ho
   have hd3:S 3=true:=depAt hdep 0 rfl rfl
   have hd4:S 4=true:=depAt hdep 1 rfl rfl
   have hd14:S 14=true:=depAt hdep 16 rfl rfl
   have hd15:S 15=true:=depAt hdep 17 rfl rfl
   rcases hI with ⟨ν14,_⟩|⟨_,ν15,_⟩|⟨ν14,ν15,ν17,v7014,v7015,φ,ς⟩|⟨_,_,ν17,_⟩
   ·exact no_way hd14 ν14
   ·exact no_way hd15 ν15
   ·exact sq φ (Fr.cons (Fr.cons φ.fr0 (φ.at_ 3 3 9 _ rfl hd3)) (φ.at_ 4 4 10 _ rfl hd4)) ς (r_ixN (s:=(⟨v9,rvs M⟩:Ls RV)) (q:=t) sl_183 ti_267 rfl rfl rfl (fun w h=>(h.holeAt 3 rfl)) (by rw [rvs_len];exact (show t<M.length from (by omega)))) 16 rfl rfl rfl rfl rfl rfl fun a hg=>Or.inr (Or.inr (Or.inl (⟨un rfl ν14,un rfl ν15,un rfl ν17,v7014,v7015,hg,ς⟩)))
   ·exact no_way (cA hcl 17 16 rfl ν17) hSi
  ·obtain rfl:_=o:=Option.some.inj ho
   have hd16:S 16=true:=depAt hdep 0 rfl rfl
   have hd15:S 15=true:=depAt hdep 1 rfl rfl
   have hd14:S 14=true:=depAt hdep 17 rfl rfl
   rcases hI with ⟨ν14,_⟩|⟨_,ν15,_⟩|⟨ν14,ν15,ν17,v7014,v7015,φ,ς⟩|⟨_,_,ν17,_⟩
   ·exact no_way hd14 ν14
   ·exact no_way hd15 ν15
   ·have hs:=St.mk (Fr.cons (Fr.cons φ.fr0 (φ.at_ 15 15 21 _ rfl hd15)) (φ.at_ 16 16 22 _ rfl hd16)) ς
    refine step_ex (x_stHole (i:=t) (r:=2) (s:=(⟨v7015,(nth M t).l++([(⟨true,ad,0⟩:Wt)])⟩:Ls Wt)) hs ti_267 rfl rfl rfl rfl rfl (show t<M.length from (by omega)) (hs.sh.own 0 rfl)) (wanted_none rfl _) ?_
    rintro a47 w47 h47 ⟨v0,ht47⟩
    exact Or.inr (Or.inr (Or.inr (⟨un rfl ν14,un rfl ν15,upd_self _ _,v7014,v7015,φ.noneW hcl hSi [0,1,2,3,4,5,6,7,8,9,10,11,12,13,14,15,16] (by kernel_rfl) (by kernel_rfl) ht47 h47.fr.defers rfl,(h47.sh.sel [0,1,2] rfl)⟩)))
   ·exact no_way ν17 hSi
  · simp at ho
 intro S hall a w hI
 clear h11
 rcases hI with ⟨ν14,ν15,ν17,φ,ς⟩|⟨ν14,ν15,ν17,v7014,φ,ς⟩|⟨ν14,ν15,ν17,v7014,v7015,φ,ς⟩|⟨ν14,ν15,ν17,v7014,v7015,φ,ς⟩
 · exact no_way (hall 14 (by decide)) ν14
 · exact no_way (hall 15 (by decide)) ν15
 · exact no_way (hall 17 (by decide)) ν17
 have h48:St 23 K W a w _ _:=⟨φ.fr0,ς⟩
 clear hall φ ς ν14 ν15 ν17
 try simp only [Exit.then,Exit.inBlock,if_true]
 refine x_end0 (fn:=Tryz.f210) rfl h48 ?_
 exact ⟨rfl,(⟨v7015,(nth M t).l++([(⟨true,ad,0⟩:Wt)])⟩:Ls Wt),rfl,(h48.sh.sel [1,2] rfl)⟩
theorem tbFlush_c (K:Nat→Prop) (g1 g0:Nat) (v9:Value) (M:List (Ls Wt)) (words owner:Ls Int) (t k:Nat) (W:World) (hS:Sh K W W [.blk g1 185 [.pointer (some ⟨g0,0,none⟩),v9], .big (matX (.own 266) 267 v9 M), .blk g0 182 [words.v,owner.v], .own 3 words, .own 3 owner]) (ht:t<M.length) (hl:(nth M t).l.length≤100) (hk:k<(nth M t).l.length) (hx:WtOk (nth (nth M t).l k) words owner):
    Rets Tryz.prog 209 [.pointer (some ⟨g1,0,none⟩), .int .i64 ((t:Nat):Int), .int .i64 ((k:Nat):Int)] W (fun v w' =>v= .tuple #[]∧∃u:Ls Wt,u.l=(nth M t).l.eraseIdx k∧Sh K W w' [.blk g1 185 [.pointer (some ⟨g0,0,none⟩),v9], .big (matX (.own 266) 267 v9 (M.set t u)), .blk g0 182 [words.v,owner.v], .own 3 (⟨words.v,if (nth (nth M t).l k).lock=true then words.l else words.l.set (nth (nth M t).l k).wh.toNat (nth (nth M t).l k).what⟩:Ls Int), .own 3 (⟨owner.v,if (nth (nth M t).l k).lock=true then owner.l.set (nth (nth M t).l k).wh.toNat (-1) else owner.l⟩:Ls Int)]):=by
 refine gen Tryz.func209 Tryz.ntmps209 hS rfl fun a10 h10=>gG h10<|sK fun _ k11=>gRn (oM 1 rfl<|onfl 0 fl_185_1 ti_183 rfl rfl<|oM 1 rfl<|oxN sl_183 ti_267 (fun w h=>(h.matAt 1 rfl)) _ (by rw [rvs_len];exact (show t<M.length from (by omega))) rfl<|.nl)<|fun a13 w13 h13=> ?_;clear h10
 refine wv h13 (Rn.same (r_lde (s:=(⟨v9,rvs M⟩:Ls RV)) (i:=t) (v:=(nth (rvs M) t).v) ti_267 rfl rfl rfl (fun w h=>h.matAt 1 rfl) (by rw [rvs_len];exact (show t<M.length from (by omega))) (Nat.le_of_ble_eq_true rfl) rfl) (nth_rvs M t)) rfl rfl fun a12 h12=>gG h12<|gNl (fun w h=>(h.matRow 1 rfl t (show t<M.length from (by omega)))) fun (hl14:((nth M t).l).length≤140737488355328)=>gRn (oM 1 rfl<|oxN sl_267 ti_266 (fun w h=>(h.matRow 1 rfl t (show t<M.length from (by omega)))) _ om9 rfl<|olw2 [.bool ((nth ((nth M t).l) k).lock), .int .i64 ((nth ((nth M t).l) k).wh), .int .i64 ((nth ((nth M t).l) k).what)] ti_266 (fun w h=>(h.matRow 1 rfl t (show t<M.length from (by omega)))) om9 rfl<|.nl)<|gal ti_266 rfl fun b15=>gsw 0 ti_266 rfl rfl rfl<|nK k11<|gK fun _ k17=>gF [0,1,2,6,7,8,9,10,11,12,13,14,15,16] rfl<|fun a18 w18 h18=>x_any ((fun Φ Ψ S a w=>(S 12=false∧S 16=false∧S 18=false∧FrI 55 S Φ Ψ a∧Sh K W w [.blk b15 266 [.bool ((nth ((nth M t).l) k).lock), .int .i64 ((nth ((nth M t).l) k).wh), .int .i64 ((nth ((nth M t).l) k).what)], .blk g1 185 [.pointer (some ⟨g0,0,none⟩),v9], .big (matX (.own 266) 267 v9 M), .blk g0 182 [words.v,owner.v], .own 3 words, .own 3 owner])∨(S 12=true∧S 16=false∧S 18=false∧∃(s7012:Ls Wt),FrI 55 S Φ (Ψ++ [(12,29,s7012.v)]) a∧Sh K W w [.own 266 (⟨s7012.v,(nth M t).l⟩:Ls Wt), .blk b15 266 [.bool ((nth ((nth M t).l) k).lock), .int .i64 ((nth ((nth M t).l) k).wh), .int .i64 ((nth ((nth M t).l) k).what)], .blk g1 185 [.pointer (some ⟨g0,0,none⟩),v9], .big (matX (.own 266) 267 v9 M), .blk g0 182 [words.v,owner.v], .own 3 words, .own 3 owner])∨(S 12=true∧S 16=true∧S 18=false∧∃(s7012:Ls Wt) (u7016:Ls Wt),FrI 55 S Φ (Ψ++ [(12,29,s7012.v),(16,33,u7016.v),(17,34, .pointer (some (padr v9 1 t 0)))]) a∧Sh K W w [.own 266 (⟨u7016.v,((nth M t).l).take k++((nth M t).l).drop (k+1)⟩:Ls Wt), .blk b15 266 [.bool ((nth ((nth M t).l) k).lock), .int .i64 ((nth ((nth M t).l) k).wh), .int .i64 ((nth ((nth M t).l) k).what)], .blk g1 185 [.pointer (some ⟨g0,0,none⟩),v9], .big (matX (.own 266) 267 v9 M), .blk g0 182 [words.v,owner.v], .own 3 words, .own 3 owner])∨(S 12=true∧S 16=true∧S 18=true∧∃(s7012:Ls Wt) (u7016:Ls Wt),FrI 55 S Φ (Ψ++ [(12,29,s7012.v),(16,33,u7016.v),(17,34, .pointer (some (padr v9 1 t 0)))]) a∧Sh K W w [.big (matX (.own 266) 267 v9 (M.set t (⟨u7016.v,((nth M t).l).take k++((nth M t).l).drop (k+1)⟩:Ls Wt))), .blk b15 266 [.bool ((nth ((nth M t).l) k).lock), .int .i64 ((nth ((nth M t).l) k).wh), .int .i64 ((nth ((nth M t).l) k).what)], .blk g1 185 [.pointer (some ⟨g0,0,none⟩),v9], .blk g0 182 [words.v,owner.v], .own 3 words, .own 3 owner])) [(0, .pointer (some ⟨g1,0,none⟩)),(1, .int .i64 ((t:Nat):Int)),(2, .int .i64 ((k:Nat):Int)),(6, .pointer (some ⟨b15,0,none⟩)),(7, .pointer (some ⟨g1,0,none⟩)),(8, .pointer (some ⟨g1,0,none⟩)),(9, .pointer (some ⟨g1,1,none⟩)),(10,v9),(11, .int .i64 ((t:Nat):Int)),(12, .pointer (some (padr v9 1 t 0))),(13,(nth M t).v),(14, .int .i64 ((k:Nat):Int)),(15, .pointer (some (padr ((nth M t).v) 3 k 0))),(16, .agg #[.bool ((nth ((nth M t).l) k).lock), .int .i64 ((nth ((nth M t).l) k).wh), .int .i64 ((nth ((nth M t).l) k).what)])] [(0,17, .pointer (some ⟨g1,0,none⟩)),(1,18, .pointer (some ⟨g1,0,none⟩)),(2,19, .pointer (some ⟨g1,1,none⟩)),(3,20,v9),(4,21, .int .i64 ((t:Nat):Int)),(5,22, .pointer (some ⟨g1,0,none⟩)),(6,23, .pointer (some ⟨g1,0,none⟩)),(7,24, .pointer (some ⟨g1,1,none⟩)),(8,25,v9),(9,26, .int .i64 ((t:Nat):Int)),(10,27, .pointer (some (padr v9 1 t 0))),(11,28,(nth M t).v),(13,30, .int .i64 ((k:Nat):Int)),(14,31, .int .i64 ((k:Nat):Int)),(15,32, .int .i64 ((k+1:Nat):Int))]) (by kernel_rfl) (by kernel_rfl) (Or.inl (⟨rfl,rfl,rfl,FrI.start h18.fr,h18.sh.drew⟩)) ?_ ?_;clear h13 h12
 ·intro S i o ho hSi hcl hdep a w hI
  clear h18
  rcases i with _|_|_|_|_|_|_|_|_|_|_|_|_|_|_|_|_|_|_|i
  ·obtain rfl:_=o:=Option.some.inj ho
   rcases hI with ⟨ν12,ν16,ν18,φ,ς⟩|⟨ν12,ν16,ν18,s7012,φ,ς⟩|⟨ν12,ν16,ν18,s7012,u7016,φ,ς⟩|⟨_,_,ν18,_⟩
   ·exact sq φ φ.fr0 ς (r_move rfl rfl) 0 rfl rfl rfl rfl rfl rfl fun a hg=>Or.inl (⟨un rfl ν12,un rfl ν16,un rfl ν18,hg,ς⟩)
   ·exact sq φ φ.fr0 ς (r_move rfl rfl) 0 rfl rfl rfl rfl rfl rfl fun a hg=>Or.inr (Or.inl (⟨un rfl ν12,un rfl ν16,un rfl ν18,s7012,hg,ς⟩))
   ·exact sq φ φ.fr0 ς (r_move rfl rfl) 0 rfl rfl rfl rfl rfl rfl fun a hg=>Or.inr (Or.inr (Or.inl (⟨un rfl ν12,un rfl ν16,un rfl ν18,s7012,u7016,hg,ς⟩)))
   ·exact no_way (cA hcl 18 0 rfl ν18) hSi
  ·obtain rfl:_=o:=Option.some.inj ho
   have hd0:S 0=true:=depAt hdep 0 rfl rfl
   rcases hI with ⟨ν12,ν16,ν18,φ,ς⟩|⟨ν12,ν16,ν18,s7012,φ,ς⟩|⟨ν12,ν16,ν18,s7012,u7016,φ,ς⟩|⟨_,_,ν18,_⟩
   ·exact sq φ (Fr.cons φ.fr0 (φ.at_ 0 0 17 _ rfl hd0)) ς (r_nil rfl rfl) 1 rfl rfl rfl rfl rfl rfl fun a hg=>Or.inl (⟨un rfl ν12,un rfl ν16,un rfl ν18,hg,ς⟩)
   ·exact sq φ (Fr.cons φ.fr0 (φ.at_ 0 0 17 _ rfl hd0)) ς (r_nil rfl rfl) 1 rfl rfl rfl rfl rfl rfl fun a hg=>Or.inr (Or.inl (⟨un rfl ν12,un rfl ν16,un rfl ν18,s7012,hg,ς⟩))
   ·exact sq φ (Fr.cons φ.fr0 (φ.at_ 0 0 17 _ rfl hd0)) ς (r_nil rfl rfl) 1 rfl rfl rfl rfl rfl rfl fun a hg=>Or.inr (Or.inr (Or.inl (⟨un rfl ν12,un rfl ν16,un rfl ν18,s7012,u7016,hg,ς⟩)))
   ·exact no_way (cA hcl 18 1 rfl ν18) hSi
  ·obtain rfl:_=o:=Option.some.inj ho
   have hd1:S 1=true:=depAt hdep 0 rfl rfl
   rcases hI with ⟨ν12,ν16,ν18,φ,ς⟩|⟨ν12,ν16,ν18,s7012,φ,ς⟩|⟨ν12,ν16,ν18,s7012,u7016,φ,ς⟩|⟨_,_,ν18,_⟩
   ·exact sq φ (Fr.cons φ.fr0 (φ.at_ 1 1 18 _ rfl hd1)) ς (r_fieldB (r:=1) fl_185_1 rfl rfl rfl) 2 rfl rfl rfl rfl rfl rfl fun a hg=>Or.inl (⟨un rfl ν12,un rfl ν16,un rfl ν18,hg,ς⟩)
   ·exact sq φ (Fr.cons φ.fr0 (φ.at_ 1 1 18 _ rfl hd1)) ς (r_fieldB (r:=1) fl_185_1 rfl rfl rfl) 2 rfl rfl rfl rfl rfl rfl fun a hg=>Or.inr (Or.inl (⟨un rfl ν12,un rfl ν16,un rfl ν18,s7012,hg,ς⟩))
   ·exact sq φ (Fr.cons φ.fr0 (φ.at_ 1 1 18 _ rfl hd1)) ς (r_fieldB (r:=1) fl_185_1 rfl rfl rfl) 2 rfl rfl rfl rfl rfl rfl fun a hg=>Or.inr (Or.inr (Or.inl (⟨un rfl ν12,un rfl ν16,un rfl ν18,s7012,u7016,hg,ς⟩)))
   ·exact no_way (cA hcl 18 2 rfl ν18) hSi
  ·obtain rfl:_=o:=Option.some.inj ho
   have hd2:S 2=true:=depAt hdep 0 rfl rfl
   rcases hI with ⟨ν12,ν16,ν18,φ,ς⟩|⟨ν12,ν16,ν18,s7012,φ,ς⟩|⟨ν12,ν16,ν18,s7012,u7016,φ,ς⟩|⟨_,_,ν18,_⟩
   ·exact sq φ (Fr.cons φ.fr0 (φ.at_ 2 2 19 _ rfl hd2)) ς (r_ldb (i:=1) ti_183 rfl rfl rfl rfl) 3 rfl rfl rfl rfl rfl rfl fun a hg=>Or.inl (⟨un rfl ν12,un rfl ν16,un rfl ν18,hg,ς⟩)
   ·exact sq φ (Fr.cons φ.fr0 (φ.at_ 2 2 19 _ rfl hd2)) ς (r_ldb (i:=2) ti_183 rfl rfl rfl rfl) 3 rfl rfl rfl rfl rfl rfl fun a hg=>Or.inr (Or.inl (⟨un rfl ν12,un rfl ν16,un rfl ν18,s7012,hg,ς⟩))
   ·exact sq φ (Fr.cons φ.fr0 (φ.at_ 2 2 19 _ rfl hd2)) ς (r_ldb (i:=2) ti_183 rfl rfl rfl rfl) 3 rfl rfl rfl rfl rfl rfl fun a hg=>Or.inr (Or.inr (Or.inl (⟨un rfl ν12,un rfl ν16,un rfl ν18,s7012,u7016,hg,ς⟩)))
   ·exact no_way (cA hcl 18 3 rfl ν18) hSi
  ·obtain rfl:_=o:=Option.some.inj ho
   rcases hI with ⟨ν12,ν16,ν18,φ,ς⟩|⟨ν12,ν16,ν18,s7012,φ,ς⟩|⟨ν12,ν16,ν18,s7012,u7016,φ,ς⟩|⟨_,_,ν18,_⟩
   ·exact sq φ φ.fr0 ς (r_move rfl rfl) 4 rfl rfl rfl rfl rfl rfl fun a hg=>Or.inl (⟨un rfl ν12,un rfl ν16,un rfl ν18,hg,ς⟩)
   ·exact sq φ φ.fr0 ς (r_move rfl rfl) 4 rfl rfl rfl rfl rfl rfl fun a hg=>Or.inr (Or.inl (⟨un rfl ν12,un rfl ν16,un rfl ν18,s7012,hg,ς⟩))
   ·exact sq φ φ.fr0 ς (r_move rfl rfl) 4 rfl rfl rfl rfl rfl rfl fun a hg=>Or.inr (Or.inr (Or.inl (⟨un rfl ν12,un rfl ν16,un rfl ν18,s7012,u7016,hg,ς⟩)))
   ·exact no_way (cA hcl 18 4 rfl ν18) hSi
  ·obtain rfl:_=o:=Option.some.inj ho
   rcases hI with ⟨ν12,ν16,ν18,φ,ς⟩|⟨ν12,_⟩|⟨ν12,_⟩|⟨ν12,_⟩
   ·exact sq φ φ.fr0 ς (r_move rfl rfl) 5 rfl rfl rfl rfl rfl rfl fun a hg=>Or.inl (⟨un rfl ν12,un rfl ν16,un rfl ν18,hg,ς⟩)
   ·exact no_way (cA hcl 12 5 rfl ν12) hSi
   ·exact no_way (cA hcl 12 5 rfl ν12) hSi
   ·exact no_way (cA hcl 12 5 rfl ν12) hSi
  ·obtain rfl:_=o:=Option.some.inj ho
   have hd5:S 5=true:=depAt hdep 0 rfl rfl
   rcases hI with ⟨ν12,ν16,ν18,φ,ς⟩|⟨ν12,_⟩|⟨ν12,_⟩|⟨ν12,_⟩
   ·exact sq φ (Fr.cons φ.fr0 (φ.at_ 5 5 22 _ rfl hd5)) ς (r_nil rfl rfl) 6 rfl rfl rfl rfl rfl rfl fun a hg=>Or.inl (⟨un rfl ν12,un rfl ν16,un rfl ν18,hg,ς⟩)
   ·exact no_way (cA hcl 12 6 rfl ν12) hSi
   ·exact no_way (cA hcl 12 6 rfl ν12) hSi
   ·exact no_way (cA hcl 12 6 rfl ν12) hSi
  ·obtain rfl:_=o:=Option.some.inj ho
   have hd6:S 6=true:=depAt hdep 0 rfl rfl
   rcases hI with ⟨ν12,ν16,ν18,φ,ς⟩|⟨ν12,_⟩|⟨ν12,_⟩|⟨ν12,_⟩
   ·exact sq φ (Fr.cons φ.fr0 (φ.at_ 6 6 23 _ rfl hd6)) ς (r_fieldB (r:=1) fl_185_1 rfl rfl rfl) 7 rfl rfl rfl rfl rfl rfl fun a hg=>Or.inl (⟨un rfl ν12,un rfl ν16,un rfl ν18,hg,ς⟩)
   ·exact no_way (cA hcl 12 7 rfl ν12) hSi
   ·exact no_way (cA hcl 12 7 rfl ν12) hSi
   ·exact no_way (cA hcl 12 7 rfl ν12) hSi
  ·obtain rfl:_=o:=Option.some.inj ho
   have hd7:S 7=true:=depAt hdep 0 rfl rfl
   rcases hI with ⟨ν12,ν16,ν18,φ,ς⟩|⟨ν12,_⟩|⟨ν12,_⟩|⟨ν12,_⟩
   ·exact sq φ (Fr.cons φ.fr0 (φ.at_ 7 7 24 _ rfl hd7)) ς (r_ldb (i:=1) ti_183 rfl rfl rfl rfl) 8 rfl rfl rfl rfl rfl rfl fun a hg=>Or.inl (⟨un rfl ν12,un rfl ν16,un rfl ν18,hg,ς⟩)
   ·exact no_way (cA hcl 12 8 rfl ν12) hSi
   ·exact no_way (cA hcl 12 8 rfl ν12) hSi
   ·exact no_way (cA hcl 12 8 rfl ν12) hSi
  ·obtain rfl:_=o:=Option.some.inj ho
   rcases hI with ⟨ν12,ν16,ν18,φ,ς⟩|⟨ν12,_⟩|⟨ν12,_⟩|⟨ν12,_⟩
   ·exact sq φ φ.fr0 ς (r_move rfl rfl) 9 rfl rfl rfl rfl rfl rfl fun a hg=>Or.inl (⟨un rfl ν12,un rfl ν16,un rfl ν18,hg,ς⟩)
   ·exact no_way (cA hcl 12 9 rfl ν12) hSi
   ·exact no_way (cA hcl 12 9 rfl ν12) hSi
   ·exact no_way (cA hcl 12 9 rfl ν12) hSi
  ·obtain rfl:_=o:=Option.some.inj ho
   have hd8:S 8=true:=depAt hdep 0 rfl rfl
   have hd9:S 9=true:=depAt hdep 1 rfl rfl
   rcases hI with ⟨ν12,ν16,ν18,φ,ς⟩|⟨ν12,_⟩|⟨ν12,_⟩|⟨ν12,_⟩
   ·exact sq φ (Fr.cons (Fr.cons φ.fr0 (φ.at_ 8 8 25 _ rfl hd8)) (φ.at_ 9 9 26 _ rfl hd9)) ς (r_ixN (s:=(⟨v9,rvs M⟩:Ls RV)) (q:=t) sl_183 ti_267 rfl rfl rfl (fun w h=>(h.matAt 2 rfl)) (by rw [rvs_len];exact (show t<M.length from (by omega)))) 10 rfl rfl rfl rfl rfl rfl fun a hg=>Or.inl (⟨un rfl ν12,un rfl ν16,un rfl ν18,hg,ς⟩)
   ·exact no_way (cA hcl 12 10 rfl ν12) hSi
   ·exact no_way (cA hcl 12 10 rfl ν12) hSi
   ·exact no_way (cA hcl 12 10 rfl ν12) hSi
  ·obtain rfl:_=o:=Option.some.inj ho
   have hd10:S 10=true:=depAt hdep 0 rfl rfl
   rcases hI with ⟨ν12,ν16,ν18,φ,ς⟩|⟨ν12,_⟩|⟨ν12,_⟩|⟨ν12,_⟩
   ·exact sq φ (Fr.cons φ.fr0 (φ.at_ 10 10 27 _ rfl hd10)) ς (Rn.same (r_lde (s:=(⟨v9,rvs M⟩:Ls RV)) (i:=t) (v:=(nth (rvs M) t).v) ti_267 rfl rfl rfl (fun w h=>h.matAt 2 rfl) (by rw [rvs_len];exact (show t<M.length from (by omega))) (Nat.le_of_ble_eq_true rfl) rfl) (nth_rvs M t)) 11 rfl rfl rfl rfl rfl rfl fun a hg=>Or.inl (⟨un rfl ν12,un rfl ν16,un rfl ν18,hg,ς⟩)
   ·exact no_way (cA hcl 12 11 rfl ν12) hSi
   ·exact no_way (cA hcl 12 11 rfl ν12) hSi
   ·exact no_way (cA hcl 12 11 rfl ν12) hSi
  ·obtain rfl:_=o:=Option.some.inj ho
   have hd11:S 11=true:=depAt hdep 0 rfl rfl
   rcases hI with ⟨ν12,ν16,ν18,φ,ς⟩|⟨ν12,_⟩|⟨ν12,_⟩|⟨ν12,_⟩
   ·have hs:=St.mk (Fr.cons φ.fr0 (φ.at_ 11 11 28 _ rfl hd11)) ς
    refine step_ex (x_call hs bd_219 rfl rfl rfl rfl rfl (cloneW_c (nth M t) _ (hs.sh.matRow 2 rfl t (show t<M.length from (by omega))) (by first|omega|(simp only [lens9];omega)))) (wanted_none rfl _) ?_
    rintro a46 w46 ⟨_,⟨s46,rfl,hs46⟩,hf46⟩ ⟨v0,ht46⟩
    have h46:St _ K W a46 w46 _ _:=⟨hf46,hs.sh.callI hs46⟩
    clear hf46 hs46
    exact Or.inr (Or.inl (⟨upd_self _ _,un rfl ν16,un rfl ν18,s46,φ.stepW hcl hSi [0,1,2,3,4,5,6,7,8,9,10,11,12,13,14] (by kernel_rfl) (by kernel_rfl) ht46 h46.fr.defers (h46.fr.at_ 29 _ rfl) 15 rfl rfl rfl rfl,(h46.sh.sel [0,1,2,3,4,5,6] rfl)⟩))
   ·exact no_way ν12 hSi
   ·exact no_way ν12 hSi
   ·exact no_way ν12 hSi
  ·obtain rfl:_=o:=Option.some.inj ho
   rcases hI with ⟨ν12,ν16,ν18,φ,ς⟩|⟨ν12,ν16,ν18,s7012,φ,ς⟩|⟨_,ν16,_⟩|⟨_,ν16,_⟩
   ·exact sq φ φ.fr0 ς (r_move rfl rfl) 12 rfl rfl rfl rfl rfl rfl fun a hg=>Or.inl (⟨un rfl ν12,un rfl ν16,un rfl ν18,hg,ς⟩)
   ·exact sq φ φ.fr0 ς (r_move rfl rfl) 12 rfl rfl rfl rfl rfl rfl fun a hg=>Or.inr (Or.inl (⟨un rfl ν12,un rfl ν16,un rfl ν18,s7012,hg,ς⟩))
   ·exact no_way (cA hcl 16 13 rfl ν16) hSi
   ·exact no_way (cA hcl 16 13 rfl ν16) hSi
  ·obtain rfl:_=o:=Option.some.inj ho
   rcases hI with ⟨ν12,ν16,ν18,φ,ς⟩|⟨ν12,ν16,ν18,s7012,φ,ς⟩|⟨_,ν16,_⟩|⟨_,ν16,_⟩
   ·exact sq φ φ.fr0 ς (r_move rfl rfl) 13 rfl rfl rfl rfl rfl rfl fun a hg=>Or.inl (⟨un rfl ν12,un rfl ν16,un rfl ν18,hg,ς⟩)
   ·exact sq φ φ.fr0 ς (r_move rfl rfl) 13 rfl rfl rfl rfl rfl rfl fun a hg=>Or.inr (Or.inl (⟨un rfl ν12,un rfl ν16,un rfl ν18,s7012,hg,ς⟩))
   ·exact no_way (cA hcl 16 14 rfl ν16) hSi
   ·exact no_way (cA hcl 16 14 rfl ν16) hSi
  ·obtain rfl:_=o:=Option.some.inj ho
   have hd14:S 14=true:=depAt hdep 0 rfl rfl
   rcases hI with ⟨ν12,ν16,ν18,φ,ς⟩|⟨ν12,ν16,ν18,s7012,φ,ς⟩|⟨_,ν16,_⟩|⟨_,ν16,_⟩
   ·exact sq φ (Fr.cons φ.fr0 (φ.at_ 13 14 31 _ rfl hd14)) ς (r_addN (p:=k) (q:=1) rfl rfl rfl (show k+1<9223372036854775808 from (by omega))) 14 rfl rfl rfl rfl rfl rfl fun a hg=>Or.inl (⟨un rfl ν12,un rfl ν16,un rfl ν18,hg,ς⟩)
   ·exact sq φ (Fr.cons φ.fr0 (φ.at_ 13 14 31 _ rfl hd14)) ς (r_addN (p:=k) (q:=1) rfl rfl rfl (show k+1<9223372036854775808 from (by omega))) 14 rfl rfl rfl rfl rfl rfl fun a hg=>Or.inr (Or.inl (⟨un rfl ν12,un rfl ν16,un rfl ν18,s7012,hg,ς⟩))
   ·exact no_way (cA hcl 16 15 rfl ν16) hSi
   ·exact no_way (cA hcl 16 15 rfl ν16) hSi
  ·obtain rfl:_=o:=Option.some.inj ho
   have hd12:S 12=true:=depAt hdep 0 rfl rfl
   have hd13:S 13=true:=depAt hdep 1 rfl rfl
   have hd15:S 15=true:=depAt hdep 2 rfl rfl
   rcases hI with ⟨ν12,_⟩|⟨ν12,ν16,ν18,s7012,φ,ς⟩|⟨_,ν16,_⟩|⟨_,ν16,_⟩
   ·exact no_way hd12 ν12
   ·have hs:=St.mk (Fr.cons (Fr.cons (Fr.cons φ.fr0 (φ.at_ 15 12 29 _ rfl hd12)) (φ.at_ 12 13 30 _ rfl hd13)) (φ.at_ 14 15 32 _ rfl hd15)) ς
    have hp53:=hs.sh.passL (Lp:= [_])
    refine step_ex (x_call hs bd_218 rfl rfl rfl rfl rfl (deleteW_c _ (⟨s7012.v,(nth M t).l⟩:Ls Wt) k (k+1) _ hp53 (by first|omega|(simp only [lens9];omega)))) (wanted_none rfl _) ?_
    rintro a54 w54 ⟨_,⟨u54,rfl,hs54⟩,hf54⟩ ⟨v0,ht54⟩
    have h54:St _ K W a54 w54 _ [_,_,_,_,_,_,_]:=⟨hf54,hs.sh.backI (Lp:= [_]) hs54⟩
    clear hf54 hs54
    exact Or.inr (Or.inr (Or.inl (⟨un rfl ν12,upd_self _ _,un rfl ν18,s7012,u54,φ.stepW hcl hSi [0,1,2,3,4,5,6,7,8,9,10,11,12,13,14,15] (by kernel_rfl) (by kernel_rfl) ht54 h54.fr.defers (h54.fr.at_ 33 _ rfl) 16 rfl rfl rfl rfl,(h54.sh.sel [0,1,2,3,4,5,6] rfl)⟩)))
   ·exact no_way ν16 hSi
   ·exact no_way ν16 hSi
  ·obtain rfl:_=o:=Option.some.inj ho
   have hd3:S 3=true:=depAt hdep 0 rfl rfl
   have hd4:S 4=true:=depAt hdep 1 rfl rfl
   have hd12:S 12=true:=depAt hdep 14 rfl rfl
   have hd16:S 16=true:=depAt hdep 18 rfl rfl
   rcases hI with ⟨ν12,_⟩|⟨_,ν16,_⟩|⟨ν12,ν16,ν18,s7012,u7016,φ,ς⟩|⟨_,_,ν18,_⟩
   ·exact no_way hd12 ν12
   ·exact no_way hd16 ν16
   ·exact sq φ (Fr.cons (Fr.cons φ.fr0 (φ.at_ 3 3 20 _ rfl hd3)) (φ.at_ 4 4 21 _ rfl hd4)) ς (r_ixN (s:=(⟨v9,rvs M⟩:Ls RV)) (q:=t) sl_183 ti_267 rfl rfl rfl (fun w h=>(h.matAt 3 rfl)) (by rw [rvs_len];exact (show t<M.length from (by omega)))) 17 rfl rfl rfl rfl rfl rfl fun a hg=>Or.inr (Or.inr (Or.inl (⟨un rfl ν12,un rfl ν16,un rfl ν18,s7012,u7016,hg,ς⟩)))
   ·exact no_way (cA hcl 18 17 rfl ν18) hSi
  ·obtain rfl:_=o:=Option.some.inj ho
   have hd17:S 17=true:=depAt hdep 0 rfl rfl
   have hd16:S 16=true:=depAt hdep 1 rfl rfl
   have hd12:S 12=true:=depAt hdep 15 rfl rfl
   rcases hI with ⟨ν12,_⟩|⟨_,ν16,_⟩|⟨ν12,ν16,ν18,s7012,u7016,φ,ς⟩|⟨_,_,ν18,_⟩
   ·exact no_way hd12 ν12
   ·exact no_way hd16 ν16
   ·have hs:=St.mk (Fr.cons (Fr.cons φ.fr0 (φ.at_ 16 16 33 _ rfl hd16)) (φ.at_ 17 17 34 _ rfl hd17)) ς
    have ha56:=(hs.sh.own 0 rfl)
    have h57:=hs.sel (L' := [_,_,_,_,_,_,_]) [3,0,1,2,4,5,6] rfl
    refine step_ex (x_stMat (i:=t) (s:=(⟨u7016.v,((nth M t).l).take k++((nth M t).l).drop (k+1)⟩:Ls Wt)) h57 ti_267 rfl rfl rfl rfl (show t<M.length from (by omega)) ha56) (wanted_none rfl _) ?_
    rintro a58 w58 h58 ⟨v0,ht58⟩
    exact Or.inr (Or.inr (Or.inr (⟨un rfl ν12,un rfl ν16,upd_self _ _,s7012,u7016,φ.noneW hcl hSi [0,1,2,3,4,5,6,7,8,9,10,11,12,13,14,15,16,17] (by kernel_rfl) (by kernel_rfl) ht58 h58.fr.defers rfl,(h58.sh.sel [0,1,2,3,4,5] rfl)⟩)))
   ·exact no_way ν18 hSi
  · simp at ho
 intro S hall a w hI
 clear h18
 rcases hI with ⟨ν12,ν16,ν18,φ,ς⟩|⟨ν12,ν16,ν18,s7012,φ,ς⟩|⟨ν12,ν16,ν18,s7012,u7016,φ,ς⟩|⟨ν12,ν16,ν18,s7012,u7016,φ,ς⟩
 · exact no_way (hall 12 (by decide)) ν12
 · exact no_way (hall 16 (by decide)) ν16
 · exact no_way (hall 18 (by decide)) ν18
 have h59:St 55 K W a w _ _:=⟨φ.fr0,ς⟩
 clear hall φ ς ν12 ν16 ν18
 refine gG h59<|hK k17<|sG (ofB fl_266_0 rfl<|olB 1 ti_4 rfl rfl<|.nl)<|?_;clear h59
 refine gCb rfl (fun hb61=> ?_) fun hb61=> ?_
 ·skip
  unfold WtOk at hx
  rw [if_pos (by assumption)] at hx
  refine rT 7 [] (by kernel_rfl) (by kernel_rfl) (oM 1 rfl<|onfl 2 fl_185_0 ti_123 rfl rfl<|oM 1 rfl<|ofB fl_266_1 rfl<|olB 1 ti_3 rfl rfl<|.nl)<|gO [3,4,5,0,1,2] rfl<|gM 3 rfl (fun _ _ h_=>xCl h_ bd_200 rfl (plFree_c _ g0 words owner ((t:Nat):Int) ((nth ((nth M t).l) k).wh) 0 _ (pKl 3 h_ rfl) hx)) rfl<|?_
  rintro _ _ w64 ⟨rfl,hs64⟩
  refine gBk hs64 rfl<|gU<|nN<|fun a65 w65 h65=> ?_;clear hs64
  try simp only [Exit.then,Exit.inBlock,if_true]
  refine x_end0 (fn:=Tryz.f209) rfl h65 ?_
  first|rw [if_pos (by assumption),if_pos (by assumption)]|rw [if_neg (by rw [show (nth (nth M t).l k).lock=false by assumption];decide),if_neg (by rw [show (nth (nth M t).l k).lock=false by assumption];decide)]
  exact ⟨rfl,(⟨u7016.v,((nth M t).l).take k++((nth M t).l).drop (k+1)⟩:Ls Wt),(eraseIdx_td _ _).symm,(h65.sh.sel [5,3,0,1,2] rfl)⟩
 unfold WtOk at hx
 rw [if_neg (by rw [show (nth (nth M t).l k).lock=false by assumption];decide)] at hx
 refine rT 9 [] (by kernel_rfl) (by kernel_rfl) (oM 1 rfl<|onfl 2 fl_185_0 ti_123 rfl rfl<|oM 1 rfl<|ofB fl_266_1 rfl<|olB 1 ti_3 rfl rfl<|ofB fl_266_2 rfl<|olB 1 ti_3 rfl rfl<|.nl)<|gO [3,4,5,0,1,2] rfl<|gM 3 rfl (fun _ _ h_=>xCl h_ bd_204 rfl (plStore_c _ g0 words owner ((t:Nat):Int) ((nth ((nth M t).l) k).wh) ((nth ((nth M t).l) k).what) _ (pKl 3 h_ rfl) hx)) rfl<|?_
 rintro _ _ w68 ⟨rfl,hs68⟩
 refine gBk hs68 rfl<|gU<|nN<|fun a69 w69 h69=> ?_;clear hs68
 try simp only [Exit.then,Exit.inBlock,if_true]
 refine x_end0 (fn:=Tryz.f209) rfl h69 ?_
 first|rw [if_pos (by assumption),if_pos (by assumption)]|rw [if_neg (by rw [show (nth (nth M t).l k).lock=false by assumption];decide),if_neg (by rw [show (nth (nth M t).l k).lock=false by assumption];decide)]
 exact ⟨rfl,(⟨u7016.v,((nth M t).l).take k++((nth M t).l).drop (k+1)⟩:Ls Wt),(eraseIdx_td _ _).symm,(h69.sh.sel [5,3,0,1,2] rfl)⟩
end Go.Proofs.YtmjkobhkkjgplaaGreatDoor
