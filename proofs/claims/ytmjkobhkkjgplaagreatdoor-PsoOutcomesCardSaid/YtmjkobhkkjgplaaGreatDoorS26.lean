/- A memory behind an interface, by what its methods do. It imports nothing of the dump. -/
import Derived.Test.YtmjkobhkkjgplaaGreatDoorS24
import Derived.Test.YtmjkobhkkjgplaaGreatDoorS25
namespace Go.Proofs.YtmjkobhkkjgplaaGreatDoor
open Go.RowKit
set_option linter.unusedSimpArgs false
set_option linter.unusedVariables false
def InvM (P:Program) (T:TypeId) (u:Addr) (name:String) (vs:List Value) (w:World) (R:Value→World→Prop):Prop:=
 ∃f r,(method (P.types.size+Made.depth) T (.pointer (some u)) name).run P w= .ok (f, .pointer (some r)) w∧bodyI P f=true∧Rets P f (.pointer (some r)::vs) w R
section
variable {P:Program} {o:Oper} {N:Nat} {K:Nat→Prop} {W w:World} {a:Act} {F:List (Nat×Value)} {L:List Asn}
theorem inv_run {T:TypeId} {u:Addr} {name:String} {f:FuncId} {r:Addr} {ro:Operand} {xs:List Operand} {tys:Array TypeId} {vs:List Value} (h:Fr N a F) (hm:(method (P.types.size+Made.depth) T (.pointer (some u)) name).run P w= .ok (f, .pointer (some r)) w) (hb:bodyI P f=true)
  (ho:o.op= .call ⟨.invoke ro name,xs.toArray,tys⟩) (hr:ev F ro=some (.iface T (.pointer (some u)))) (hx:evs F xs=some vs):(execOp a.eval o).run P w= .ok (.enter f (.pointer (some r)::vs).toArray) w:=by
 unfold execOp
 have hcm:(callMethod (.iface T (.pointer (some u))) name vs.toArray).run P w= .ok (.enter f (.pointer (some r)::vs).toArray) w:=by
  simp only [callMethod,Sem.run_bind,run_program,Result.andThen_ok,hm]
  rw [run_callFunc hb]
  simp
 simp [ho,resolve,h.ev hr,h.evs hx,invoke,hcm]
theorem x_inv2 {d:Nat} {T:TypeId} {u:Addr} {name:String} {ro:Operand} {xs:List Operand} {tys:Array TypeId} {vs:List Value} {R:Value→World→Prop} (h:St N K W a w F L) (ho:o.op= .call ⟨.invoke ro name,xs.toArray,tys⟩) (hr:ev F ro=some (.iface T (.pointer (some u))))
  (hx:evs F xs=some vs) (hd:o.dst=some d) (hdN:Nat.blt d N=true) (hc:InvM P T u name vs w R):Ex P o a w (fun a' w' =>∃v,R v w' ∧Fr N a' ((d,v)::F)):=by
 obtain ⟨f,r,hm,hb,hc⟩:=hc
 intro next Q hn
 unfold Oper.wp
 rw [inv_run h.fr hm hb ho hr hx]
 exact Calls.mono hc fun e w' ⟨v,he,hR⟩=>by subst he;exact hn _ _ ⟨v,hR,by rw [hd];exact h.fr.put d (by simpa [Nat.blt_eq] using hdN) v⟩
theorem wq_inv {ops:Array Oper} {rest:List Oper} {Q:Act→Prop} {d:Nat} {T:TypeId} {u:Addr} {name:String} {ro:Operand} {xs:List Operand} {tys:Array TypeId} {vs:List Value} {v:Value} (h:Fr N a F) (ho:o.op= .call ⟨.invoke ro name,xs.toArray,tys⟩) (hr:ev F ro=some (.iface T (.pointer (some u))))
  (hx:evs F xs=some vs) (hw:Region.wanted o (yielded ops a.tmps)=true) (hd:o.dst=some d) (hdN:Nat.blt d N=true) (hc:∀w,Sh K W w L→InvM P T u name vs w (fun v' w' =>v' =v∧Sh0 w w' []))
  (k:∀a',Fr N a' ((d,v)::F)→wpQuiet P ops (fun w=>Sh K W w L) Q rest a'):wpQuiet P ops (fun w=>Sh K W w L) Q (o::rest) a:=by
 unfold wpQuiet
 rw [if_pos hw]
 refine ⟨v,fun w hw=> ?_,k _ (by rw [hd];exact h.put d (by simpa [Nat.blt_eq] using hdN) v)⟩
 unfold Oper.quietAt
 obtain ⟨f,r,hm,hb,hc⟩:=hc w hw
 rw [inv_run h hm hb ho hr hx]
 refine ⟨rfl,Calls.mono hc fun e w' ⟨v',he,hv',hr⟩=> ?_⟩
 subst hv'
 exact ⟨he,hw.call0 hr⟩
theorem r_nilckI {x:Operand} {T:TypeId} {v:Value} (ho:o.op= .nilCheck x) (hx:ev F x=some (.iface T v)):Rn P o N K W F L (.iface T v):=fun a w h=>by unfold execOp;simp [ho,h.fr.ev hx]
end
structure MemS where
 σ:Type
 qs:σ→List (List Wt)
 X:σ→Asn
 T:TypeId
 u:Addr
 g0:Nat
 m:Int
structure MemRd (PL:TypeId) (M:MemS) (w:World) (words owner:Ls Int) (q:M.σ):Prop where
 blk:Blk w M.g0 PL #[words.v,owner.v]
 wa:words.At w
 oa:owner.At w
 x:(M.X q).ok w
def memA (PL INT:TypeId) (M:MemS) (words owner:Ls Int) (q:M.σ):List Asn:= [.blk M.g0 PL [words.v,owner.v], .own INT words, .own INT owner,M.X q]
def StoreP (M:MemS) (t:Nat) (x:Wt) (words owner:Ls Int) (q:M.σ) (words' owner' :Ls Int) (q' :M.σ):Prop:=
 ∃wt,M.qs q' =(M.qs q).set t wt∧∀pc regs prints fell,(⟨pc,regs,wt,words'.l,owner'.l,prints,fell⟩:TS)=TS.store M.m ⟨pc,regs,nth (M.qs q) t,words.l,owner.l,prints,fell⟩ x
def FlushP (M:MemS) (t k:Nat) (words owner:Ls Int) (q:M.σ) (words' owner' :Ls Int) (q' :M.σ):Prop:=
 ∃wt,M.qs q' =(M.qs q).set t wt∧∀pc regs prints fell,(⟨pc,regs,wt,words'.l,owner'.l,prints,fell⟩:TS)= { TS.done ⟨pc,regs,nth (M.qs q) t,words.l,owner.l,prints,fell⟩ (nth (nth (M.qs q) t) k) with wait:=(nth (M.qs q) t).eraseIdx k }
def SwapP (M:MemS) (wd what:Int) (words owner:Ls Int) (q:M.σ) (words' owner' :Ls Int) (q' :M.σ):Prop:=
 M.qs q' =M.qs q∧words'.l=words.l.set wd.toNat what∧owner'.l=owner.l
def WtOk (x:Wt) (words owner:Ls Int):Prop:=if x.lock=true then 0≤x.wh∧x.wh<owner.l.length else 0≤x.wh∧x.wh<words.l.length
structure MemI (P:Program) (PL INT:TypeId) (M:MemS):Prop where
 load:∀(w:World) (words owner:Ls Int) (q:M.σ) (t:Nat) (wd:Int),MemRd PL M w words owner q→t<(M.qs q).length→(nth (M.qs q) t).length≤3→0≤wd∧wd<words.l.length→
  InvM P M.T M.u "Load" [.int .i64 ((t:Nat):Int), .int .i64 wd] w (fun v w' =>v= .int .i64 (findsL (nth (M.qs q) t) words.l wd)∧Sh0 w w' [])
 waits:∀(w:World) (words owner:Ls Int) (q:M.σ) (t:Nat),MemRd PL M w words owner q→t<(M.qs q).length→(nth (M.qs q) t).length≤3→
  InvM P M.T M.u "Waits" [.int .i64 ((t:Nat):Int)] w (fun v w' =>v= .int .i64 (((nth (M.qs q) t).length:Nat):Int)∧Sh0 w w' [])
 freeing:∀(w:World) (words owner:Ls Int) (q:M.σ) (t:Nat) (a:Int),MemRd PL M w words owner q→t<(M.qs q).length→(nth (M.qs q) t).length≤3→(∀x∈nth (M.qs q) t,x.lock=true→x.what=0)→
  InvM P M.T M.u "Freeing" [.int .i64 ((t:Nat):Int), .int .i64 a] w (fun v w' =>v= .bool ((nth (M.qs q) t).any fun x=>x.lock&&decide (x.wh=a))∧Sh0 w w' [])
 ready:∀(w:World) (words owner:Ls Int) (q:M.σ) (t:Nat),MemRd PL M w words owner q→t<(M.qs q).length→(nth (M.qs q) t).length≤3→
  InvM P M.T M.u "Ready" [.int .i64 ((t:Nat):Int)] w (fun v w' =>∃s:Ls Int,v=s.v∧s.l=((List.range (nth (M.qs q) t).length).filter (mayK M.m (nth (M.qs q) t))).map (fun k=>((k:Nat):Int))∧Sh0 w w' [.own INT s])
 base:∀(w:World) (words owner:Ls Int) (q:M.σ),MemRd PL M w words owner q→InvM P M.T M.u "Base" [] w (fun v w' =>v= .pointer (some ⟨M.g0,0,none⟩)∧Sh0 w w' [])
 store:∀(K:Nat→Prop) (W:World) (words owner:Ls Int) (q:M.σ) (t:Nat) (wd what:Int),Sh K W W (memA PL INT M words owner q)→t<(M.qs q).length→(nth (M.qs q) t).length<3→0≤wd∧wd<words.l.length→
  InvM P M.T M.u "Store" [.int .i64 ((t:Nat):Int), .int .i64 wd, .int .i64 what] W (fun v w' =>v= .tuple #[]∧∃(words' owner' :Ls Int) (q' :M.σ),StoreP M t ⟨false,wd,what⟩ words owner q words' owner' q' ∧Sh K W w' (memA PL INT M words' owner' q'))
 free:∀(K:Nat→Prop) (W:World) (words owner:Ls Int) (q:M.σ) (t:Nat) (a:Int),Sh K W W (memA PL INT M words owner q)→t<(M.qs q).length→(nth (M.qs q) t).length<3→0≤a∧a<owner.l.length→
  InvM P M.T M.u "Free" [.int .i64 ((t:Nat):Int), .int .i64 a] W (fun v w' =>v= .tuple #[]∧∃(words' owner' :Ls Int) (q' :M.σ),StoreP M t ⟨true,a,0⟩ words owner q words' owner' q' ∧Sh K W w' (memA PL INT M words' owner' q'))
 swap:∀(K:Nat→Prop) (W:World) (words owner:Ls Int) (q:M.σ) (t:Nat) (wd what:Int),Sh K W W (memA PL INT M words owner q)→0≤wd∧wd<words.l.length→
  InvM P M.T M.u "Swap" [.int .i64 ((t:Nat):Int), .int .i64 wd, .int .i64 what] W (fun v w' =>v= .tuple #[]∧∃(words' owner' :Ls Int) (q' :M.σ),SwapP M wd what words owner q words' owner' q' ∧Sh K W w' (memA PL INT M words' owner' q'))
 flush:∀(K:Nat→Prop) (W:World) (words owner:Ls Int) (q:M.σ) (t k:Nat),Sh K W W (memA PL INT M words owner q)→t<(M.qs q).length→(nth (M.qs q) t).length≤3→k<(nth (M.qs q) t).length→(∀j,j<(nth (M.qs q) t).length→WtOk (nth (nth (M.qs q) t) j) words owner)→
  InvM P M.T M.u "Flush" [.int .i64 ((t:Nat):Int), .int .i64 ((k:Nat):Int)] W (fun v w' =>v= .tuple #[]∧∃(words' owner' :Ls Int) (q' :M.σ),FlushP M t k words owner q words' owner' q' ∧Sh K W w' (memA PL INT M words' owner' q'))
 xrd:∀q b,¬(M.X q).rd b
theorem rdX {P:Program} {PL INT:TypeId} {M:MemS} (h:MemI P PL INT M) {q:M.σ} {b:Nat} {C:Prop} (hb:(M.X q).rd b):C:=absurd hb (h.xrd q b)
end Go.Proofs.YtmjkobhkkjgplaaGreatDoor
