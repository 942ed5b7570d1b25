/- Small numbers of 64 bits without sign. It imports nothing of the dump. -/
import Derived.Test.YtmjkobhkkjgplaaGreatDoorS10
import Derived.Laws.Bits64b
namespace Go.Proofs.YtmjkobhkkjgplaaGreatDoor
open Go.RowKit
set_option linter.unusedSimpArgs false
set_option linter.unusedVariables false
section
variable {P:Program} {o:Oper} {N:Nat} {K:Nat→Prop} {W w:World} {F:List (Nat×Value)} {L:List Asn} {T U D:TypeId} {x y:Operand}
theorem r_cvUN {p:Nat} (hs:P.underlying T=some (.int .i64)) (hd:P.underlying D=some (.int .u64)) (ho:o.op= .convert T D x) (hx:ev F x=some (.int .i64 ((p:Nat):Int))) (hp:p<18446744073709551616):Rn P o N K W F L (.int .u64 ((p:Nat):Int)):=by
 have h:=r_cvU (P:=P) (N:=N) (K:=K) (W:=W) (L:=L) hs hd ho hx
 rwa [show toU ((p:Nat):Int)=p by unfold toU;omega] at h
theorem r_andS {p:Nat} (ho:o.op= .binOp .and T x y U) (hx:ev F x=some (.int .u64 ((p:Nat):Int))) (hy:ev F y=some (.int .u64 4294967295)) (hp:p<4294967296):Rn P o N K W F L (.int .u64 ((p:Nat):Int)):=r_bin ho hx hy fun w=>by
 rw [binOp_and]
 have h1:Op.intBits .and .u64 (p:Int) 4294967295=pure (.int .u64 (bits .and .u64 p 4294967295)):=rfl
 have h2:=bits_and_u64_nat p 4294967295 (by omega) (by omega)
 have e:p&&&4294967295=p:=by rw [show (4294967295:Nat)=2^32-1 from rfl,Nat.and_two_pow_sub_one_eq_mod];exact Nat.mod_eq_of_lt hp
 rw [h1,show (4294967295:Int)=((4294967295:Nat):Int) from rfl,h2,e];rfl
theorem r_shrS {p:Nat} (ho:o.op= .binOp .shr T x y U) (hx:ev F x=some (.int .u64 ((p:Nat):Int))) (hy:ev F y=some (.int .u64 32)) (hp:p<4294967296):Rn P o N K W F L (.int .u64 ((0:Nat):Int)):=by
 have h:=r_shrU (P:=P) (N:=N) (K:=K) (W:=W) (L:=L) (k:=32) ho hx hy (by decide)
 rwa [show p/2^32=0 from Nat.div_eq_of_lt hp] at h
theorem r_mulS {p q r:Nat} (ho:o.op= .binOp .mul T x y U) (hx:ev F x=some (.int .u64 ((p:Nat):Int))) (hy:ev F y=some (.int .u64 ((q:Nat):Int))) (hr:p*q=r) (hb:r<18446744073709551616):Rn P o N K W F L (.int .u64 ((r:Nat):Int)):=by
 have h:=r_mulU (P:=P) (N:=N) (K:=K) (W:=W) (L:=L) ho hx hy
 rwa [hr,Nat.mod_eq_of_lt hb] at h
theorem r_addS {p q r:Nat} (ho:o.op= .binOp .add T x y U) (hx:ev F x=some (.int .u64 ((p:Nat):Int))) (hy:ev F y=some (.int .u64 ((q:Nat):Int))) (hr:p+q=r) (hb:r<18446744073709551616):Rn P o N K W F L (.int .u64 ((r:Nat):Int)):=r_bin ho hx hy fun w=>by
 subst hr
 have:(((p:Nat):Int)+(q:Nat))%18446744073709551616=((p+q:Nat):Int):=by omega
 simp [go_sem,IntKind.wrap_u64,this]
end
end Go.Proofs.YtmjkobhkkjgplaaGreatDoor
