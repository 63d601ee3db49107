/- The walk of an address by rules, by the reference: Filter. -/
import Derived.Test.YtbhhgbgfaemfdaaGreatDoorD2
import Derived.Test.YtbhhgbgfaemfdaaGreatDoorCmpS
namespace Go.Proofs.YtbhhgbgfaemfdaaGreatDoor
open Lib renaming hid→z2g
set_option maxRecDepth 100000
set_option maxHeartbeats 3200000
open Go.RowKit
attribute [local go_sem] Oper.semAt_some
theorem zl9 (g:Nat) (P:Pol) (s:ByteArray) (w:World) (hr:RefV w g P) (hm:s.size<=1000000):Calls Tryz.prog 26 #[.pointer (some ⟨g,0,none⟩),.string s] w (Ret (zxj (zig P s.data.toList)) w):=by
 have hmx:Tryz.prog.follows .mixedOrders=true:=by kernel_rfl
 have HCl:=z2g (fun W=>zn5 s W (by omega))
 have HF:Hid (zig P s.data.toList=match zcm (zcn s.data.toList)with
  |some (n,r)=>if schR P n=true then some (n++58::r)else none
  |none=>if(P.rel&&zee (zcn s.data.toList))=true then some (zcn s.data.toList)else none):=rfl
 have hcl:(zcn s.data.toList).length<=1000000:=Nat.le_trans (zou _) (by rw[zap];exact hm)
 obtain⟨F,hF⟩: ∃F,zig P s.data.toList=F:=⟨_,rfl⟩
 obtain⟨C,hC⟩: ∃C,zcn s.data.toList=C:=⟨_,rfl⟩
 rw[hF,hC]at HF
 rw[hC]at HCl hcl
 rw[hF]
 have hxs:(⟨C.toArray⟩:ByteArray).size<=1000000:=by show C.toArray.size<=_;simpa using hcl
 have HSp:=z2g (fun W=>show Calls Tryz.prog 16 #[.string ⟨C.toArray⟩] W (Ret (zk9 ⟨C.toArray⟩ (zcm C)) W)from zh8 ⟨C.toArray⟩ W (by omega))
 have HLo:=z2g (fun W=>show Calls Tryz.prog 20 #[.string ⟨C.toArray⟩] W (Ret (.bool (zee C)) W)from znz ⟨C.toArray⟩ W (by omega))
 have HRl:=z2g hr
 obtain⟨v0,v1,v2,v3,v4,v5,hpv,hcx⟩:=hr
 have hcr:=hcx 6 _ rfl
 have hgl:=World.block_lt_of_cell? w _ hcr
 clear hF hC hm hpv hcx
 cases hs:zcm C with
 |some x=>
  obtain⟨n,r⟩:=x
  have hnb1:(⟨n.toArray⟩:ByteArray).size<=1000000:=by show n.toArray.size<=_;have:=(zea hs).1;simp at this ⊢;omega
  have hrb1:(⟨r.toArray⟩:ByteArray).size<=1000000:=by show r.toArray.size<=_;have:=(zea hs).2;simp at this ⊢;omega
  have HSq:=z2g (fun W=>show Calls Tryz.prog 16 #[.string ⟨C.toArray⟩] W (Ret (.tuple #[.string ⟨n.toArray⟩,.string ⟨r.toArray⟩,.bool true]) W)from(by have h9:=HSp.out W;rw[hs]at h9;exact h9))
  have HSc:=z2g (fun W (hb:Below w.heap.size w W)=>show Calls Tryz.prog 54 #[.pointer (some ⟨g,0,none⟩),.string ⟨n.toArray⟩] W _ from znx g P n W (HRl.out.below hb))
  rw[hs]at HF
  have HF2:Hid (F=if schR P n=true then some (n++58::r)else none):=HF.out
  have HV:=z2g (zov n r)
  clear HF hs HSp hcl hxs hcr
  obtain⟨D,hD⟩: ∃D,schR P n=D:=⟨_,rfl⟩
  rw[hD]at HF2 HSc
  clear hD
  generalize hx:(⟨C.toArray⟩:ByteArray)=x at*
  generalize hnb:(⟨n.toArray⟩:ByteArray)=nb at*
  generalize hrb:(⟨r.toArray⟩:ByteArray)=rb at*
  clear hx hnb hrb
  cases D with
  |true=>
   have HR:Hid (F=some (n++58::r)):=HF2.out
   go_enter Tryz.func26,Tryz.ntmps26
   go_wp2_with(first
    |(go_at_call 18;(with_reducible refine(HCl.out _).mono ?_);rintro e V1 ⟨rfl,Y1,rfl⟩)
    |(go_at_call 16;(with_reducible refine(Ret.flat (HSq.out _)).mono ?_);rintro e V2 ⟨rfl,Y2,rfl⟩)
    |(go_at_call 54;(with_reducible refine(Ret.flat (HSc.out _ bel)).mono ?_);rintro e V3 ⟨rfl,Y3,rfl⟩))
   go_ret2
   exact Ret.of (by rw[HR.out];show _=Value.tuple #[.string ⟨(n++58::r).toArray⟩,.bool true];rw[<-HV.out];rfl) bel
  |false=>
   have HR:Hid (F=none):=HF2.out
   go_enter Tryz.func26,Tryz.ntmps26
   go_wp2_with(first
    |(go_at_call 18;(with_reducible refine(HCl.out _).mono ?_);rintro e V1 ⟨rfl,Y1,rfl⟩)
    |(go_at_call 16;(with_reducible refine(Ret.flat (HSq.out _)).mono ?_);rintro e V2 ⟨rfl,Y2,rfl⟩)
    |(go_at_call 54;(with_reducible refine(Ret.flat (HSc.out _ bel)).mono ?_);rintro e V3 ⟨rfl,Y3,rfl⟩))
   go_ret2
   exact Ret.of (by rw[HR.out];rfl) bel
 |none=>
  have HSq:=z2g (fun W=>show Calls Tryz.prog 16 #[.string ⟨C.toArray⟩] W (Ret (.tuple #[.string ⟨#[]⟩,.string ⟨C.toArray⟩,.bool false]) W)from(by have h9:=HSp.out W;rw[hs]at h9;exact h9))
  rw[hs]at HF
  have HF2:Hid (F=if(P.rel&&zee C)=true then some C else none):=HF.out
  have HFV:Hid (zxj (some C)= .tuple #[.string ⟨C.toArray⟩,.bool true]):=rfl
  clear HF hs HSp hcl hxs
  generalize P.rel=D at*
  generalize zee C=E at*
  generalize(⟨C.toArray⟩:ByteArray)=x at*
  cases D<;>cases E
  all_goals
   have HR:=z2g HF2.out
   clear HF2
   go_enter Tryz.func26,Tryz.ntmps26
   go_wp2_with(first
    |(go_at_call 18;(with_reducible refine(HCl.out _).mono ?_);rintro e V1 ⟨rfl,Y1,rfl⟩)
    |(go_at_call 16;(with_reducible refine(Ret.flat (HSq.out _)).mono ?_);rintro e V2 ⟨rfl,Y2,rfl⟩)
    |(go_at_call 20;(with_reducible refine(Ret.flat (HLo.out _)).mono ?_);rintro e V4 ⟨rfl,Y4,rfl⟩))
   go_ret2
   exact Ret.of (by rw[HR.out];first|rfl|(simp only[Bool.and_self,if_true];rw[HFV.out];rfl)) bel
end Go.Proofs.YtbhhgbgfaemfdaaGreatDoor

