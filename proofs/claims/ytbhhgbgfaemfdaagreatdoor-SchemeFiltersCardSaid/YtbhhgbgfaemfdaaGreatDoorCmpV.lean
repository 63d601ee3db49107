/- The walk of the reference's Parse of chapter 10: the rules of a text. -/
import Derived.BigRegion
import Derived.Test.YtbhhgbgfaemfdaaGreatDoorCmpT
import Derived.Test.YtbhhgbgfaemfdaaGreatDoorCmpM
import Derived.Test.YtbhhgbgfaemfdaaGreatDoorRfH
namespace Go.Proofs.YtbhhgbgfaemfdaaGreatDoor
open Lib renaming hid→z2g
set_option maxRecDepth 100000
set_option maxHeartbeats 4000000
open Go.RowKit
attribute [local go_sem] Oper.semAt_some
theorem zsx {s:Bs} {f:Flt} (h:zbf s= .error f) (W:World):Calls Tryz.prog 24 #[.string ⟨s.toArray⟩] W fun e w'=>e= .returned (.tuple #[.pointer none,.int .i64 f.at_,.int .i64 f.code])/\Below W.heap.size W w':=by
 have hmx:Tryz.prog.follows .mixedOrders=true:=by kernel_rfl
 have HP:=z2g (fun W=>(zlg s W).mono (R':=fun e w'=>e= .returned (.tuple #[zd0,.int .i64 f.at_,.int .i64 f.code])/\Below W.heap.size W w') (fun e w' h9=>by
  unfold zce zyn at h9
  rw[h]at h9
  exact⟨h9.2,h9.1⟩))
 have hc:f.code≠0:=zln h
 have b1:((f.code:Int) !=0)=true:=by simp;omega
 generalize f.code=c at*
 generalize f.at_=a at*
 clear h hc
 generalize(⟨s.toArray⟩:ByteArray)=x at*
 unfold zd0 at HP
 go_enter Tryz.func24,Tryz.ntmps24
 go_wp2_with(go_at_call 52;(with_reducible refine(HP.out _).mono ?_);rintro e W1 ⟨rfl,hb1⟩;have HB1:=z2g hb1;clear hb1)
 go_ret3
 exact⟨rfl,HB1.out.trans ((bel:Below W1.heap.size W1 _).mono HB1.out.size)⟩
theorem zn4 {s:Bs} {P:Pol} (hP:zbf s= .ok P) (W:World):Calls Tryz.prog 24 #[.string ⟨s.toArray⟩] W fun e w'=>Below W.heap.size W w'/\((newR P≠0/\e= .returned (.tuple #[.pointer none,.int .i64 s.length,.int .i64 (newR P:Nat)]))\/(newR P=0/\ ∃g,e= .returned (.tuple #[.pointer (some ⟨g,0,none⟩),.int .i64 0,.int .i64 0])/\RefV w' g P)):=by
 have hmx:Tryz.prog.follows .mixedOrders=true:=by kernel_rfl
 have HP:=z2g (fun W=>(zlg s W).mono (R':=fun e w'=>Below W.heap.size W w'/\ ∃v,e= .returned (.tuple #[v,.int .i64 0,.int .i64 0])/\PolV w' (fun _=>False) v P) (fun e w' h9=>by
  unfold zce zyn at h9
  rw[hP]at h9
  obtain⟨h1,v,h2,h3⟩:=h9
  exact⟨h1,v,h2,h3.mono (fun _ _ h=>h.elim)⟩))
 have hbk:zdz P 1048576:=(zrp hP).mono (by omega)
 have HN:=z2g (fun W v (hv:PolV W (fun _=>False) v P)=>zzc v P W hv hbk.sm hbk.tx)
 have hlen:(⟨s.toArray⟩:ByteArray).size=s.length:=by show s.toArray.size=_;simp
 obtain⟨R,hR⟩: ∃R,newR P=R:=⟨_,rfl⟩
 have HR:=z2g hR
 rw[<-hlen,hR]
 clear hlen hR hbk hP
 generalize(⟨s.toArray⟩:ByteArray)=x at*
 go_enter Tryz.func24,Tryz.ntmps24
 go_upto_region 2 with(go_at_call 52;(with_reducible refine(HP.out _).mono ?_);rintro e W1 ⟨hb1,v1,rfl,hv1⟩;have HB1:=z2g hb1;have HV1:=z2g hv1;obtain⟨u0,u1,u2,u3,u4,u5,rfl,⟨A0,k0,rfl,_⟩,⟨A1,k1,rfl,_⟩,⟨A2,k2,rfl,_⟩,⟨A3,k3,rfl,_⟩,⟨A4,k4,rfl,_⟩,⟨A5,k5,rfl,_⟩⟩:=hv1;clear hb1)
 refine zaf fun V1 hV1=> ?_
 obtain⟨B,hB⟩: ∃B,W1.heap.size=B:=⟨_,rfl⟩
 have hw1:Below W1.heap.size W1 V1:=by rw[hV1];exact bel
 have c0:V1.cell? ⟨B,0,none⟩=some (.slice A0 (fN P 0) k0):=by rw[hV1,<-hB];simp[go_sem]
 have c1:V1.cell? ⟨B,1,none⟩=some (.slice A1 (fN P 1) k1):=by rw[hV1,<-hB];simp[go_sem]
 have c2:V1.cell? ⟨B,2,none⟩=some (.slice A2 (fN P 2) k2):=by rw[hV1,<-hB];simp[go_sem]
 have c3:V1.cell? ⟨B,3,none⟩=some (.slice A3 (fN P 3) k3):=by rw[hV1,<-hB];simp[go_sem]
 have c4:V1.cell? ⟨B,4,none⟩=some (.slice A4 (fN P 4) k4):=by rw[hV1,<-hB];simp[go_sem]
 have c5:V1.cell? ⟨B,5,none⟩=some (.slice A5 (fN P 5) k5):=by rw[hV1,<-hB];simp[go_sem]
 have c6:V1.cell? ⟨B,6,none⟩=some (.bool P.rel):=by rw[hV1,<-hB];simp[go_sem]
 have c7:V1.cell? ⟨B,7,none⟩=some (.int .i64 P.depth):=by rw[hV1,<-hB];simp[go_sem]
 have c8:V1.cell? ⟨B,8,none⟩=some (.int .i64 P.name):=by rw[hV1,<-hB];simp[go_sem]
 have c9:V1.cell? ⟨B,9,none⟩=some (.int .i64 P.value):=by rw[hV1,<-hB];simp[go_sem]
 have HV:=z2g (HV1.out.below hw1)
 have HA:=z2g (HB1.out.trans (hw1.mono HB1.out.size))
 have hBl:B<V1.heap.size:=World.block_lt_of_cell? V1 _ c0
 have HN1:=z2g (HN.out V1 _ HV.out)
 have hgW:=HA.out.size
 rw[hB]
 clear hV1 hw1 HB1 HV1 HN HV
 by_cases hz:R=0
 ·have HN2:=z2g (HN1.out.mono (R':=fun e w'=> ∃g,e= .returned (.tuple #[.pointer (some ⟨g,0,none⟩),.int .i64 0])/\Below V1.heap.size V1 w'/\RefV w' g P) (fun e w' h=>by
   obtain⟨h1,h2⟩:=h
   rcases h2 with⟨h2,_⟩|⟨_,g,h3,h5⟩
   ·exact absurd (HR.out.trans hz) h2
   ·exact⟨g,h3,h1,h5⟩))
  clear HN1
  go_wp2_with(go_at_call 53;(with_reducible refine(HN2.out).mono ?_);rintro e W2 ⟨g,rfl,hb2,hr2⟩;have HB2:=z2g hb2;have HR2:=z2g hr2;clear hb2 hr2)
  go_ret3
  exact⟨HA.out.trans (HB2.out.mono hgW),.inr ⟨hz,g,rfl,HR2.out⟩⟩
 ·have b1:((R:Int) !=0)=true:=by simp;omega
  have HN2:=z2g (HN1.out.mono (R':=fun e w'=>e= .returned (.tuple #[.pointer none,.int .i64 (R:Nat)])/\Below V1.heap.size V1 w') (fun e w' h=>by
   obtain⟨h1,h2⟩:=h
   rcases h2 with⟨_,h2⟩|⟨h2,_⟩
   ·rw[HR.out]at h2;exact⟨h2,h1⟩
   ·exact absurd (HR.out.symm.trans h2) hz))
  clear HN1
  go_wp2_with(go_at_call 53;(with_reducible refine(HN2.out).mono ?_);rintro e W2 ⟨rfl,hb2⟩;have HB2:=z2g hb2;clear hb2)
  go_ret3
  exact⟨HA.out.trans (HB2.out.mono hgW),.inl ⟨hz,rfl⟩⟩
theorem zzf {s:Bs} {P:Pol} (h:zhf s= .ok P) (W:World):Calls Tryz.prog 24 #[.string ⟨s.toArray⟩] W fun e w'=> ∃g,e= .returned (.tuple #[.pointer (some ⟨g,0,none⟩),.int .i64 0,.int .i64 0])/\Below W.heap.size W w'/\RefV w' g P:=by
 cases hp:zbf s with
 |error f=>unfold zhf at h;rw[hp]at h;cases h
 |ok p=>
  have h2:=zkb hp
  rw[h]at h2
  by_cases hz:newR p=0
  ·rw[if_pos hz]at h2
   cases h2
   refine(zn4 hp W).mono fun e w' ⟨h1,h3⟩=> ?_
   rcases h3 with⟨h3,_⟩|⟨_,g,h4,h5⟩
   ·exact absurd hz h3
   ·exact⟨g,h4,h1,h5⟩
  ·rw[if_neg hz]at h2;cases h2
theorem zv9 {s:Bs} {a c:Nat} (h:zhf s= .error ⟨a,c⟩) (W:World):Calls Tryz.prog 24 #[.string ⟨s.toArray⟩] W fun e w'=>e= .returned (.tuple #[.pointer none,.int .i64 a,.int .i64 c])/\Below W.heap.size W w':=by
 cases hp:zbf s with
 |error f=>
  unfold zhf at h
  rw[hp]at h
  cases h
  exact zsx hp W
 |ok p=>
  have h2:=zkb hp
  rw[h]at h2
  by_cases hz:newR p=0
  ·rw[if_pos hz]at h2;cases h2
  ·rw[if_neg hz]at h2
   cases h2
   refine(zn4 hp W).mono fun e w' ⟨h1,h3⟩=> ?_
   rcases h3 with⟨_,h3⟩|⟨h3,_⟩
   ·exact⟨h3,h1⟩
   ·exact absurd h3 hz
end Go.Proofs.YtbhhgbgfaemfdaaGreatDoor

