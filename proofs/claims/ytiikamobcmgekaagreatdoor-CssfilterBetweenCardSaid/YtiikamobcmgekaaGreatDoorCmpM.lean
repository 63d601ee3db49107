/- The walks of Parse, and of awake of chapter 10. (written by gen_m.py) -/
import Derived.Test.YtiikamobcmgekaaGreatDoorCmpK
import Derived.Test.YtiikamobcmgekaaGreatDoorC3
import Derived.Test.YtiikamobcmgekaaGreatDoorRG
namespace Go.Proofs.YtiikamobcmgekaaGreatDoor
set_option maxRecDepth 100000
set_option maxHeartbeats 6400000
open Go.RowKit
attribute [local go_sem] Oper.semAt_some
def CompP (_s:Bs) (a c:Nat) (P:Pol) (W:World) (e:Ending) (w':World):Prop:=Below W.heap.size W w'/\((c≠0/\e= .returned (.tuple #[.pointer none,.int .i64 a,.int .i64 c]))\/(c=0/\ ∃g,e= .returned (.tuple #[.pointer (some ⟨g,0,none⟩),.int .i64 0,.int .i64 0])/\W.heap.size<=g/\RulesV w' g P))
structure CompG (s:Bs) (a c:Nat) (P:Pol):Prop where
 run: ∀W,Calls Tryz.prog 8 #[.string ⟨s.toArray⟩] W (CompP s a c P W)
 says:(c=0/\a=0/\compR s= .ok P/\rightP P=true)\/(c≠0/\a<=s.length/\compR s= .error ⟨a,c⟩)
theorem comp_gen (s:Bs): ∃a c P,CompG s a c P:=by
 have hmx:=mxd
 obtain⟨a,c,P,G⟩:=parse_gen s
 have HP:=Lib.hid (fun W=>show Calls Tryz.prog 20 #[.string ⟨s.toArray⟩] W _ from G.run W)
 have hlen:(⟨s.toArray⟩:ByteArray).size=s.length:=by show s.toArray.size=_;simp
 by_cases hc:c=0
 rotate_left
 ·refine⟨a,c,P,fun W=> ?_, ?_⟩
  ·have b1:((c:Int) !=0)=true:=by simp;omega
   clear hlen
   generalize(⟨s.toArray⟩:ByteArray)=x at*
   go_enter Tryz.func8,Tryz.ntmps8
   go_wp2_with(go_at_call 20;(with_reducible refine(HP.out _).mono ?_);rintro e W1 ⟨hb1,v1,rfl,hv1⟩;have HB1:=Lib.hid hb1;have HV1:=Lib.hid hv1;obtain⟨u0,u1,u2,u3,u4,u5,rfl,⟨A0,k0,rfl,_⟩,⟨A1,k1,rfl,_⟩,⟨A2,k2,rfl,_⟩,⟨A3,k3,rfl,_⟩,⟨A4,k4,rfl,_⟩,⟨A5,k5,rfl,_⟩⟩:=hv1;clear hb1)
   go_ret3
   exact⟨HB1.out.trans ((bel:Below W1.heap.size W1 _).mono HB1.out.size),.inl ⟨hc,rfl⟩⟩
  ·rcases G.says with⟨h1,_⟩|⟨h1,h2,h3,h4⟩
   ·exact absurd h1 hc
   ·exact .inr ⟨h1,h3,by unfold compR;rw[h4]⟩
 ·obtain⟨hP,ha⟩:parsePl s= .ok P/\a=0:=by
   rcases G.says with⟨_,h1,h2⟩|⟨h1,_⟩
   ·exact⟨h2,h1⟩
   ·exact absurd hc h1
  have hr:rightP P=true:=parse_right hP
  have hbk:PolBk P 1048576:=G.bk.mono (by omega)
  have HN:=Lib.hid (fun W v (hv:PolV W (fun _=>False) v P)=>new_any v P W hv (fun W' hb=>right_any v P W' (hv.below hb) hbk.sm hbk.tx))
  have hq:newR P=wrongR P:=by unfold newR;rw[if_pos hr]
  obtain⟨R,hR⟩: ∃R,newR P=R:=⟨_,rfl⟩
  have hcr:compR s=if R=0 then .ok P else .error ⟨s.length,R⟩:=by rw[<-hR];exact compR_new hP
  have key: ∀W,Calls Tryz.prog 8 #[.string ⟨s.toArray⟩] W (CompP s s.length R P W):=by
   intro W
   have HR:=Lib.hid hR
   clear hcr hq hbk hr hP hR G ha
   rw[<-hlen]
   clear hlen
   generalize(⟨s.toArray⟩:ByteArray)=x at*
   subst hc
   go_enter Tryz.func8,Tryz.ntmps8
   go_upto_region 2 with(go_at_call 20;(with_reducible refine(HP.out _).mono ?_);rintro e W1 ⟨hb1,v1,rfl,hv1⟩;have HB1:=Lib.hid hb1;have HV1:=Lib.hid hv1;obtain⟨u0,u1,u2,u3,u4,u5,rfl,⟨A0,k0,rfl,_⟩,⟨A1,k1,rfl,_⟩,⟨A2,k2,rfl,_⟩,⟨A3,k3,rfl,_⟩,⟨A4,k4,rfl,_⟩,⟨A5,k5,rfl,_⟩⟩:=hv1;clear hb1)
   refine name_world fun V1 hV1=> ?_
   obtain⟨B,hB⟩: ∃B,W1.heap.size=B:=⟨_,rfl⟩
   have hw1:Below W1.heap.size W1 V1:=by rw[hV1];exact bel
   have c0:V1.cell? ⟨B,0,none⟩=some (.slice A0 (fN P 0) k0):=by rw[hV1,<-hB];simp[go_sem]
   have c1:V1.cell? ⟨B,1,none⟩=some (.slice A1 (fN P 1) k1):=by rw[hV1,<-hB];simp[go_sem]
   have c2:V1.cell? ⟨B,2,none⟩=some (.slice A2 (fN P 2) k2):=by rw[hV1,<-hB];simp[go_sem]
   have c3:V1.cell? ⟨B,3,none⟩=some (.slice A3 (fN P 3) k3):=by rw[hV1,<-hB];simp[go_sem]
   have c4:V1.cell? ⟨B,4,none⟩=some (.slice A4 (fN P 4) k4):=by rw[hV1,<-hB];simp[go_sem]
   have c5:V1.cell? ⟨B,5,none⟩=some (.slice A5 (fN P 5) k5):=by rw[hV1,<-hB];simp[go_sem]
   have c6:V1.cell? ⟨B,6,none⟩=some (.bool P.rel):=by rw[hV1,<-hB];simp[go_sem]
   have c7:V1.cell? ⟨B,7,none⟩=some (.int .i64 P.depth):=by rw[hV1,<-hB];simp[go_sem]
   have c8:V1.cell? ⟨B,8,none⟩=some (.int .i64 P.name):=by rw[hV1,<-hB];simp[go_sem]
   have c9:V1.cell? ⟨B,9,none⟩=some (.int .i64 P.value):=by rw[hV1,<-hB];simp[go_sem]
   have HV:=Lib.hid ((HV1.out.below hw1).mono (bad':=fun _=>False) (fun _ _ h=>h.elim))
   have HA:=Lib.hid (HB1.out.trans (hw1.mono HB1.out.size))
   have hBl:B<V1.heap.size:=World.block_lt_of_cell? V1 _ c0
   have HN1:=Lib.hid (HN.out V1 _ HV.out)
   have hgW:=HA.out.size
   rw[hB]
   clear hV1 hw1 HB1 HV1 HN HV
   by_cases hz:R=0
   ·have b1:((R:Int) !=0)=false:=by rw[hz];rfl
    have HN2:=Lib.hid (HN1.out.mono (R':=fun e w'=> ∃g,e= .returned (.tuple #[.pointer (some ⟨g,0,none⟩),.int .i64 0])/\Below V1.heap.size V1 w'/\V1.heap.size<=g/\RulesV w' g P) (fun e w' h=>by
     obtain⟨h1,h2⟩:=h
     rcases h2 with⟨h2,_⟩|⟨_,g,h3,h4,h5⟩
     ·exact absurd (HR.out.trans hz) h2
     ·exact⟨g,h3,h1,h4,h5⟩))
    clear HN1
    go_wp2_with(go_at_call 21;(with_reducible refine(HN2.out).mono ?_);rintro e W2 ⟨g,rfl,hb2,hg2,hr2⟩;have HB2:=Lib.hid hb2;have HG2:=Lib.hid hg2;have HR2:=Lib.hid hr2;clear hb2 hg2 hr2)
    go_ret3
    exact⟨HA.out.trans (HB2.out.mono hgW),.inr ⟨hz,g,rfl,Nat.le_trans hgW HG2.out,HR2.out⟩⟩
   ·have b1:((R:Int) !=0)=true:=by simp;omega
    have HN2:=Lib.hid (HN1.out.mono (R':=fun e w'=>e= .returned (.tuple #[.pointer none,.int .i64 R])/\Below V1.heap.size V1 w') (fun e w' h=>by
     obtain⟨h1,h2⟩:=h
     rcases h2 with⟨_,h2⟩|⟨h2,_⟩
     ·rw[HR.out]at h2;exact⟨h2,h1⟩
     ·exact absurd (HR.out.symm.trans h2) hz))
    clear HN1
    go_wp2_with(go_at_call 21;(with_reducible refine(HN2.out).mono ?_);rintro e W2 ⟨rfl,hb2⟩;have HB2:=Lib.hid hb2;clear hb2)
    go_ret3
    exact⟨HA.out.trans (HB2.out.mono hgW),.inl ⟨hz,rfl⟩⟩
  by_cases hz:R=0
  ·refine⟨0,0,P,fun W=>(key W).mono fun e w' h=> ?_,.inl ⟨rfl,rfl,by rw[hcr,if_pos hz],hr⟩⟩
   rw[hz]at h
   obtain⟨h1,h2⟩:=h
   rcases h2 with⟨h2,_⟩|h2
   ·exact absurd rfl h2
   ·exact⟨h1,.inr h2⟩
  ·exact⟨s.length,R,P,key,.inr ⟨hz,Nat.le_refl _,by rw[hcr,if_neg hz]⟩⟩
theorem comp_ok {s:Bs} {P:Pol} (h:compR s= .ok P): ∀W,Calls Tryz.prog 8 #[.string ⟨s.toArray⟩] W fun e w'=> ∃g,e= .returned (.tuple #[.pointer (some ⟨g,0,none⟩),.int .i64 0,.int .i64 0])/\Below W.heap.size W w'/\RulesV w' g P:=by
 intro W
 obtain⟨a,c,P',G⟩:=comp_gen s
 refine(G.run W).mono fun e w' h'=> ?_
 rcases G.says with⟨_,_,h2,_⟩|⟨_,_,h2⟩
 ·rw[h]at h2
  cases h2
  rcases h' with⟨h1,⟨h3,_⟩|⟨_,g,h3,_,h4⟩⟩
  ·contradiction
  ·exact⟨g,h3,h1,h4⟩
 ·rw[h]at h2;cases h2
end Go.Proofs.YtiikamobcmgekaaGreatDoor

