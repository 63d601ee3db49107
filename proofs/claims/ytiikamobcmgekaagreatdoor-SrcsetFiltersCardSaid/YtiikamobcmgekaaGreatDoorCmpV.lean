/- The walk of the reference's Parse of chapter 10: the rules of a text. -/
import Derived.BigRegion
import Derived.Test.YtiikamobcmgekaaGreatDoorRfH
import Derived.Test.YtiikamobcmgekaaGreatDoorC3
import Derived.Test.YtiikamobcmgekaaGreatDoorRG
import Derived.Test.YtiikamobcmgekaaGreatDoorCmpK
import Derived.Test.YtiikamobcmgekaaGreatDoorCmpR
namespace Go.Proofs.YtiikamobcmgekaaGreatDoor
open Lib renaming hid→z2c
open Go.Proofs.Tryz renaming prog→z2f
set_option maxRecDepth 100000
set_option maxHeartbeats 6400000
open Go.RowKit
attribute [local go_sem] Oper.semAt_some
theorem zof (g:Nat) (p:Pol) (t:Bs) (w:World) (h:RefV w g p):Calls z2f 79 #[.pointer (some ⟨g,0,none⟩),sv t] w (Ret (.bool (schR p t)) w):=by
 obtain⟨v0,v1,v2,v3,v4,v5,⟨_,_,_,_,_,_,e,⟨A0,k0,rfl,_,h0,_⟩,⟨A1,k1,rfl,_,h1,_⟩,⟨A2,k2,rfl,_,h2,_⟩,⟨A3,k3,rfl,_,h3,_⟩,_,_⟩,hc⟩:=h;cases e;have x:=hc 1 _ rfl;have hl:=World.block_lt_of_cell? w _ x;have HI:=z2c (show Calls z2f 63 #[sv t,.slice A1 (fN p 1) k1] w (Ret (.bool (schR p t)) w)from zjz t _ p.schemes w h1);generalize schR p t=T at*;generalize sv t=s at*;clear hc h0 h1 h2 h3;go_enter Tryz.func79,Tryz.ntmps79;go_wp2_with(go_at_call 63;(with_reducible refine HI.out.mono ?_);rintro e W1 ⟨rfl,X1,rfl⟩)
 go_ret;exact Ret.of rfl bel
def CompP (_s:Bs) (a c:Nat) (P:Pol) (W:World) (e:Ending) (w':World):Prop:=Below W.heap.size W w'/\((c≠0/\e= .returned (.tuple #[.pointer none,.int .i64 a,.int .i64 c]))\/(c=0/\ ∃g,e= .returned (.tuple #[.pointer (some ⟨g,0,none⟩),.int .i64 0,.int .i64 0])/\W.heap.size<=g/\zdh w' g P))
structure CompG (s:Bs) (a c:Nat) (P:Pol):Prop where
 run: ∀W,Calls z2f 8 #[.string ⟨s.toArray⟩] W (CompP s a c P W)
 says:(c=0/\a=0/\ziq s= .ok P/\zco P=true)\/(c≠0/\a<=s.length/\ziq s= .error ⟨a,c⟩)
theorem z0m (s:Bs): ∃a c P,CompG s a c P:=by
 have hmx:=mxd;obtain⟨a,c,P,G⟩:=zxf s;have HP:=z2c (fun W=>show Calls z2f 20 #[.string ⟨s.toArray⟩] W _ from G.run W);have hlen:(⟨s.toArray⟩:ByteArray).size=s.length:=by show s.toArray.size=_;simp
 by_cases hc:c=0;rotate_left
 ·refine⟨a,c,P,fun W=> ?_, ?_⟩
  ·have b1:((c:Int) !=0)=true:=by simp;omega
   clear hlen;generalize(⟨s.toArray⟩:ByteArray)=x at*;go_enter Tryz.func8,Tryz.ntmps8;go_wp2_with(go_at_call 20;(with_reducible refine(HP.out _).mono ?_);rintro e W1 ⟨hb1,v1,rfl,hv1⟩;have HB1:=z2c hb1;have HV1:=z2c hv1;obtain⟨u0,u1,u2,u3,u4,u5,rfl,⟨A0,k0,rfl,_⟩,⟨A1,k1,rfl,_⟩,⟨A2,k2,rfl,_⟩,⟨A3,k3,rfl,_⟩,⟨A4,k4,rfl,_⟩,⟨A5,k5,rfl,_⟩⟩:=hv1;clear hb1)
   go_ret3
   exact⟨HB1.out.trans ((bel:Below W1.heap.size W1 _).mono HB1.out.size),.inl ⟨hc,rfl⟩⟩
  ·rcases G.says with⟨h1,_⟩|⟨h1,h2,h3,h4⟩
   ·exact absurd h1 hc
   ·exact .inr ⟨h1,h3,by unfold ziq;rw[h4]⟩
 ·obtain⟨hP,ha⟩:zbb s= .ok P/\a=0:=by
   rcases G.says with⟨_,h1,h2⟩|⟨h1,_⟩
   ·exact⟨h2,h1⟩
   ·exact absurd hc h1
  have hr:zco P=true:=zgv hP;have hbk:zis P 1048576:=G.bk.mono (by omega);have HN:=z2c (fun W v (hv:PolV W (fun _=>False) v P)=>z1v v P W hv (fun W' hb=>zwz v P W' (hv.below hb) hbk.sm hbk.tx));have hq:newR P=zfr P:=by unfold newR;rw[if_pos hr]
  obtain⟨R,hR⟩: ∃R,newR P=R:=⟨_,rfl⟩;have hcr:ziq s=if R=0 then .ok P else .error ⟨s.length,R⟩:=by rw[<-hR];exact zko hP
  have key: ∀W,Calls z2f 8 #[.string ⟨s.toArray⟩] W (CompP s s.length R P W):=by
   intro W;have HR:=z2c hR;clear hcr hq hbk hr hP hR G ha;rw[<-hlen];clear hlen;generalize(⟨s.toArray⟩:ByteArray)=x at*;subst hc;go_enter Tryz.func8,Tryz.ntmps8;go_upto_region 2 with(go_at_call 20;(with_reducible refine(HP.out _).mono ?_);rintro e W1 ⟨hb1,v1,rfl,hv1⟩;have HB1:=z2c hb1;have HV1:=z2c hv1;obtain⟨u0,u1,u2,u3,u4,u5,rfl,⟨A0,k0,rfl,_⟩,⟨A1,k1,rfl,_⟩,⟨A2,k2,rfl,_⟩,⟨A3,k3,rfl,_⟩,⟨A4,k4,rfl,_⟩,⟨A5,k5,rfl,_⟩⟩:=hv1;clear hb1)
   refine zae fun V1 hV1=> ?_;obtain⟨B,hB⟩: ∃B,W1.heap.size=B:=⟨_,rfl⟩;have hw1:Below W1.heap.size W1 V1:=by rw[hV1];exact bel
   have c0:V1.cell? ⟨B,0,none⟩=some (.slice A0 (fN P 0) k0):=by rw[hV1,<-hB];simp[go_sem]
   have c1:V1.cell? ⟨B,1,none⟩=some (.slice A1 (fN P 1) k1):=by rw[hV1,<-hB];simp[go_sem]
   have c2:V1.cell? ⟨B,2,none⟩=some (.slice A2 (fN P 2) k2):=by rw[hV1,<-hB];simp[go_sem]
   have c3:V1.cell? ⟨B,3,none⟩=some (.slice A3 (fN P 3) k3):=by rw[hV1,<-hB];simp[go_sem]
   have c4:V1.cell? ⟨B,4,none⟩=some (.slice A4 (fN P 4) k4):=by rw[hV1,<-hB];simp[go_sem]
   have c5:V1.cell? ⟨B,5,none⟩=some (.slice A5 (fN P 5) k5):=by rw[hV1,<-hB];simp[go_sem]
   have c6:V1.cell? ⟨B,6,none⟩=some (.bool P.rel):=by rw[hV1,<-hB];simp[go_sem]
   have c7:V1.cell? ⟨B,7,none⟩=some (.int .i64 P.depth):=by rw[hV1,<-hB];simp[go_sem]
   have c8:V1.cell? ⟨B,8,none⟩=some (.int .i64 P.name):=by rw[hV1,<-hB];simp[go_sem]
   have c9:V1.cell? ⟨B,9,none⟩=some (.int .i64 P.value):=by rw[hV1,<-hB];simp[go_sem]
   have HV:=z2c ((HV1.out.below hw1).mono (bad':=fun _=>False) (fun _ _ h=>h.elim));have HA:=z2c (HB1.out.trans (hw1.mono HB1.out.size));have hBl:B<V1.heap.size:=World.block_lt_of_cell? V1 _ c0;have HN1:=z2c (HN.out V1 _ HV.out);have hgW:=HA.out.size;rw[hB];clear hV1 hw1 HB1 HV1 HN HV;by_cases hz:R=0
   ·have b1:((R:Int) !=0)=false:=by rw[hz];rfl
    have HN2:=z2c (HN1.out.mono (R':=fun e w'=> ∃g,e= .returned (.tuple #[.pointer (some ⟨g,0,none⟩),.int .i64 0])/\Below V1.heap.size V1 w'/\V1.heap.size<=g/\zdh w' g P) (fun e w' h=>by
     obtain⟨h1,h2⟩:=h;rcases h2 with⟨h2,_⟩|⟨_,g,h3,h4,h5⟩
     ·exact absurd (HR.out.trans hz) h2
     ·exact⟨g,h3,h1,h4,h5⟩))
    clear HN1;go_wp2_with(go_at_call 21;(with_reducible refine(HN2.out).mono ?_);rintro e W2 ⟨g,rfl,hb2,hg2,hr2⟩;have HB2:=z2c hb2;have HG2:=z2c hg2;have HR2:=z2c hr2;clear hb2 hg2 hr2)
    go_ret3
    exact⟨HA.out.trans (HB2.out.mono hgW),.inr ⟨hz,g,rfl,Nat.le_trans hgW HG2.out,HR2.out⟩⟩
   ·have b1:((R:Int) !=0)=true:=by simp;omega
    have HN2:=z2c (HN1.out.mono (R':=fun e w'=>e= .returned (.tuple #[.pointer none,.int .i64 R])/\Below V1.heap.size V1 w') (fun e w' h=>by
     obtain⟨h1,h2⟩:=h;rcases h2 with⟨_,h2⟩|⟨h2,_⟩
     ·rw[HR.out]at h2;exact⟨h2,h1⟩
     ·exact absurd (HR.out.symm.trans h2) hz))
    clear HN1;go_wp2_with(go_at_call 21;(with_reducible refine(HN2.out).mono ?_);rintro e W2 ⟨rfl,hb2⟩;have HB2:=z2c hb2;clear hb2)
    go_ret3
    exact⟨HA.out.trans (HB2.out.mono hgW),.inl ⟨hz,rfl⟩⟩
  by_cases hz:R=0
  ·refine⟨0,0,P,fun W=>(key W).mono fun e w' h=> ?_,.inl ⟨rfl,rfl,by rw[hcr,if_pos hz],hr⟩⟩;rw[hz]at h;obtain⟨h1,h2⟩:=h;rcases h2 with⟨h2,_⟩|h2
   ·exact absurd rfl h2
   ·exact⟨h1,.inr h2⟩
  ·exact⟨s.length,R,P,key,.inr ⟨hz,Nat.le_refl _,by rw[hcr,if_neg hz]⟩⟩
theorem eq_atr (a b c d:ByteArray) (w:World):(Op.equalIn 10000 106 (.agg #[.string a,.string b]) (.agg #[.string c,.string d])).run z2f w= .ok ((a.toList==c.toList)&&(b.toList==d.toList)) w:=by
 have h2:z2f.underlying 106=some (.struct (z2f.fieldsOf 106)):=by kernel_rfl
 have h3:z2f.stoodInHeld 106=false:=by kernel_rfl
 rw[run_equalIn_agg _ _ _ _ _ h2 h3];simp only[Program.fieldsOf,Tryz.underlying106];cases h1:(a.toList==c.toList)<;>cases h4:(b.toList==d.toList)<;>simp[go_sem,Tryz.underlying9,h1,h4]
@[go_sem high] theorem neq_atr (a b c d:ByteArray) (w:World):(binOp .neq 106 (.agg #[.string a,.string b]) (.agg #[.string c,.string d])).run z2f w= .ok (.bool (!((a.toList==c.toList)&&(b.toList==d.toList)))) w:=by
 rw[run_neq_struct,eq_atr];rfl
@[go_sem] theorem guard_atr:z2f.eqGuardType z2f.depth 106=false:=by kernel_rfl
theorem zts {s:Bs} {f:Flt} (h:zbb s= .error f) (W:World):Calls z2f 9 #[.string ⟨s.toArray⟩] W fun e w'=>e= .returned (.tuple #[.pointer none,.int .i64 f.at_,.int .i64 f.code])/\Below W.heap.size W w':=by
 have hmx:=mxd;have HP:=z2c (fun W=>(zlu s W).mono (R':=fun e w'=>e= .returned (.tuple #[zd5,.int .i64 f.at_,.int .i64 f.code])/\Below W.heap.size W w') (fun e w' h9=>by
  unfold zcq zy7 at h9;rw[h]at h9;exact⟨h9.2,h9.1⟩))
 have hc:f.code≠0:=zl1 h;have b1:((f.code:Int) !=0)=true:=by simp;omega
 generalize f.code=c at*;generalize f.at_=a at*;clear h hc;generalize(⟨s.toArray⟩:ByteArray)=x at*;unfold zd5 at HP;go_enter Tryz.func9,Tryz.ntmps9;go_wp2_with(go_at_call 22;(with_reducible refine(HP.out _).mono ?_);rintro e W1 ⟨rfl,hb1⟩;have HB1:=z2c hb1;clear hb1)
 go_ret3
 exact⟨rfl,HB1.out.trans ((bel:Below W1.heap.size W1 _).mono HB1.out.size)⟩
theorem zom {s:Bs} {P:Pol} (hP:zbb s= .ok P) (W:World):Calls z2f 9 #[.string ⟨s.toArray⟩] W fun e w'=>Below W.heap.size W w'/\((newR P≠0/\e= .returned (.tuple #[.pointer none,.int .i64 s.length,.int .i64 (newR P:Nat)]))\/(newR P=0/\ ∃g,e= .returned (.tuple #[.pointer (some ⟨g,0,none⟩),.int .i64 0,.int .i64 0])/\RefV w' g P)):=by
 have hmx:=mxd;have HP:=z2c (fun W=>(zlu s W).mono (R':=fun e w'=>Below W.heap.size W w'/\ ∃v,e= .returned (.tuple #[v,.int .i64 0,.int .i64 0])/\PolV w' (fun _=>False) v P) (fun e w' h9=>by
  unfold zcq zy7 at h9;rw[hP]at h9;obtain⟨h1,v,h2,h3⟩:=h9;exact⟨h1,v,h2,h3.mono (fun _ _ h=>h.elim)⟩))
 have hbk:zis P 1048576:=(zsg hP).mono (by omega);have HN:=z2c (fun W v (hv:PolV W (fun _=>False) v P)=>zzu v P W hv hbk.sm hbk.tx);have hlen:(⟨s.toArray⟩:ByteArray).size=s.length:=by show s.toArray.size=_;simp
 obtain⟨R,hR⟩: ∃R,newR P=R:=⟨_,rfl⟩;have HR:=z2c hR;rw[<-hlen,hR];clear hlen hR hbk hP;generalize(⟨s.toArray⟩:ByteArray)=x at*;go_enter Tryz.func9,Tryz.ntmps9;go_upto_region 2 with(go_at_call 22;(with_reducible refine(HP.out _).mono ?_);rintro e W1 ⟨hb1,v1,rfl,hv1⟩;have HB1:=z2c hb1;have HV1:=z2c hv1;obtain⟨u0,u1,u2,u3,u4,u5,rfl,⟨A0,k0,rfl,_⟩,⟨A1,k1,rfl,_⟩,⟨A2,k2,rfl,_⟩,⟨A3,k3,rfl,_⟩,⟨A4,k4,rfl,_⟩,⟨A5,k5,rfl,_⟩⟩:=hv1;clear hb1)
 refine zae fun V1 hV1=> ?_;obtain⟨B,hB⟩: ∃B,W1.heap.size=B:=⟨_,rfl⟩;have hw1:Below W1.heap.size W1 V1:=by rw[hV1];exact bel
 have c0:V1.cell? ⟨B,0,none⟩=some (.slice A0 (fN P 0) k0):=by rw[hV1,<-hB];simp[go_sem]
 have c1:V1.cell? ⟨B,1,none⟩=some (.slice A1 (fN P 1) k1):=by rw[hV1,<-hB];simp[go_sem]
 have c2:V1.cell? ⟨B,2,none⟩=some (.slice A2 (fN P 2) k2):=by rw[hV1,<-hB];simp[go_sem]
 have c3:V1.cell? ⟨B,3,none⟩=some (.slice A3 (fN P 3) k3):=by rw[hV1,<-hB];simp[go_sem]
 have c4:V1.cell? ⟨B,4,none⟩=some (.slice A4 (fN P 4) k4):=by rw[hV1,<-hB];simp[go_sem]
 have c5:V1.cell? ⟨B,5,none⟩=some (.slice A5 (fN P 5) k5):=by rw[hV1,<-hB];simp[go_sem]
 have c6:V1.cell? ⟨B,6,none⟩=some (.bool P.rel):=by rw[hV1,<-hB];simp[go_sem]
 have c7:V1.cell? ⟨B,7,none⟩=some (.int .i64 P.depth):=by rw[hV1,<-hB];simp[go_sem]
 have c8:V1.cell? ⟨B,8,none⟩=some (.int .i64 P.name):=by rw[hV1,<-hB];simp[go_sem]
 have c9:V1.cell? ⟨B,9,none⟩=some (.int .i64 P.value):=by rw[hV1,<-hB];simp[go_sem]
 have HV:=z2c (HV1.out.below hw1);have HA:=z2c (HB1.out.trans (hw1.mono HB1.out.size));have hBl:B<V1.heap.size:=World.block_lt_of_cell? V1 _ c0;have HN1:=z2c (HN.out V1 _ HV.out);have hgW:=HA.out.size;rw[hB];clear hV1 hw1 HB1 HV1 HN HV;by_cases hz:R=0
 ·have HN2:=z2c (HN1.out.mono (R':=fun e w'=> ∃g,e= .returned (.tuple #[.pointer (some ⟨g,0,none⟩),.int .i64 0])/\Below V1.heap.size V1 w'/\RefV w' g P) (fun e w' h=>by
   obtain⟨h1,h2⟩:=h;rcases h2 with⟨h2,_⟩|⟨_,g,h3,h5⟩
   ·exact absurd (HR.out.trans hz) h2
   ·exact⟨g,h3,h1,h5⟩))
  clear HN1;go_wp2_with(go_at_call 23;(with_reducible refine(HN2.out).mono ?_);rintro e W2 ⟨g,rfl,hb2,hr2⟩;have HB2:=z2c hb2;have HR2:=z2c hr2;clear hb2 hr2)
  go_ret3
  exact⟨HA.out.trans (HB2.out.mono hgW),.inr ⟨hz,g,rfl,HR2.out⟩⟩
 ·have b1:((R:Int) !=0)=true:=by simp;omega
  have HN2:=z2c (HN1.out.mono (R':=fun e w'=>e= .returned (.tuple #[.pointer none,.int .i64 (R:Nat)])/\Below V1.heap.size V1 w') (fun e w' h=>by
   obtain⟨h1,h2⟩:=h;rcases h2 with⟨_,h2⟩|⟨h2,_⟩
   ·rw[HR.out]at h2;exact⟨h2,h1⟩
   ·exact absurd (HR.out.symm.trans h2) hz))
  clear HN1;go_wp2_with(go_at_call 23;(with_reducible refine(HN2.out).mono ?_);rintro e W2 ⟨rfl,hb2⟩;have HB2:=z2c hb2;clear hb2)
  go_ret3
  exact⟨HA.out.trans (HB2.out.mono hgW),.inl ⟨hz,rfl⟩⟩
theorem zzw {s:Bs} {P:Pol} (h:ziq s= .ok P) (W:World):Calls z2f 9 #[.string ⟨s.toArray⟩] W fun e w'=> ∃g,e= .returned (.tuple #[.pointer (some ⟨g,0,none⟩),.int .i64 0,.int .i64 0])/\Below W.heap.size W w'/\RefV w' g P:=by
 cases hp:zbb s with
 |error f=>unfold ziq at h;rw[hp]at h;cases h
 |ok p=>
  have h2:=zko hp;rw[h]at h2;by_cases hz:newR p=0
  ·rw[if_pos hz]at h2;cases h2;refine(zom hp W).mono fun e w' ⟨h1,h3⟩=> ?_;rcases h3 with⟨h3,_⟩|⟨_,g,h4,h5⟩
   ·exact absurd hz h3
   ·exact⟨g,h4,h1,h5⟩
  ·rw[if_neg hz]at h2;cases h2
theorem zw4 {s:Bs} {a c:Nat} (h:ziq s= .error ⟨a,c⟩) (W:World):Calls z2f 9 #[.string ⟨s.toArray⟩] W fun e w'=>e= .returned (.tuple #[.pointer none,.int .i64 a,.int .i64 c])/\Below W.heap.size W w':=by
 cases hp:zbb s with
 |error f=>
  unfold ziq at h;rw[hp]at h;cases h;exact zts hp W
 |ok p=>
  have h2:=zko hp;rw[h]at h2;by_cases hz:newR p=0
  ·rw[if_pos hz]at h2;cases h2
  ·rw[if_neg hz]at h2;cases h2;refine(zom hp W).mono fun e w' ⟨h1,h3⟩=> ?_;rcases h3 with⟨_,h3⟩|⟨h3,_⟩
   ·exact⟨h3,h1⟩
   ·exact absurd h3 hz
end Go.Proofs.YtiikamobcmgekaaGreatDoor
