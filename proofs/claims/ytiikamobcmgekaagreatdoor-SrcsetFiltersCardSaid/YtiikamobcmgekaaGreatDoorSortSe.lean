/- Sorting in place: two parts that are in order merged: behind the rotation. -/
import Derived.Deep.DeepCutAuto
import Derived.Deep.CutBlock
import Derived.Test.YtiikamobcmgekaaGreatDoorPA
import Derived.Test.YtiikamobcmgekaaGreatDoorSortSa
namespace Go.Proofs.YtiikamobcmgekaaGreatDoor
open List renaming eq_nil_of_length_eq_zero→z2u,length_append→z2h
open Tryz renaming prog→z2f
set_option maxRecDepth 1000000
set_option maxHeartbeats 16000000
open Go.RowKit
open KS
open Go.Proofs.YtiikamobcmgekaaGreatDoor renaming Bs→Z0,RowS→Z1,ltB→Z2,swoB→Z3
def zpq:Nat->Code->Code
 |0,c=>c
 |n+1,.seq _ c=>zpq n c
 |_+1,c=>c
open Go.Proofs.YtiikamobcmgekaaGreatDoor renaming zpq→Z9
theorem zvb {P:Program} {fn:Func} {n:Nat} {c c2:Code} {Q:Exit->Act->World->Prop} {act:Act} {w:World} (hb:fn.body=some c) (ha:zpq n c=c2) (h:c2.wp P Q act w):(zpq n (fn.body.getD .skip)).wp P Q act w:=by
 rw[hb];exact ha ▸ h
open Go.Proofs.YtiikamobcmgekaaGreatDoor renaming zvb→Z8
theorem zje {P:Prop} (h:P:=by
 have hmx:=mxd;have HNb:Hid ((P++L1++R1++(L2++R2++Q)).length=N):=by
  have h9:=HL.out.2.2.2.1;show _=_;rw[<-h9];conv=>rhs;rw[HS.out.1,HS.out.2.1]
  simp only[z2h]<;>omega
 refine Z8 rfl (by dsimp only[Z9]) ?_;dsimp only;obtain⟨D2,hD2⟩: ∃D2,(decide (a<st)&&decide (st<md))=D2:=⟨_,rfl⟩;have HD2:=Lib.hid hD2;clear hD2;go_upto_region 41 with fail
 go_cut [24,199] (fun s24 s199 wx=>s24= .int .i64 (e:Nat)/\s199= .bool D2/\wc=wx)
 case first=>
  by_cases c1:a<st
  ·have d1:(a:Int)<st:=by omega
   by_cases c2:st<md
   ·have d2:(st:Int)<md:=by omega
    have HE1:Hid (D2=true):=by show _=_;rw[<-HD2.out];simp[c1,c2]
    go_wp2_with fail
    go_meet
    case rel=>exact⟨rfl,by rw[HE1.out],rfl⟩
   ·have d2:decide ((st:Int)<md)=false:=by simp;omega
    have HE1:Hid (D2=false):=by show _=_;rw[<-HD2.out];simp[c2]
    go_wp2_with fail
    go_meet
    case rel=>exact⟨rfl,by rw[HE1.out],rfl⟩
  ·have d1:decide ((a:Int)<st)=false:=by simp;omega
   have HE1:Hid (D2=false):=by show _=_;rw[<-HD2.out];simp[c1]
   go_wp2_with fail
   go_meet
   case rel=>exact⟨rfl,by rw[HE1.out],rfl⟩
 obtain⟨rfl,rfl,rfl⟩:=hcut;go_upto_if 199 with fail
 go_cut [24] (fun s24 wx=>s24= .int .i64 (e:Nat)/\Hid (zab (fun k=>k=g) w wx)/\ ∃s1:List Z0,Hid (Z1 wx B g cap (P++s1++L2++R2++Q))/\Hid (Up Z2 s1/\zax Z2 s1 (L1++R1)))
 case first=>
  cases D2
  ·have HZ:Hid (L1=[]\/R1=[]):=by
    have h9:=HD2.out;have h0:=HV.out;have h1:=HW.out;have h4:=HS.out;show _\/_;by_cases c1:a<st
    ·refine .inr (z2u ?_);have c2: ¬st<md:=fun c2=>by simp[c1,c2]at h9
     omega
    ·exact .inl (z2u (by omega))
   go_wp2_with fail
   go_meet
   case rel=>
    have h9:=HRb.out;rcases HZ.out with hz|hz
    ·exact⟨rfl,HTb.out,R1,by show Z1 _ _ _ _ _;rw[hz]at h9;simpa using h9,HUs.out.2.2.1,by rw[hz];exact zax.refl _⟩
    ·exact⟨rfl,HTb.out,L1,by show Z1 _ _ _ _ _;rw[hz]at h9;simpa using h9,HUs.out.1,by rw[hz,List.append_nil];exact zax.refl _⟩
  ·first|cases isS;refine hv (p:=Hid (Calls z2f 284 #[.slice (some ⟨g,0,none⟩) N cap,.int .i64 (a:Nat),.int .i64 (st:Nat),.int .i64 (md:Nat),(.func (.func 118) #[] #[])] wc fun e w'=>e= .returned (.tuple #[])/\MrgS wc B g cap P (L1++R1) (L2++R2++Q) w')) ?_ ?_|cases isA;refine hv (p:=Hid (Calls z2f 286 #[.slice (some ⟨g,0,none⟩) N cap,.int .i64 (a:Nat),.int .i64 (st:Nat),.int .i64 (md:Nat),(.func (.func 120) #[] #[])] wc fun e w'=>e= .returned (.tuple #[])/\MrgA wc B g cap P (L1++R1) (L2++R2++Q) w')) ?_ ?_|refine hv (p:=Hid (Calls z2f 288 #[.slice (some ⟨g,0,none⟩) N cap,.int .i64 (a:Nat),.int .i64 (st:Nat),.int .i64 (md:Nat),(.func (.func 122) #[] #[])] wc fun e w'=>e= .returned (.tuple #[])/\MrgF wc B g cap P (L1++R1) (L2++R2++Q) w')) ?_ ?_
   ·have h0:=HD2.out;simp only[Bool.and_eq_true,decide_eq_true_eq]at h0;have h1:=HV.out;have h2:=HW.out;have h3:=HL.out;have h4:=HS.out;have h9:=HI.out B g cap P L1 R1 (L2++R2++Q) wc (by omega) (by omega) (by omega) HRb.out HUs.out.1 HUs.out.2.2.1 (by rw[HNb.out];exact hn);rw[HNb.out,h3.2.2.1,show(P++L1).length=st by rw[z2h];omega,show(P++L1++R1).length=md by simp only[z2h];omega]at h9;exact h9
   intro HRec;go_wp2_with((first|go_at_call 284|go_at_call 286|go_at_call 288);(with_reducible refine HRec.out.mono ?_);rintro e2 W2 ⟨rfl,hm2⟩;have HM2:=Lib.hid hm2;clear hm2)
   go_meet
   case rel=>
    obtain⟨ht,s1,hr,hu,ha⟩:=HM2.out;exact⟨rfl,HTb.out.trans ht,s1,by show Z1 _ _ _ _ _;simpa using hr,hu,ha⟩
 obtain⟨rfl,HTc,s1,HRc,HUc⟩:=hcut;have HNc:Hid ((P++s1++L2++R2++Q).length=N/\(P++s1).length=md):=by
  have h8:=zax.len Z3 _ _ _ (Nat.le_refl _) HUc.out.2;have h9:=HNb.out;have h1:=HV.out;have h2:=HW.out;have h3:=HL.out;have h4:=HS.out;show _/\_;simp only[z2h]at h8 h9 ⊢;omega
 obtain⟨D3,hD3⟩: ∃D3,(decide (md<e)&&decide (e<b))=D3:=⟨_,rfl⟩;have HD3:=Lib.hid hD3;clear hD3 HTb HRb HNb;go_upto_region 43 with fail
 go_cut [213] (fun s213 wx=>s213= .bool D3/\wc=wx)
 case first=>
  by_cases c1:md<e
  ·have d1:(md:Int)<e:=by omega
   by_cases c2:e<b
   ·have d2:(e:Int)<b:=by omega
    have HE1:Hid (D3=true):=by show _=_;rw[<-HD3.out];simp[c1,c2]
    go_wp2_with fail
    go_meet
    case rel=>exact⟨by rw[HE1.out],rfl⟩
   ·have d2:decide ((e:Int)<b)=false:=by simp;omega
    have HE1:Hid (D3=false):=by show _=_;rw[<-HD3.out];simp[c2]
    go_wp2_with fail
    go_meet
    case rel=>exact⟨by rw[HE1.out],rfl⟩
  ·have d1:decide ((md:Int)<e)=false:=by simp;omega
   have HE1:Hid (D3=false):=by show _=_;rw[<-HD3.out];simp[c1]
   go_wp2_with fail
   go_meet
   case rel=>exact⟨by rw[HE1.out],rfl⟩
 obtain⟨rfl,rfl⟩:=hcut;cases D3
 ·have HZ:Hid (L2=[]\/R2=[]):=by
   have h9:=HD3.out;have h0:=HV.out;have h1:=HW.out;have h4:=HS.out;show _\/_;by_cases c1:md<e
   ·refine .inr (z2u ?_);have c2: ¬e<b:=fun c2=>by simp[c1,c2]at h9
    omega
   ·exact .inl (z2u (by omega))
  go_wp2_with fail
  go_end0;have h9:=HRc.out;rcases HZ.out with hz|hz
  ·obtain⟨g1,g2⟩:=HMp.out s1 R2 HUc.out.1 HUc.out.2 HUs.out.2.2.2 (by rw[hz];exact zax.refl _);exact⟨rfl,HTc.out,s1++R2,by rw[hz]at h9;simpa using h9,g1,g2⟩
  ·obtain⟨g1,g2⟩:=HMp.out s1 L2 HUc.out.1 HUc.out.2 HUs.out.2.1 (by rw[hz,List.append_nil];exact zax.refl _);exact⟨rfl,HTc.out,s1++L2,by rw[hz]at h9;simpa using h9,g1,g2⟩
 ·first|cases isS;refine hv (p:=Hid (Calls z2f 284 #[.slice (some ⟨g,0,none⟩) N cap,.int .i64 (md:Nat),.int .i64 (e:Nat),.int .i64 (b:Nat),(.func (.func 118) #[] #[])] wc fun e w'=>e= .returned (.tuple #[])/\MrgS wc B g cap (P++s1) (L2++R2) Q w')) ?_ ?_|cases isA;refine hv (p:=Hid (Calls z2f 286 #[.slice (some ⟨g,0,none⟩) N cap,.int .i64 (md:Nat),.int .i64 (e:Nat),.int .i64 (b:Nat),(.func (.func 120) #[] #[])] wc fun e w'=>e= .returned (.tuple #[])/\MrgA wc B g cap (P++s1) (L2++R2) Q w')) ?_ ?_|refine hv (p:=Hid (Calls z2f 288 #[.slice (some ⟨g,0,none⟩) N cap,.int .i64 (md:Nat),.int .i64 (e:Nat),.int .i64 (b:Nat),(.func (.func 122) #[] #[])] wc fun e w'=>e= .returned (.tuple #[])/\MrgF wc B g cap (P++s1) (L2++R2) Q w')) ?_ ?_
  ·have h0:=HD3.out;simp only[Bool.and_eq_true,decide_eq_true_eq]at h0;have h1:=HV.out;have h2:=HW.out;have h3:=HL.out;have h4:=HS.out;have h5:=HNc.out;have h9:=HI.out B g cap (P++s1) L2 R2 Q wc (by omega) (by omega) (by omega) HRc.out HUs.out.2.1 HUs.out.2.2.2 (by rw[h5.1];exact hn);rw[h5.1,h5.2,show(P++s1++L2).length=e by rw[z2h,h5.2];omega,show(P++s1++L2++R2).length=b by rw[z2h,z2h,h5.2];omega]at h9;exact h9
  intro HRec;go_wp2_with((first|go_at_call 284|go_at_call 286|go_at_call 288);(with_reducible refine HRec.out.mono ?_);rintro e2 W2 ⟨rfl,hm2⟩;have HM2:=Lib.hid hm2;clear hm2)
  go_end0;obtain⟨ht,s2,hr,hu,ha⟩:=HM2.out;obtain⟨g1,g2⟩:=HMp.out s1 s2 HUc.out.1 HUc.out.2 hu ha;exact⟨rfl,HTc.out.trans ht,s1++s2,by simpa using hr,g1,g2⟩):P:=h
theorem mtailS (k B g cap:Nat) (P A Bb Q L1 L2 R1 R2:List Bs) (w wc:World) (α β a m b N hh md nn p st0 r0 s t e st:Nat) (hn:N<=1000000000) (_we:e<=N) (_ws:st<=N) (_w1:md<=N) (_w3:a<=N) (_v3:b<=N)
  (HV:Hid (m=a+α/\b=m+β/\(α+β)/2=hh/\a+hh=md/\md+m=nn/\nn-1=p/\a+(hh-β)=st0/\a+min hh α=r0/\2<=α/\2<=β))
  (HL:Hid (A.length=α/\Bb.length=β/\P.length=a/\(P++A++Bb++Q).length=N/\α+β<=k+1)) (_HU:Hid (Up ltB A/\Up ltB Bb))
  (HI:Hid (∀(B g cap:Nat) (P A Bb Q:List Bs) (w:World),A.length+Bb.length<=k->0<A.length->0<Bb.length->RowS w B g cap (P++A++Bb++Q)->Up ltB A->Up ltB Bb->(P++A++Bb++Q).length<=1000000000->
   Calls z2f 284 #[.slice (some ⟨g,0,none⟩) (P++A++Bb++Q).length cap,.int .i64 P.length,.int .i64 (P++A).length,.int .i64 (P++A++Bb).length,(.func (.func 118) #[] #[])] w fun e w'=>e= .returned (.tuple #[])/\MrgS w B g cap P (A++Bb) Q w'))
  (HW:Hid (st=a+s/\t+s=hh/\e=m+t/\s<=α/\t<=β))
  (HS:Hid (A=L1++L2/\Bb=R1++R2/\L1.length=s/\L2.length+s=α/\R1.length=t/\R2.length+t=β))
  (HMp:Hid (∀s1 s2,Up ltB s1->zax ltB s1 (L1++R1)->Up ltB s2->zax ltB s2 (L2++R2)->Up ltB (s1++s2)/\zax ltB (s1++s2) (A++Bb)))
  (HUs:Hid (Up ltB L1/\Up ltB L2/\Up ltB R1/\Up ltB R2)) (HTb:Hid (zab (fun k=>k=g) w wc)) (HRb:Hid (RowS wc B g cap (P++L1++R1++(L2++R2++Q))))
  (u5 u6 u7 u8 u9 u10 u11 u12 u13 u14 u15 u16 u17 u23 u25 u26 u27 u28 u29 u30 u31 u32 u33 u34 u35 u36 u37 u38 u39 u40 u41 u42 u43 u44 u45 u46 u47 u48 u49 u50 u51 u52 u53 u54 u55 u56 u57 u58 u59 u60 u61 u62 u63 u64 u65 u66 u67 u68 u69 u70 u71 u72 u73 u74 u75 u76 u77 u78 u79 u80 u81 u82 u83 u84 u85 u86 u87 u88 u89 u90 u91 u92 u93 u94 u95 u96 u97 u98 u99 u100 u101 u102 u103 u104 u105 u106 u107 u108 u109 u110 u111 u112 u113 u114 u115 u116 u117 u118 u119 u120 u121 u122 u123 u124 u125 u126 u127 u128 u129 u130 u131 u132 u133 u134 u135 u136 u137 u138 u139 u140 u141 u142 u143 u144 u145 u146 u147 u148 u149 u150 u151 u152 u153 u154 u155 u156 u157 u158 u159 u160 u161 u162 u163 u164 u165 u166 u167 u168 u169 u170 u171 u172 u173 u174 u175 u176 u177 u178 u179 u180 u181 u182 u183 u184 u185 u186 u187 u188 u189 u190 u191 u192 u193 u194 u195 u196 u197 u198 u199 u200 u201 u202 u203 u204 u205 u206 u207 u208 u209 u210 u211 u212 u213 u214 u215 u216 u217 u218 u219:Value):
  (zpq 10 (Tryz.f284.body.getD .skip)).wp z2f (bodyPost z2f Tryz.f284 fun e w'=>e= .returned (.tuple #[])/\MrgS w B g cap P (A++Bb) Q w') {tmps:= #[.slice (some ⟨g,0,none⟩) N cap,.int .i64 (a:Nat),.int .i64 (m:Nat),.int .i64 (b:Nat),(.func (.func 118) #[] #[]),u5,u6,u7,u8,u9,u10,u11,u12,u13,u14,u15,u16,u17,.int .i64 (md:Nat),.int .i64 (nn:Nat),.int .i64 (st:Nat),.int .i64 (st:Nat),.int .i64 (p:Nat),u23,.int .i64 (e:Nat),u25,u26,u27,u28,u29,u30,u31,u32,u33,u34,u35,u36,u37,u38,u39,u40,u41,u42,u43,u44,u45,u46,u47,u48,u49,u50,u51,u52,u53,u54,u55,u56,u57,u58,u59,u60,u61,u62,u63,u64,u65,u66,u67,u68,u69,u70,u71,u72,u73,u74,u75,u76,u77,u78,u79,u80,u81,u82,u83,u84,u85,u86,u87,u88,u89,u90,u91,u92,u93,u94,u95,u96,u97,u98,u99,u100,u101,u102,u103,u104,u105,u106,u107,u108,u109,u110,u111,u112,u113,u114,u115,u116,u117,u118,u119,u120,u121,u122,u123,u124,u125,u126,u127,u128,u129,u130,u131,u132,u133,u134,u135,u136,u137,u138,u139,u140,u141,u142,u143,u144,u145,u146,u147,u148,u149,u150,u151,u152,u153,u154,u155,u156,u157,u158,u159,u160,u161,u162,u163,u164,u165,u166,u167,u168,u169,u170,u171,u172,u173,u174,u175,u176,u177,u178,u179,u180,u181,u182,u183,u184,u185,u186,u187,u188,u189,u190,u191,u192,u193,u194,u195,u196,u197,u198,u199,u200,u201,u202,u203,u204,u205,u206,u207,u208,u209,u210,u211,u212,u213,u214,u215,u216,u217,u218,u219],defers:=[]} wc:=zje
end Go.Proofs.YtiikamobcmgekaaGreatDoor

