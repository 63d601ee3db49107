import Derived.Test.YtccjfanpjojbnaaGreatDoorSortAa
import Derived.Test.YtccjfanpjojbnaaGreatDoorSortSe
namespace Go.Proofs.YtccjfanpjojbnaaGreatDoor
open Go.Ending renaming returned→aL
open Go.IntKind renaming i64→aC
open Lib renaming hid→aA
open List renaming append_assoc→cY,append_nil→bV,eq_nil_of_length_eq_zero→gD,getElem?_append_left→nK,getElem?_append_right→lE,length_append→aZ,take_append_drop→nJ
open Tryz renaming prog→aE
open Go.Value renaming int→aB,slice→aF,tuple→aN
set_option maxRecDepth 1000000
set_option maxHeartbeats 16000000
open Go.RowKit
open KA
open YtccjfanpjojbnaaGreatDoor renaming cP→Z2z,dK→Z1,GR→Z4z,MD→Z5z,yU→Z3z,aW→Z0
theorem Nk {α:Type} (P:List α) (A B:List α) (y:α) (Q:List α):P++A++(B++y::Q)=P++(A++B)++y::Q:=by simp
open YtccjfanpjojbnaaGreatDoor renaming Nk→Z7
theorem Hk (B g cap:Nat) (P S:List aW) (y:aW) (Q:List aW) (w:World) (h:dK w B g cap (P++S++y::Q)) (hS:2<=S.length) (hU:Up cP S) (hn:(P++S++y::Q).length<=1000000000):
  Calls aE 193 #[aF (some ⟨g,0,none⟩) (P++S++y::Q).length cap,aB aC P.length,aB aC (P.length+S.length:Nat),aB aC (P.length+S.length+1:Nat),(.func (.func 51) #[] #[])] w
   λe w'=>e=aL (aN #[])/\yL w B g cap P (S++[y]) Q w':=IV
def CZ:Nat->Code->Code
 |0,c=>c
 |n+1,.seq _ c=>CZ n c
 |_+1,c=>c
open YtccjfanpjojbnaaGreatDoor renaming CZ→Z9
theorem E1 {P:Program} {fn:Func} {n:Nat} {c c2:Code} {Q:Exit->Act->World->Prop} {act:Act} {w:World} (hb:fn.body=some c) (ha:CZ n c=c2) (h:c2.wp P Q act w):(CZ n (fn.body.getD .skip)).wp P Q act w:=by
 rw[hb];exact ha ▸ h
open YtccjfanpjojbnaaGreatDoor renaming E1→Z8
theorem Gj (k B g cap:Nat) (P A Bb Q L1 L2 R1 R2:List aW) (w wc:World) (α β a m b N hh md nn p st0 r0 s t e st:Nat) (hn:N<=1000000000) (_we:e<=N) (_ws:st<=N) (_w1:md<=N) (_w3:a<=N) (_v3:b<=N)
  (HV:Hid (m=a+α/\b=m+β/\(α+β)/2=hh/\a+hh=md/\md+m=nn/\nn-1=p/\a+(hh-β)=st0/\a+min hh α=r0/\2<=α/\2<=β))
  (HL:Hid (A.length=α/\Bb.length=β/\P.length=a/\(P++A++Bb++Q).length=N/\α+β<=k+1)) (_HU:Hid (Up cP A/\Up cP Bb))
  (HI:Hid (∀(B g cap:Nat) (P A Bb Q:List aW) (w:World),A.length+Bb.length<=k->0<A.length->0<Bb.length->dK w B g cap (P++A++Bb++Q)->Up cP A->Up cP Bb->(P++A++Bb++Q).length<=1000000000->
   Calls aE 193 #[aF (some ⟨g,0,none⟩) (P++A++Bb++Q).length cap,aB aC P.length,aB aC (P++A).length,aB aC (P++A++Bb).length,(.func (.func 51) #[] #[])] w λe w'=>e=aL (aN #[])/\yL w B g cap P (A++Bb) Q w'))
  (HW:Hid (st=a+s/\t+s=hh/\e=m+t/\s<=α/\t<=β))
  (HS:Hid (A=L1++L2/\Bb=R1++R2/\L1.length=s/\L2.length+s=α/\R1.length=t/\R2.length+t=β))
  (HMp:Hid (∀s1 s2,Up cP s1->bH cP s1 (L1++R1)->Up cP s2->bH cP s2 (L2++R2)->Up cP (s1++s2)/\bH cP (s1++s2) (A++Bb)))
  (HUs:Hid (Up cP L1/\Up cP L2/\Up cP R1/\Up cP R2)) (HTb:Hid (aJ (λk=>k=g) w wc)) (HRb:Hid (dK wc B g cap (P++L1++R1++(L2++R2++Q))))
  (u5 u6 u7 u8 u9 u10 u11 u12 u13 u14 u15 u16 u17 u23 u25 u26 u27 u28 u29 u30 u31 u32 u33 u34 u35 u36 u37 u38 u39 u40 u41 u42 u43 u44 u45 u46 u47 u48 u49 u50 u51 u52 u53 u54 u55 u56 u57 u58 u59 u60 u61 u62 u63 u64 u65 u66 u67 u68 u69 u70 u71 u72 u73 u74 u75 u76 u77 u78 u79 u80 u81 u82 u83 u84 u85 u86 u87 u88 u89 u90 u91 u92 u93 u94 u95 u96 u97 u98 u99 u100 u101 u102 u103 u104 u105 u106 u107 u108 u109 u110 u111 u112 u113 u114 u115 u116 u117 u118 u119 u120 u121 u122 u123 u124 u125 u126 u127 u128 u129 u130 u131 u132 u133 u134 u135 u136 u137 u138 u139 u140 u141 u142 u143 u144 u145 u146 u147 u148 u149 u150 u151 u152 u153 u154 u155 u156 u157 u158 u159 u160 u161 u162 u163 u164 u165 u166 u167 u168 u169 u170 u171 u172 u173 u174 u175 u176 u177 u178 u179 u180 u181 u182 u183 u184 u185 u186 u187 u188 u189 u190 u191 u192 u193 u194 u195 u196 u197 u198 u199 u200 u201 u202 u203 u204 u205 u206 u207 u208 u209 u210 u211 u212 u213 u214 u215 u216 u217 u218 u219:Value):
  (CZ 10 (Tryz.f193.body.getD .skip)).wp aE (bodyPost aE Tryz.f193 λe w'=>e=aL (aN #[])/\yL w B g cap P (A++Bb) Q w') {tmps:= #[aF (some ⟨g,0,none⟩) N cap,aB aC (a:Nat),aB aC (m:Nat),aB aC (b:Nat),(.func (.func 51) #[] #[]),u5,u6,u7,u8,u9,u10,u11,u12,u13,u14,u15,u16,u17,aB aC (md:Nat),aB aC (nn:Nat),aB aC (st:Nat),aB aC (st:Nat),aB aC (p:Nat),u23,aB aC (e:Nat),u25,u26,u27,u28,u29,u30,u31,u32,u33,u34,u35,u36,u37,u38,u39,u40,u41,u42,u43,u44,u45,u46,u47,u48,u49,u50,u51,u52,u53,u54,u55,u56,u57,u58,u59,u60,u61,u62,u63,u64,u65,u66,u67,u68,u69,u70,u71,u72,u73,u74,u75,u76,u77,u78,u79,u80,u81,u82,u83,u84,u85,u86,u87,u88,u89,u90,u91,u92,u93,u94,u95,u96,u97,u98,u99,u100,u101,u102,u103,u104,u105,u106,u107,u108,u109,u110,u111,u112,u113,u114,u115,u116,u117,u118,u119,u120,u121,u122,u123,u124,u125,u126,u127,u128,u129,u130,u131,u132,u133,u134,u135,u136,u137,u138,u139,u140,u141,u142,u143,u144,u145,u146,u147,u148,u149,u150,u151,u152,u153,u154,u155,u156,u157,u158,u159,u160,u161,u162,u163,u164,u165,u166,u167,u168,u169,u170,u171,u172,u173,u174,u175,u176,u177,u178,u179,u180,u181,u182,u183,u184,u185,u186,u187,u188,u189,u190,u191,u192,u193,u194,u195,u196,u197,u198,u199,u200,u201,u202,u203,u204,u205,u206,u207,u208,u209,u210,u211,u212,u213,u214,u215,u216,u217,u218,u219],defers:=[]} wc:=IU
