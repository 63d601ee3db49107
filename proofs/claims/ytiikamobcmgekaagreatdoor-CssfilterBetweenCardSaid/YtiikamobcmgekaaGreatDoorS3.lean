/- Sorting in place, a list cloned, each thing once: texts. -/
import Derived.Lib.SliceRun
import Derived.Test.YtiikamobcmgekaaGreatDoorSortSc
import Derived.Test.YtiikamobcmgekaaGreatDoorSortSf
import Derived.Test.YtiikamobcmgekaaGreatDoorPA
namespace Go.Proofs.YtiikamobcmgekaaGreatDoor
set_option maxRecDepth 1000000
set_option maxHeartbeats 16000000
open Go.RowKit
open KS
open Go.Proofs.YtiikamobcmgekaaGreatDoor renaming insertionS_any→Zd,mergeS_any→Ze,swoB→Z3z,Bs→Z0,ltB→Z2z,cmpS_any→Z4z,RowS→Z1
def SegS (w:World) (B g cap:Nat) (d:List Bs) (a b:Nat) (w':World):Prop:=Turned (fun k=>k=g) w w'/\ ∃s,RowS w' B g cap (putS d a b s)/\Up ltB s/\Alike ltB s (segS d a b)
theorem unS38 {P:Prop} (h:P:=by
 have e1:d.take a++segS d a b++d.drop b=d:=put_seg d hab
 have e2:(d.take a).length=a:=by rw[List.length_take];omega
 have e3:(d.take a++segS d a b).length=b:=by rw[List.length_append,e2,seg_len d hab (by omega)];omega
 have h9:=Zd B g cap (d.take a) (segS d a b) (d.drop b) w (by rw[e1];exact h) (by rw[e1];omega)
 rw[e1,e2,e3,hN]at h9
 exact h9):P:=h
theorem insSegS_any (B g cap:Nat) (d:List Bs) (a b N:Nat) (w:World) (h:RowS w B g cap d) (hN:d.length=N) (hab:a<=b) (hb:b<=N) (hn:N<=1000000000):
  Calls Tryz.prog 283 #[.slice (some ⟨g,0,none⟩) N cap,.int .i64 a,.int .i64 b,(.func (.func 118) #[] #[])] w fun e w'=>e= .returned (.tuple #[])/\SegS w B g cap d a b w':=unS38
theorem unS39 {P:Prop} (h:P:=by
 have e4:segS d a m++segS d m b=segS d a b:=by
  unfold segS
  rw[show b-a=(m-a)+(b-m) by omega,List.take_add,List.drop_drop,show a+(m-a)=m by omega]
 have e1:d.take a++segS d a m++segS d m b++d.drop b=d:=by
  rw[List.append_assoc (d.take a),e4];exact put_seg d (by omega)
 have e2:(d.take a).length=a:=by rw[List.length_take];omega
 have f1:=seg_len d (a:=a) (b:=m) (by omega) (by omega)
 have f2:=seg_len d (a:=m) (b:=b) (by omega) (by omega)
 have e3:(d.take a++segS d a m).length=m:=by rw[List.length_append,e2,f1];omega
 have e5:(d.take a++segS d a m++segS d m b).length=b:=by rw[List.length_append,e3,f2];omega
 have h9:=Ze _ B g cap (d.take a) (segS d a m) (segS d m b) (d.drop b) w (Nat.le_refl _) (by omega) (by omega) (by rw[e1];exact h) hU1 hU2 (by rw[e1];omega)
 rw[e1,e2,e3,e5,hN,e4]at h9
 exact h9):P:=h
theorem mrgSegS_any (B g cap:Nat) (d:List Bs) (a m b N:Nat) (w:World) (h:RowS w B g cap d) (hN:d.length=N) (ham:a<m) (hmb:m<b) (hb:b<=N) (hn:N<=1000000000) (hU1:Up ltB (segS d a m)) (hU2:Up ltB (segS d m b)):
  Calls Tryz.prog 284 #[.slice (some ⟨g,0,none⟩) N cap,.int .i64 a,.int .i64 m,.int .i64 b,(.func (.func 118) #[] #[])] w fun e w'=>e= .returned (.tuple #[])/\SegS w B g cap d a b w':=unS39
open Go.Proofs.YtiikamobcmgekaaGreatDoor renaming mrgSegS_any→Zg
structure MidS (w:World) (B g cap:Nat) (d:List Bs) (D:List Bs) (wr:World):Prop where
 turned:Turned (fun k=>k=g) w wr
 row:RowS wr B g cap D
 alike:Alike ltB D d
 len:D.length=d.length
open Go.Proofs.YtiikamobcmgekaaGreatDoor renaming MidS→Zf
theorem unS310 {P:Prop} (h:P:=by
 obtain⟨h1,s,h2,h3,h4⟩:=hs
 have h5:s.length=b-a:=by rw[Alike.len Z3z _ _ _ (Nat.le_refl _) h4,seg_len D hab (by rw[h.len];exact hb)]
 exact⟨s,⟨h.turned.trans h1,h2,(put_alike hab h4).trans h.alike,by rw[put_len hab (by rw[h.len];exact hb) h5,h.len]⟩,h3,h5⟩):P:=h
theorem MidS.seg {w:World} {B g cap:Nat} {d D:List Bs} {wr w':World} {a b:Nat} (h:MidS w B g cap d D wr) (hs:SegS wr B g cap D a b w') (hab:a<=b) (hb:b<=d.length):
  ∃s,MidS w B g cap d (putS D a b s) w'/\Up ltB s/\s.length=b-a:=unS310
def SrtS (w:World) (B g cap:Nat) (d:List Bs) (w':World):Prop:=Turned (fun k=>k=g) w w'/\ ∃S,RowS w' B g cap S/\Up ltB S/\Alike ltB S d
theorem unS311 {P:Prop} (h:P:=by
 have hmx:=mxd
 obtain⟨N,hN⟩: ∃N,d.length=N:=⟨_,rfl⟩
 rw[hN]
 rw[hN]at hn
 have HN:=Lib.hid hN
 have HR:=Lib.hid h
 clear hN h
 first|go_enter Tryz.func257,Tryz.ntmps257|go_enter Tryz.func258,Tryz.ntmps258|go_enter Tryz.func259,Tryz.ntmps259
 go_wp2_with fail
 go_loopw [7,8] (fun i j wr=> ∃(q a b:Nat) (D:List Z0),a<=N/\b<=N+20/\i= .int .i64 (a:Nat)/\j= .int .i64 (b:Nat)/\Hid (a=q*20/\b=a+20)/\Hid (Zf w B g cap d D wr)/\Hid (RunsTo Z2z 20 (q*20) D)) (fun i _ _=>N+1-(intOf i).toNat)
 case atStart=>exact⟨0,0,20,d,by omega,by omega,rfl,rfl,⟨rfl,rfl⟩,⟨Turned.refl _ _,HR.out,Alike.refl _,rfl⟩,fun k hk=>by omega⟩
 case round=>
  obtain⟨q,a,b,D,ha,hb,rfl,rfl,HV,HM0,HT⟩:=hrel
  by_cases hle:b<=N
  ·have hle2:(b:Int)<=N:=by omega
   first
    |cases isS
     have HI:Hid (Calls Tryz.prog 283 #[.slice (some ⟨g,0,none⟩) N cap,.int .i64 a,.int .i64 b,(.func (.func 118) #[] #[])] wr fun e w'=>e= .returned (.tuple #[])/\SegS wr B g cap D a b w'):=
      insSegS_any B g cap D a b N wr HM0.out.row (HM0.out.len.trans HN.out) (by have:=HV.out;omega) hle hn
    |cases isA
     have HI:Hid (Calls Tryz.prog 285 #[.slice (some ⟨g,0,none⟩) N cap,.int .i64 a,.int .i64 b,(.func (.func 120) #[] #[])] wr fun e w'=>e= .returned (.tuple #[])/\SegA wr B g cap D a b w'):=
      insSegA_any B g cap D a b N wr HM0.out.row (HM0.out.len.trans HN.out) (by have:=HV.out;omega) hle hn
    |have HI:Hid (Calls Tryz.prog 287 #[.slice (some ⟨g,0,none⟩) N cap,.int .i64 a,.int .i64 b,(.func (.func 122) #[] #[])] wr fun e w'=>e= .returned (.tuple #[])/\SegF wr B g cap D a b w'):=
      insSegF_any B g cap D a b N wr HM0.out.row (HM0.out.len.trans HN.out) (by have:=HV.out;omega) hle hn
   go_wp2_with((first|go_at_call 283|go_at_call 285|go_at_call 287);(with_reducible refine HI.out.mono ?_);rintro e2 W2 ⟨rfl,hs2⟩;have HS2:=Lib.hid hs2;clear hs2)
   go_roundw
   case rel=>
    obtain⟨v1,v2⟩:=HV.out
    obtain⟨s,m1,m2,m3⟩:=HM0.out.seg HS2.out (by omega) (by have:=HN.out;omega)
    refine⟨q+1,b,b+20,_,by omega,by omega,by go_num,by go_num,⟨by omega,rfl⟩,m1, ?_⟩
    have h9:=RunsTo.next HT.out (by have:=HM0.out.len;have:=HN.out;omega) (s:=s) (by omega) m2
    rw[v2,v1];exact h9
   case measure=>simp[intOf];have:=HV.out;omega
  ·have hle2: ¬(b:Int)<=N:=by omega
   first
    |cases isS
     have HI:Hid (Calls Tryz.prog 283 #[.slice (some ⟨g,0,none⟩) N cap,.int .i64 a,.int .i64 N,(.func (.func 118) #[] #[])] wr fun e w'=>e= .returned (.tuple #[])/\SegS wr B g cap D a N w'):=
      insSegS_any B g cap D a N N wr HM0.out.row (HM0.out.len.trans HN.out) ha (Nat.le_refl _) hn
    |cases isA
     have HI:Hid (Calls Tryz.prog 285 #[.slice (some ⟨g,0,none⟩) N cap,.int .i64 a,.int .i64 N,(.func (.func 120) #[] #[])] wr fun e w'=>e= .returned (.tuple #[])/\SegA wr B g cap D a N w'):=
      insSegA_any B g cap D a N N wr HM0.out.row (HM0.out.len.trans HN.out) ha (Nat.le_refl _) hn
    |have HI:Hid (Calls Tryz.prog 287 #[.slice (some ⟨g,0,none⟩) N cap,.int .i64 a,.int .i64 N,(.func (.func 122) #[] #[])] wr fun e w'=>e= .returned (.tuple #[])/\SegF wr B g cap D a N w'):=
      insSegF_any B g cap D a N N wr HM0.out.row (HM0.out.len.trans HN.out) ha (Nat.le_refl _) hn
   go_wp2_with((first|go_at_call 283|go_at_call 285|go_at_call 287);(with_reducible refine HI.out.mono ?_);rintro e2 W2 ⟨rfl,hs2⟩;have HS2:=Lib.hid hs2;clear hs2)
   have HE:Hid (∃E,Zf w B g cap d E W2/\Runs Z2z 20 E):=by
    obtain⟨v1,v2⟩:=HV.out
    obtain⟨s,m1,m2,m3⟩:=HM0.out.seg HS2.out ha (by have:=HN.out;omega)
    have g1:=HM0.out.len.trans HN.out
    have h9:=RunsTo.last (by omega) HT.out (by omega) (by omega) (s:=s) (by omega) m2
    rw[g1,<-v1]at h9
    exact⟨_,m1,h9⟩
   clear HM0 HT HS2 HV HI hle hle2
   go_loopw [6,7,8] (fun k _ _ wr=> ∃(n:Nat),0<n/\n<=2000000000/\k= .int .i64 (n:Nat)/\Hid (∃E,Zf w B g cap d E wr/\Runs Z2z n E)) (fun k _ _ _=>N-(intOf k).toNat)
   case atStart=>exact⟨20,by omega,by omega,rfl,HE.out⟩
   case round=>
    obtain⟨n,hn0,hn1,rfl,HE2⟩:=hrel
    by_cases hlt:n<N
    ·have hlt2:(n:Int)<N:=by omega
     obtain⟨n2,hn2⟩: ∃n2,2*n=n2:=⟨_,rfl⟩
     have HN2:=Lib.hid hn2
     have rn2:(2:Int)*n=n2:=by omega
     have rn3:(n:Int)*2=n2:=by omega
     have hn3:n2<=2000000000:=by omega
     clear hn2
     go_wp2_with fail
     go_loopw [7,8] (fun i j wr=> ∃(q a b:Nat) (D:List Z0),a<=N/\b<=4000000000/\i= .int .i64 (a:Nat)/\j= .int .i64 (b:Nat)/\Hid (a=q*(2*n)/\b=a+n2)/\Hid (Zf w B g cap d D wr)/\Hid (Half Z2z n q D)) (fun i _ _=>N+1-(intOf i).toNat)
     case atStart=>
      obtain⟨E,m1,m2⟩:=HE2.out
      exact⟨0,0,n2,E,by omega,by omega,rfl,rfl,⟨by omega,by omega⟩,m1,Half.start hn0 m2⟩
     case round=>
      obtain⟨q,a,b,D,ha,hb,rfl,rfl,HV,HM0,HT⟩:=hrel
      obtain⟨m,hm⟩: ∃m,a+n=m:=⟨_,rfl⟩
      have HMm:=Lib.hid hm
      have rm:(a:Int)+n=m:=by omega
      have hm1:m<=4000000000:=by omega
      clear hm
      by_cases hle:b<=N
      ·have hle2:(b:Int)<=N:=by omega
       first|cases isS;refine hv (p:=Hid (Calls Tryz.prog 284 #[.slice (some ⟨g,0,none⟩) N cap,.int .i64 a,.int .i64 m,.int .i64 b,(.func (.func 118) #[] #[])] wr fun e w'=>e= .returned (.tuple #[])/\SegS wr B g cap D a b w')) ?_ ?_|cases isA;refine hv (p:=Hid (Calls Tryz.prog 286 #[.slice (some ⟨g,0,none⟩) N cap,.int .i64 a,.int .i64 m,.int .i64 b,(.func (.func 120) #[] #[])] wr fun e w'=>e= .returned (.tuple #[])/\SegA wr B g cap D a b w')) ?_ ?_|refine hv (p:=Hid (Calls Tryz.prog 288 #[.slice (some ⟨g,0,none⟩) N cap,.int .i64 a,.int .i64 m,.int .i64 b,(.func (.func 122) #[] #[])] wr fun e w'=>e= .returned (.tuple #[])/\SegF wr B g cap D a b w')) ?_ ?_
       ·obtain⟨v1,v2⟩:=HV.out
        have v3:=HMm.out
        have v4:=HN2.out
        obtain⟨p1,p2⟩:=HT.out.parts
        refine Zg B g cap D a m b N wr HM0.out.row (HM0.out.len.trans HN.out) (by omega) (by omega) hle hn (by rw[<-v3,v1];exact p1) ?_
        unfold segS
        rw[show b-m=n by omega,<-v3,v1];exact p2
       intro HM
       go_wp2_with((first|go_at_call 284|go_at_call 286|go_at_call 288);(with_reducible refine HM.out.mono ?_);rintro e2 W2 ⟨rfl,hs2⟩;have HS2:=Lib.hid hs2;clear hs2)
       go_roundw
       case rel=>
        obtain⟨v1,v2⟩:=HV.out
        have v4:=HN2.out
        obtain⟨s,m1,m2,m3⟩:=HM0.out.seg HS2.out (by omega) (by have:=HN.out;omega)
        refine⟨q+1,b,b+n2,_,by omega,by omega,by go_num,by go_num,⟨by rw[Nat.succ_mul];omega,rfl⟩,m1, ?_⟩
        have h9:=Half.next HT.out (by have:=HM0.out.len;have:=HN.out;omega) (s:=s) (by omega) m2
        rw[v2,v1,<-v4];exact h9
       case measure=>simp[intOf];have:=HV.out;have:=HN2.out;omega
      ·have hle2: ¬(b:Int)<=N:=by omega
       by_cases hmn:m<N
       ·have hmn2:(m:Int)<N:=by omega
        first|cases isS;refine hv (p:=Hid (Calls Tryz.prog 284 #[.slice (some ⟨g,0,none⟩) N cap,.int .i64 a,.int .i64 m,.int .i64 N,(.func (.func 118) #[] #[])] wr fun e w'=>e= .returned (.tuple #[])/\SegS wr B g cap D a N w')) ?_ ?_|cases isA;refine hv (p:=Hid (Calls Tryz.prog 286 #[.slice (some ⟨g,0,none⟩) N cap,.int .i64 a,.int .i64 m,.int .i64 N,(.func (.func 120) #[] #[])] wr fun e w'=>e= .returned (.tuple #[])/\SegA wr B g cap D a N w')) ?_ ?_|refine hv (p:=Hid (Calls Tryz.prog 288 #[.slice (some ⟨g,0,none⟩) N cap,.int .i64 a,.int .i64 m,.int .i64 N,(.func (.func 122) #[] #[])] wr fun e w'=>e= .returned (.tuple #[])/\SegF wr B g cap D a N w')) ?_ ?_
        ·obtain⟨v1,v2⟩:=HV.out
         have v3:=HMm.out
         have v4:=HN2.out
         have v5:=HM0.out.len.trans HN.out
         obtain⟨p1,p2⟩:=HT.out.parts
         refine Zg B g cap D a m N N wr HM0.out.row v5 (by omega) hmn (Nat.le_refl _) hn (by rw[<-v3,v1];exact p1) ?_
         unfold segS
         rw[<-v1,v3,List.take_of_length_le (by rw[List.length_drop];omega)]at p2
         rw[List.take_of_length_le (by rw[List.length_drop];omega)];exact p2
        intro HM
        go_wp2_with((first|go_at_call 284|go_at_call 286|go_at_call 288);(with_reducible refine HM.out.mono ?_);rintro e2 W2 ⟨rfl,hs2⟩;have HS2:=Lib.hid hs2;clear hs2)
        go_roundw
        case rel=>
         obtain⟨v1,v2⟩:=HV.out
         have v4:=HN2.out
         have v5:=HM0.out.len.trans HN.out
         obtain⟨s,m1,m2,m3⟩:=HM0.out.seg HS2.out ha (by have:=HN.out;omega)
         refine⟨n2,by omega,hn3,by go_num,_,m1, ?_⟩
         have h9:=Half.last hn0 HT.out (by omega) (by omega) (s:=s) (by omega) m2
         rw[v5,<-v1,v4]at h9
         exact h9
        case measure=>simp[intOf];have:=HN2.out;omega
       ·have hmn2: ¬(m:Int)<N:=by omega
        go_wp2_with fail
        go_roundw
        case rel=>
         obtain⟨v1,v2⟩:=HV.out
         have v3:=HMm.out
         have v4:=HN2.out
         have v5:=HM0.out.len.trans HN.out
         refine⟨n2,by omega,hn3,by go_num,D,HM0.out, ?_⟩
         have h9:=Half.stay hn0 HT.out (by omega) (by omega)
         rw[v4]at h9
         exact h9
        case measure=>simp[intOf];have:=HN2.out;omega
    ·have hlt2: ¬(n:Int)<N:=by omega
     go_wp2_with fail
     go_end0
     obtain⟨E,m1,m2⟩:=HE2.out
     exact⟨rfl,m1.turned,E,m1.row,m2.whole (by have:=m1.len;have:=HN.out;omega),m1.alike⟩):P:=h
theorem stableS_any (B g cap:Nat) (d:List Bs) (w:World) (h:RowS w B g cap d) (hn:d.length<=1000000000):
  Calls Tryz.prog 257 #[.slice (some ⟨g,0,none⟩) d.length cap,.int .i64 d.length,(.func (.func 118) #[] #[])] w fun e w'=>e= .returned (.tuple #[])/\SrtS w B g cap d w':=unS311
open Go.Proofs.YtiikamobcmgekaaGreatDoor renaming stableS_any→Zj
theorem unS312 {P:Prop} (h:P:=by
 have hmx:=mxd
 first|go_enter Tryz.func283,Tryz.ntmps283|go_enter Tryz.func285,Tryz.ntmps285|go_enter Tryz.func287,Tryz.ntmps287
 go_wp2_with fail
 go_loopw [8] (fun i wr=>i= .int .i64 1/\w=wr) (fun _ _=>0)
 case atStart=>exact⟨rfl,rfl⟩
 case round=>
  obtain⟨rfl,rfl⟩:=hrel
  go_wp2_with fail
  go_end0
  exact⟨rfl,rfl⟩):P:=h
theorem insNilS_any (A:Option Addr) (cap:Nat) (w:World):
  Calls Tryz.prog 283 #[.slice A 0 cap,.int .i64 0,.int .i64 0,(.func (.func 118) #[] #[])] w fun e w'=>e= .returned (.tuple #[])/\w=w':=unS312
open Go.Proofs.YtiikamobcmgekaaGreatDoor renaming insNilS_any→Zh
theorem unS313 {P:Prop} (h:P:=by
 have hmx:=mxd
 have HI:=Lib.hid (Zh A cap w)
 first|go_enter Tryz.func257,Tryz.ntmps257|go_enter Tryz.func258,Tryz.ntmps258|go_enter Tryz.func259,Tryz.ntmps259
 go_wp2_with fail
 go_loopw [7,8] (fun i j wr=>i= .int .i64 0/\j= .int .i64 20/\w=wr) (fun _ _ _=>0)
 case atStart=>exact⟨rfl,rfl,rfl⟩
 case round=>
  obtain⟨rfl,rfl,rfl⟩:=hrel
  go_wp2_with((first|go_at_call 283|go_at_call 285|go_at_call 287);(with_reducible refine HI.out.mono ?_);rintro e2 W2 ⟨rfl,rfl⟩)
  go_loopw [6,7,8] (fun k _ _ wr=>k= .int .i64 20/\w=wr) (fun _ _ _ _=>0)
  case atStart=>exact⟨rfl,rfl⟩
  case round=>
   obtain⟨rfl,rfl⟩:=hrel
   go_wp2_with fail
   go_end0
   exact⟨rfl,rfl⟩):P:=h
theorem stableNilS_any (A:Option Addr) (cap:Nat) (w:World):
  Calls Tryz.prog 257 #[.slice A 0 cap,.int .i64 0,(.func (.func 118) #[] #[])] w fun e w'=>e= .returned (.tuple #[])/\w=w':=unS313
open Go.Proofs.YtiikamobcmgekaaGreatDoor renaming stableNilS_any→Zi
theorem unS314 {P:Prop} (h:P:=by
 have hmx:=mxd
 have HI:=Lib.hid (Zi A cap w)
 first|go_enter Tryz.func192,Tryz.ntmps192|go_enter Tryz.func197,Tryz.ntmps197|go_enter Tryz.func202,Tryz.ntmps202
 go_wp2_with((first|go_at_call 257|go_at_call 258|go_at_call 259);(with_reducible refine HI.out.mono ?_);rintro e2 W2 ⟨rfl,rfl⟩)
 go_end0
 exact⟨rfl,rfl⟩):P:=h
theorem sortNilS_any (A:Option Addr) (cap:Nat) (w:World):
  Calls Tryz.prog 192 #[.slice A 0 cap,(.func (.func 118) #[] #[])] w fun e w'=>e= .returned (.tuple #[])/\w=w':=unS314
open Go.Proofs.YtiikamobcmgekaaGreatDoor renaming sortNilS_any→Zr
theorem unS315 {P:Prop} (h:P:=by
 have hmx:=mxd
 have HI:=Lib.hid (Zj B g cap d w h hn)
 clear h
 obtain⟨N,hN⟩: ∃N,d.length=N:=⟨_,rfl⟩
 rw[hN]at HI hn ⊢
 clear hN
 first|go_enter Tryz.func192,Tryz.ntmps192|go_enter Tryz.func197,Tryz.ntmps197|go_enter Tryz.func202,Tryz.ntmps202
 go_wp2_with((first|go_at_call 257|go_at_call 258|go_at_call 259);(with_reducible refine HI.out.mono ?_);rintro e2 W2 ⟨rfl,hs2⟩;have HS2:=Lib.hid hs2;clear hs2)
 go_end0
 exact⟨rfl,HS2.out⟩):P:=h
theorem sortS_any (B g cap:Nat) (d:List Bs) (w:World) (h:RowS w B g cap d) (hn:d.length<=1000000000):
  Calls Tryz.prog 192 #[.slice (some ⟨g,0,none⟩) d.length cap,(.func (.func 118) #[] #[])] w fun e w'=>e= .returned (.tuple #[])/\SrtS w B g cap d w':=unS315
open Go.Proofs.YtiikamobcmgekaaGreatDoor renaming sortS_any→Zu
theorem sltS:SlT Tryz.prog 47 9 (.string ⟨#[]⟩) 1 16:=⟨by kernel_rfl,by kernel_rfl,by kernel_rfl,by decide⟩
theorem cells_oneS (d:List Bs): ∀u∈d.map sv,u.oneCell'=true:=by
 intro u hu
 obtain⟨x,_,rfl⟩:=List.mem_map.1 hu;rfl
open Go.Proofs.YtiikamobcmgekaaGreatDoor renaming cells_oneS→Zk
theorem unS316 {P:Prop} (h:P:=by
 have hmx:=mxd
 first
  |cases isS
   have q22: ∀(w:World) (a:Option Addr) (n c n' c':Nat),(binOp .eql 47 (.slice a n c) (.slice none n' c')).run Tryz.prog w= .ok (.bool a.isNone) w:=fun w a n c n' c'=>Lib.run_eql_slice_nil w _ 9 a n c n' c' (by kernel_rfl)
   go_enter Tryz.func191,Tryz.ntmps191
  |cases isA
   have q22: ∀(w:World) (a:Option Addr) (n c n' c':Nat),(binOp .eql 48 (.slice a n c) (.slice none n' c')).run Tryz.prog w= .ok (.bool a.isNone) w:=fun w a n c n' c'=>Lib.run_eql_slice_nil w _ 101 a n c n' c' (by kernel_rfl)
   go_enter Tryz.func196,Tryz.ntmps196
  |have q22: ∀(w:World) (a:Option Addr) (n c n' c':Nat),(binOp .eql 49 (.slice a n c) (.slice none n' c')).run Tryz.prog w= .ok (.bool a.isNone) w:=fun w a n c n' c'=>Lib.run_eql_slice_nil w _ 103 a n c n' c' (by kernel_rfl)
   go_enter Tryz.func201,Tryz.ntmps201
 go_wp2_with fail
 go_ret
 exact⟨rfl,rfl⟩):P:=h
theorem cloneNilS_any (n c:Nat) (w:World):Calls Tryz.prog 191 #[.slice none n c] w fun e w'=>e= .returned (.slice none 0 0)/\w=w':=unS316
open Go.Proofs.YtiikamobcmgekaaGreatDoor renaming cloneNilS_any→Zq
theorem unS317 {P:Prop} (h:P:=by
 have hmx:=mxd
 first
  |cases isS
   have q22: ∀(w:World) (a:Option Addr) (n c n' c':Nat),(binOp .eql 47 (.slice a n c) (.slice none n' c')).run Tryz.prog w= .ok (.bool a.isNone) w:=fun w a n c n' c'=>Lib.run_eql_slice_nil w _ 9 a n c n' c' (by kernel_rfl)
   have HC:Hid (∀j u,(d.map sv)[j]? =some u->w.cell? (ad.add j)=some u):=fun j u hj=>by
    obtain⟨h1,_,A,c',h3,h4⟩:=h
    cases h3
    have hj1:=(List.getElem?_eq_some_iff.1 hj).1
    obtain⟨b,off,h5,_,h7⟩:=h4 (by omega)
    cases h5
    rw[Addr.add_lit]
    exact h7 j u hj
  |cases isA
   have q22: ∀(w:World) (a:Option Addr) (n c n' c':Nat),(binOp .eql 48 (.slice a n c) (.slice none n' c')).run Tryz.prog w= .ok (.bool a.isNone) w:=fun w a n c n' c'=>Lib.run_eql_slice_nil w _ 101 a n c n' c' (by kernel_rfl)
   have HC:Hid (∀j u,(d.flatMap Alw.cells)[j]? =some u->w.cell? (ad.add j)=some u):=fun j u hj=>by
    obtain⟨h1,_,A,c',h3,h4⟩:=h
    cases h3
    have hj1:=(List.getElem?_eq_some_iff.1 hj).1
    obtain⟨b,off,h5,_,h7⟩:=h4 (by omega)
    cases h5
    rw[Addr.add_lit]
    exact h7 j u hj
  |have q22: ∀(w:World) (a:Option Addr) (n c n' c':Nat),(binOp .eql 49 (.slice a n c) (.slice none n' c')).run Tryz.prog w= .ok (.bool a.isNone) w:=fun w a n c n' c'=>Lib.run_eql_slice_nil w _ 103 a n c n' c' (by kernel_rfl)
   have HC:Hid (∀j u,(d.flatMap Frc.cells)[j]? =some u->w.cell? (ad.add j)=some u):=fun j u hj=>by
    obtain⟨h1,_,A,c',h3,h4⟩:=h
    cases h3
    have hj1:=(List.getElem?_eq_some_iff.1 hj).1
    obtain⟨b,off,h5,_,h7⟩:=h4 (by omega)
    cases h5
    rw[Addr.add_lit]
    exact h7 j u hj
 have H1:=Lib.hid (Zk d)
 have HL:=Lib.hid h.1
 clear h
 obtain⟨N,hN⟩: ∃N,d.length=N:=⟨_,rfl⟩
 rw[hN]at HL hn ⊢
 clear hN
 first
  |cases isS
   generalize d.map sv=cs at*
   go_enter Tryz.func191,Tryz.ntmps191
   go_wp2_with(at_builtin;refine append_abs rfl _ _ 47 rfl sltS w.heap.size rfl (own_lit (c:= #[]) (n:=0) (size:=1) rfl (by unfold maxLen;omega)) (by simp[go_sem]) ad N c cs rfl HL.out (fun j u hj=>Lib.cell?_alloc_some _ (HC.out j u hj)) H1.out (by unfold maxLen;omega) (by omega) ?_;intro v1 W1 hown1 hg1)
  |cases isA
   generalize d.flatMap Alw.cells=cs at*
   go_enter Tryz.func196,Tryz.ntmps196
   go_wp2_with(at_builtin;refine append_abs rfl _ _ 48 rfl sltA w.heap.size rfl (own_lit (c:= #[]) (n:=0) (size:=2) rfl (by unfold maxLen;omega)) (by simp[go_sem]) ad N c cs rfl HL.out (fun j u hj=>Lib.cell?_alloc_some _ (HC.out j u hj)) H1.out (by unfold maxLen;omega) (by omega) ?_;intro v1 W1 hown1 hg1)
  |generalize d.flatMap Frc.cells=cs at*
   go_enter Tryz.func201,Tryz.ntmps201
   go_wp2_with(at_builtin;refine append_abs rfl _ _ 49 rfl sltF w.heap.size rfl (own_lit (c:= #[]) (n:=0) (size:=3) rfl (by unfold maxLen;omega)) (by simp[go_sem]) ad N c cs rfl HL.out (fun j u hj=>Lib.cell?_alloc_some _ (HC.out j u hj)) H1.out (by unfold maxLen;omega) (by omega) ?_;intro v1 W1 hown1 hg1)
 go_ret
 refine⟨v1,rfl,by simpa using hown1, ?_⟩
 first|cases isS;exact(own_step (w:=w) hg1 (own_lit (c:= #[]) (n:=0) (size:=1) rfl (by unfold maxLen;omega)) ((Below.refl _ _).alloc (Nat.le_refl _) _)).out|cases isA;exact(own_step (w:=w) hg1 (own_lit (c:= #[]) (n:=0) (size:=2) rfl (by unfold maxLen;omega)) ((Below.refl _ _).alloc (Nat.le_refl _) _)).out|exact(own_step (w:=w) hg1 (own_lit (c:= #[]) (n:=0) (size:=3) rfl (by unfold maxLen;omega)) ((Below.refl _ _).alloc (Nat.le_refl _) _)).out):P:=h
theorem cloneS_any (ad:Addr) (c:Nat) (d:List Bs) (w:World) (h:Rd w (.slice (some ad) d.length c) d.length 1 (d.map sv)) (hn:d.length<=1000000000):
  Calls Tryz.prog 191 #[.slice (some ad) d.length c] w fun e w'=> ∃v',e= .returned v'/\w'.ownsRow w.heap.size 9 1 v' d.length (d.map sv)/\Below w.heap.size w w':=unS317
open Go.Proofs.YtiikamobcmgekaaGreatDoor renaming cloneS_any→Zt
theorem unS318 {P:Prop} (h:P:=by
 have hmx:=mxd
 have HC:=Lib.hid (fun W=>Z4z x y W)
 have hb:=World.block_lt_of_cell? W _ hc
 first
  |cases isS
   simp only[sv]at HC ⊢
   generalize cmpB x y=cm at*
   go_enter Tryz.func194,Tryz.ntmps194
  |cases isA
   simp only[Alw.agg,sv]at HC ⊢
   generalize cmpP (x).key (y).key=cm at*
   go_enter Tryz.func199,Tryz.ntmps199
  |simp only[Frc.agg,sv]at HC ⊢
   generalize cmpP (x).key (y).key=cm at*
   go_enter Tryz.func204,Tryz.ntmps204
 go_wp2_with((first|go_at_call 118|go_at_call 120|go_at_call 122);(with_reducible refine(HC.out _).mono ?_);rintro e w' ⟨rfl,X,rfl⟩)
 go_ret
 exact Ret.of rfl bel):P:=h
theorem sameS_any (b:Nat) (x y:Bs) (W:World) (hc:W.cell? ⟨b,0,none⟩=some (.func (.func 118) #[] #[])):Calls Tryz.prog 194 #[sv x,sv y,.pointer (some ⟨b,0,none⟩)] W (Ret (.bool (cmpB x y==0)) W):=unS318
theorem compactNilS_any (A:Option Addr) (cap:Nat) (f:Value) (w:World):Calls Tryz.prog 193 #[.slice A 0 cap,f] w fun e w'=>e= .returned (.slice A 0 cap)/\w=w':=by
 have hmx:=mxd
 go_enter Tryz.func193,Tryz.ntmps193
 go_wp2_with fail
 go_ret
 exact⟨rfl,rfl⟩
open Go.Proofs.YtiikamobcmgekaaGreatDoor renaming compactNilS_any→Zs
def eqS (y x:Bs):Bool:=cmpB y x==0
open Go.Proofs.YtiikamobcmgekaaGreatDoor renaming eqS→Zl
def CmpS (w:World) (B g cap:Nat) (d:List Bs) (w':World):Prop:=Turned (fun k=>k=g) w w'/\ ∃E,RowS w' B g cap E/\E.length=d.length/\E.take (compactL eqS d).length=compactL eqS d
open Go.Proofs.YtiikamobcmgekaaGreatDoor renaming CmpS→Zm
theorem RowS.clear {B g cap:Nat}: ∀(n o:Nat) (E:List Bs) (W:World),RowS W B g cap E->o+n<=E.length->
  ∃E',RowS (W.setCells g o (List.replicate n (sv []))) B g cap E'/\E'.length=E.length/\E'.take o=E.take o/\Turned (fun k=>k=g) W (W.setCells g o (List.replicate n (sv []))):=by
 intro n
 induction n with
 |zero=>intro o E W h _;exact⟨E,h,rfl,rfl,Turned.refl _ _⟩
 |succ n ih=>
  intro o E W h ho
  obtain⟨E',h1,h2,h3,h4⟩:=ih (o+1) (E.set o []) _ (h.set o (by omega) []) (by rw[List.length_set];omega)
  refine⟨E',h1,by rw[h2,List.length_set], ?_,((Turned.refl (fun k=>k=g) W).setCell (p:=⟨g,o,none⟩) (.inr rfl) (sv [])).trans h4⟩
  have h5:=congrArg (List.take o) h3
  rw[List.take_take,List.take_take,Nat.min_eq_left (by omega),List.take_set_of_le (Nat.le_refl _)]at h5
  exact h5
theorem zero_str (w:World):(zeroValue 9).run Tryz.prog w= .ok (.string ⟨#[]⟩) w:=by kernel_rfl
theorem unS319 {P:Prop} (h:P:=by
 have hmx:=mxd
 have hb:=World.block_lt_of_cell? w _ hc
 have hgl:=row_lt h
 have hcap:d.length<=cap:=by
  rcases h.2 with⟨h1,_⟩|⟨g',cap',cur,h1,_,_,h3,_⟩
  ·cases h1
  ·cases h1;exact h3
 by_cases h2:d.length<2
 ·have h2i:decide ((d.length:Int)<2)=true:=by simp;omega
  have hcl:compactL Zl d=d:=by
   cases d with
   |nil=>rfl
   |cons x r=>
    cases r with
    |nil=>rfl
    |cons y r=>simp only[List.length_cons]at h2;omega
  rw[hcl]
  have HE:Hid (Zm w B g cap d w):=⟨Turned.refl _ _,d,h,rfl,by rw[hcl,List.take_length]⟩
  obtain⟨N,hN⟩: ∃N,d.length=N:=⟨_,rfl⟩
  rw[hN]at h2 h2i ⊢
  clear hcl hn h hN hcap
  first|go_enter Tryz.func193,Tryz.ntmps193|go_enter Tryz.func198,Tryz.ntmps198|go_enter Tryz.func203,Tryz.ntmps203
  go_wp2_with fail
  go_ret
  exact⟨rfl,HE.out⟩
 have h2i:decide ((d.length:Int)<2)=false:=by simp;omega
 obtain⟨N,hN⟩: ∃N,d.length=N:=⟨_,rfl⟩
 obtain⟨m,hm⟩: ∃m,(compactL Zl d).length=m:=⟨_,rfl⟩
 have HM:=Lib.hid hm
 have HN:=Lib.hid hN
 have HR:=Lib.hid h
 have HC0:=Lib.hid hc
 rw[hm,hN]
 rw[hN]at hn h2 h2i hcap
 clear hm hN h hc
 first|go_enter Tryz.func193,Tryz.ntmps193|go_enter Tryz.func198,Tryz.ntmps198|go_enter Tryz.func203,Tryz.ntmps203
 go_wp2_with fail
 go_loopw [5] (fun i wr=> ∃(k:Nat),0<k/\k<=N/\i= .int .i64 (k:Nat)/\Hid (Below w.heap.size w wr)/\Hid (∀x,d[k-1]? =some x->compactL Zl d=d.take k++keepF Zl x (d.drop k))) (fun i _=>N-(intOf i).toNat)
 case atStart=>
  refine⟨1,by omega,by omega,rfl,Below.refl _ _,fun x hx=> ?_⟩
  cases d with
  |nil=>simp at hx
  |cons y r=>simp at hx;subst hx;rfl
 case round=>
  obtain⟨k,hk0,hkN,rfl,HB,HK⟩:=hrel
  by_cases hlt:k<N
  ·have hlt2:(k:Int)<N:=by omega
   obtain⟨p,hp⟩: ∃p,k-1=p:=⟨_,rfl⟩
   have rp:(k:Int)-1=p:=by omega
   have HP:=Lib.hid hp
   obtain⟨x,hx⟩: ∃x,d[p]? =some x:=⟨d[p]'(by have:=HN.out;omega),List.getElem?_eq_getElem _⟩
   obtain⟨y,hy⟩: ∃y,d[k]? =some y:=⟨d[k]'(by have:=HN.out;omega),List.getElem?_eq_getElem _⟩
   have HR5:Hid (Z1 wr B g cap d):=HR.out.turned (Turned.of_below (pv:=fun _=>False) HB.out) (fun h=>h)
   first
    |cases isS
     have c0:=HR5.out.cell hx
     have z0:=HR5.out.cell hy
     simp only[sv]at c0 z0
    |cases isA
     obtain⟨u0,u1⟩:=HR5.out.cell hx
     obtain⟨z0,z1⟩:=HR5.out.cell hy
     simp only[sv]at u0 u1 z0 z1
    |obtain⟨u0,u1,u2⟩:=HR5.out.cell hx
     obtain⟨z0,z1,z2⟩:=HR5.out.cell hy
     simp only[sv]at u0 u1 u2 z0 z1 z2
   have hgw:g<wr.heap.size:=Nat.lt_of_lt_of_le hgl HB.out.size
   have hpN:p<N:=by omega
   first
    |cases isS
     have HE:Hid (∀W,Below wr.heap.size wr W->Calls Tryz.prog 194 #[.string ⟨y.toArray⟩,.string ⟨x.toArray⟩,.pointer (some ⟨b,0,none⟩)] W (Ret (.bool (eqS y x)) W)):=fun W hW=>
      sameS_any b y x W (((HB.out.trans (hW.mono HB.out.size)).cell hb).trans HC0.out)
    |cases isA
     have HE:Hid (∀W,Below wr.heap.size wr W->Calls Tryz.prog 199 #[.agg #[.string ⟨y.tag.toArray⟩,.string ⟨y.name.toArray⟩],.agg #[.string ⟨x.tag.toArray⟩,.string ⟨x.name.toArray⟩],.pointer (some ⟨b,0,none⟩)] W (Ret (.bool (eqA y x)) W)):=fun W hW=>
      sameA_any b y x W (((HB.out.trans (hW.mono HB.out.size)).cell hb).trans HC0.out)
    |have HE:Hid (∀W,Below wr.heap.size wr W->Calls Tryz.prog 204 #[.agg #[.string ⟨y.tag.toArray⟩,.string ⟨y.name.toArray⟩,.string ⟨y.value.toArray⟩],.agg #[.string ⟨x.tag.toArray⟩,.string ⟨x.name.toArray⟩,.string ⟨x.value.toArray⟩],.pointer (some ⟨b,0,none⟩)] W (Ret (.bool (eqF y x)) W)):=fun W hW=>
      sameF_any b y x W (((HB.out.trans (hW.mono HB.out.size)).cell hb).trans HC0.out)
   have HXY:=Lib.hid (And.intro hx hy)
   clear hp hx hy
   cases hq:Zl y x
   ·have HQ:=Lib.hid hq
    rw[hq]at HE
    clear hq
    go_wp2_with fail
    refine wp_region_grow (by kernel_rfl) (by kernel_rfl) ?_
    repeat(go_big_quiet_step(((first|go_at_call 194|go_at_call 199|go_at_call 204);with_reducible exact Calls.grow_of (HE.out _ bel))))
    refine wpQuiet_nil ?_
    intro _ hw';obtain⟨nq,hw''⟩:=hw';subst hw''
    go_wp2_with fail
    go_roundw
    case rel=>
     refine⟨k+1,by omega,by omega,by go_num,below_next HB.out (below_grow _ _),fun x' hx'=> ?_⟩
     have h9:=HK.out x (by rw[HP.out];exact HXY.out.1)
     rw[keep_step HXY.out.2,HQ.out]at h9
     rw[show k+1-1=k by omega,HXY.out.2]at hx'
     cases hx'
     have h8:d.take (k+1)=d.take k++[y]:=by rw[List.take_add_one,HXY.out.2];rfl
     rw[h9,h8];simp
    case measure=>simp[intOf];omega
   ·have HQ:=Lib.hid hq
    rw[hq]at HE
    clear hq
    go_wp2_with fail
    refine wp_region_grow (by kernel_rfl) (by kernel_rfl) ?_
    repeat(go_big_quiet_step(((first|go_at_call 194|go_at_call 199|go_at_call 204);with_reducible exact Calls.grow_of (HE.out _ bel))))
    refine wpQuiet_nil ?_
    intro _ hw';obtain⟨nq,hw''⟩:=hw';subst hw''
    obtain⟨n2,hn2⟩: ∃n2,N-k=n2:=⟨_,rfl⟩
    have rn2:(N:Int)-k=n2:=by omega
    have hk9:k+n2=N:=by omega
    have HK9:=Lib.hid hk9
    have hn29:0<n2/\n2<=N:=by omega
    obtain⟨hn20,hn21⟩:=hn29
    clear hn2 hk9
    have HK0:Hid (compactL Zl d=d.take k++keepF Zl y (d.drop (k+1))):=by
     have h9:=HK.out x (by rw[HP.out];exact HXY.out.1)
     rw[keep_step HXY.out.2,HQ.out]at h9
     exact h9
    obtain⟨c2,hc2⟩: ∃c2,cap-k=c2:=⟨_,rfl⟩
    have rc2:(cap:Int)-k=c2:=by omega
    have HC2:=Lib.hid hc2
    clear hc2
    have j0:(0:Int)<=k/\(k:Int)<=N/\(N:Int)<=cap:=by omega
    have j1: ¬cap=k:=by omega
    have j2:k<=cap:=by omega
    have j3:cap-k=c2:=HC2.out
    have j4:N-k=n2:=by have:=HK9.out;omega
    go_wp2_with fail
    first|cases isS;clear HE c0 z0 HR5 HK|cases isA;clear HE u0 u1 z0 z1 HR5 HK|clear HE u0 u1 u2 z0 z1 z2 HR5 HK
    go_loopw [5,7] (fun s5 s7 wv=> ∃(k1 i:Nat) (E:List Z0),k<=k1/\0<i/\i<=n2/\k1+1<=k+i/\s5= .int .i64 (k1:Nat)/\s7= .int .i64 (i:Nat)/\Hid (Turned (fun k=>k=g) w wv)/\Hid (Z1 wv B g cap E)/\Hid (E.length=N/\(∀j,k+i<=j+1->E[j]? =d[j]?)/\ ∀x,d[k+i-1]? =some x->compactL Zl d=E.take k1++keepF Zl x (d.drop (k+i)))) (fun _ s7 _=>N-(intOf s7).toNat)
    case atStart=>
     refine⟨k,1,d,by omega,by omega,by omega,by omega,rfl,rfl,Turned.of_below (below_next HB.out bel),HR.out.turned (Turned.of_below (pv:=fun _=>False) (below_next HB.out bel)) (fun h=>h),HN.out,fun _ _=>rfl,fun x' hx'=> ?_⟩
     rw[show k+1-1=k by omega,HXY.out.2]at hx'
     cases hx'
     exact HK0.out
    case round=>
     obtain⟨k1,i,E,a1,a2,a3,a4,rfl,rfl,HTu,HRo,HEq⟩:=hrel
     by_cases hi:i<n2
     ·have hi2:(i:Int)<n2:=by omega
      obtain⟨p2,hp2⟩: ∃p2,i-1=p2:=⟨_,rfl⟩
      have rp2:(i:Int)-1=p2:=by omega
      have HP2:=Lib.hid hp2
      have a5:k+i<N:=by have:=HK9.out;omega
      obtain⟨x2,hx2⟩: ∃x2,d[k+p2]? =some x2:=⟨d[k+p2]'(by have:=HN.out;omega),List.getElem?_eq_getElem _⟩
      obtain⟨y2,hy2⟩: ∃y2,d[k+i]? =some y2:=⟨d[k+i]'(by have:=HN.out;omega),List.getElem?_eq_getElem _⟩
      obtain⟨z2,hz2⟩: ∃z2,E[k1]? =some z2:=⟨E[k1]'(by have:=HEq.out.1;omega),List.getElem?_eq_getElem _⟩
      first
       |cases isS
        have c0:=HRo.out.cell (i:=k+p2) (x:=x2) (by rw[HEq.out.2.1 _ (by omega)];exact hx2)
        have z0:=HRo.out.cell (i:=k+i) (x:=y2) (by rw[HEq.out.2.1 _ (by omega)];exact hy2)
        have e0:=HRo.out.cell hz2
        have f0:=HRo.out.frozen k1
        simp only[sv]at c0 z0 e0
       |cases isA
        obtain⟨u0,u1⟩:=HRo.out.cell (i:=k+p2) (x:=x2) (by rw[HEq.out.2.1 _ (by omega)];exact hx2)
        rw[show(k+p2)*2=k*2+p2*2 by omega]at u0
        rw[show(k+p2)*2+1=k*2+p2*2+1 by omega]at u1
        obtain⟨z0,z1⟩:=HRo.out.cell (i:=k+i) (x:=y2) (by rw[HEq.out.2.1 _ (by omega)];exact hy2)
        rw[show(k+i)*2=k*2+i*2 by omega]at z0
        rw[show(k+i)*2+1=k*2+i*2+1 by omega]at z1
        obtain⟨e0,e1⟩:=HRo.out.cell hz2
        have f0:=HRo.out.frozen (k1*2)
        have f1:=HRo.out.frozen (k1*2+1)
        simp only[sv]at u0 u1 z0 z1 e0 e1
       |obtain⟨u0,u1,u2⟩:=HRo.out.cell (i:=k+p2) (x:=x2) (by rw[HEq.out.2.1 _ (by omega)];exact hx2)
        rw[show(k+p2)*3=k*3+p2*3 by omega]at u0
        rw[show(k+p2)*3+1=k*3+p2*3+1 by omega]at u1
        rw[show(k+p2)*3+2=k*3+p2*3+2 by omega]at u2
        obtain⟨z0,z1,z2⟩:=HRo.out.cell (i:=k+i) (x:=y2) (by rw[HEq.out.2.1 _ (by omega)];exact hy2)
        rw[show(k+i)*3=k*3+i*3 by omega]at z0
        rw[show(k+i)*3+1=k*3+i*3+1 by omega]at z1
        rw[show(k+i)*3+2=k*3+i*3+2 by omega]at z2
        obtain⟨e0,e1,e2⟩:=HRo.out.cell hz2
        have f0:=HRo.out.frozen (k1*3)
        have f1:=HRo.out.frozen (k1*3+1)
        have f2:=HRo.out.frozen (k1*3+2)
        simp only[sv]at u0 u1 u2 z0 z1 z2 e0 e1 e2
      have hgw2:=row_lt HRo.out
      have a6:p2<n2/\k1<N:=by omega
      obtain⟨a6,a7⟩:=a6
      first
       |cases isS
        have HE:Hid (∀W,Below wr.heap.size wr W->Calls Tryz.prog 194 #[.string ⟨y2.toArray⟩,.string ⟨x2.toArray⟩,.pointer (some ⟨b,0,none⟩)] W (Ret (.bool (eqS y2 x2)) W)):=fun W hW=>by
         refine sameS_any b y2 x2 W ?_
         have h9:=HTu.out.trans (Turned.of_below (pv:=fun k=>k=g) hW)
         have h8:=h9.block b hb hbg
         rw[<-HC0.out]
         simp only[World.cell?,h8]
       |cases isA
        have HE:Hid (∀W,Below wr.heap.size wr W->Calls Tryz.prog 199 #[.agg #[.string ⟨y2.tag.toArray⟩,.string ⟨y2.name.toArray⟩],.agg #[.string ⟨x2.tag.toArray⟩,.string ⟨x2.name.toArray⟩],.pointer (some ⟨b,0,none⟩)] W (Ret (.bool (eqA y2 x2)) W)):=fun W hW=>by
         refine sameA_any b y2 x2 W ?_
         have h9:=HTu.out.trans (Turned.of_below (pv:=fun k=>k=g) hW)
         have h8:=h9.block b hb hbg
         rw[<-HC0.out]
         simp only[World.cell?,h8]
       |have HE:Hid (∀W,Below wr.heap.size wr W->Calls Tryz.prog 204 #[.agg #[.string ⟨y2.tag.toArray⟩,.string ⟨y2.name.toArray⟩,.string ⟨y2.value.toArray⟩],.agg #[.string ⟨x2.tag.toArray⟩,.string ⟨x2.name.toArray⟩,.string ⟨x2.value.toArray⟩],.pointer (some ⟨b,0,none⟩)] W (Ret (.bool (eqF y2 x2)) W)):=fun W hW=>by
         refine sameF_any b y2 x2 W ?_
         have h9:=HTu.out.trans (Turned.of_below (pv:=fun k=>k=g) hW)
         have h8:=h9.block b hb hbg
         rw[<-HC0.out]
         simp only[World.cell?,h8]
      have HXY2:=Lib.hid (And.intro hx2 hy2)
      clear hp2 hx2 hy2 hz2
      cases hq:Zl y2 x2
      ·have HQ2:=Lib.hid hq
       rw[hq]at HE
       clear hq
       go_wp2_with fail
       refine wp_region_grow (by kernel_rfl) (by kernel_rfl) ?_
       repeat(go_big_quiet_step(((first|go_at_call 194|go_at_call 199|go_at_call 204);with_reducible exact Calls.grow_of (HE.out _ bel))))
       refine wpQuiet_nil ?_
       intro _ hw';obtain⟨nq,hw''⟩:=hw';subst hw''
       go_wp2_with fail
       go_roundw
       case rel=>
        have hl:k1<E.length:=by have:=HEq.out.1;omega
        first|cases isS;refine⟨k1+1,i+1,E.set k1 y2,by omega,by omega,by omega,by omega,by go_num,by go_num,(HTu.out.setCell (.inr rfl) _).grow _,(HRo.out.set k1 hl y2).turned (Turned.of_below (pv:=fun _=>False) (below_grow _ _)) (fun h=>h),by rw[List.length_set];exact HEq.out.1,fun j hj=>by rw[List.getElem?_set_ne (by omega)];exact HEq.out.2.1 j (by omega),fun x' hx'=> ?_⟩|cases isA;refine⟨k1+1,i+1,E.set k1 y2,by omega,by omega,by omega,by omega,by go_num,by go_num,((HTu.out.setCell (.inr rfl) _).setCell (.inr rfl) _).grow _,(HRo.out.set k1 hl y2).turned (Turned.of_below (pv:=fun _=>False) (below_grow _ _)) (fun h=>h),by rw[List.length_set];exact HEq.out.1,fun j hj=>by rw[List.getElem?_set_ne (by omega)];exact HEq.out.2.1 j (by omega),fun x' hx'=> ?_⟩|refine⟨k1+1,i+1,E.set k1 y2,by omega,by omega,by omega,by omega,by go_num,by go_num,(((HTu.out.setCell (.inr rfl) _).setCell (.inr rfl) _).setCell (.inr rfl) _).grow _,(HRo.out.set k1 hl y2).turned (Turned.of_below (pv:=fun _=>False) (below_grow _ _)) (fun h=>h),by rw[List.length_set];exact HEq.out.1,fun j hj=>by rw[List.getElem?_set_ne (by omega)];exact HEq.out.2.1 j (by omega),fun x' hx'=> ?_⟩
        have h9:=HEq.out.2.2 x2 (by rw[show k+i-1=k+p2 by have:=HP2.out;omega];exact HXY2.out.1)
        rw[show k+(i+1)-1=k+i by omega,HXY2.out.2]at hx'
        cases hx'
        rw[keep_step HXY2.out.2,HQ2.out]at h9
        have h8:(E.set k1 y2).take (k1+1)=E.take k1++[y2]:=by
         rw[List.set_eq_take_append_cons_drop,if_pos hl,List.take_append,List.take_of_length_le (by rw[List.length_take];omega),List.length_take,Nat.min_eq_left (by omega),show k1+1-k1=1 by omega]
         rfl
        rw[h9,h8,List.append_assoc]
        rfl
       case measure=>simp[intOf];omega
      ·have HQ2:=Lib.hid hq
       rw[hq]at HE
       clear hq
       go_wp2_with fail
       refine wp_region_grow (by kernel_rfl) (by kernel_rfl) ?_
       repeat(go_big_quiet_step(((first|go_at_call 194|go_at_call 199|go_at_call 204);with_reducible exact Calls.grow_of (HE.out _ bel))))
       refine wpQuiet_nil ?_
       intro _ hw';obtain⟨nq,hw''⟩:=hw';subst hw''
       go_wp2_with fail
       go_roundw
       case rel=>
        refine⟨k1,i+1,E,a1,by omega,by omega,by omega,rfl,by go_num,HTu.out.grow _,HRo.out.turned (Turned.of_below (pv:=fun _=>False) (below_grow _ _)) (fun h=>h),HEq.out.1,fun j hj=>HEq.out.2.1 j (by omega),fun x' hx'=> ?_⟩
        have h9:=HEq.out.2.2 x2 (by rw[show k+i-1=k+p2 by have:=HP2.out;omega];exact HXY2.out.1)
        rw[show k+(i+1)-1=k+i by omega,HXY2.out.2]at hx'
        cases hx'
        rw[keep_step HXY2.out.2,HQ2.out]at h9
        exact h9
       case measure=>simp[intOf];omega
     ·have hi2: ¬(i:Int)<n2:=by omega
      have e1:i=n2:=by omega
      subst e1
      have a5:=HK9.out
      have HT9:Hid (k1=m/\E.take m=compactL Zl d):=by
       obtain⟨x2,hx2⟩: ∃x2,d[k+i-1]? =some x2:=⟨d[k+i-1]'(by have:=HN.out;omega),List.getElem?_eq_getElem _⟩
       have h9:=HEq.out.2.2 x2 hx2
       rw[keep_end (by have:=HN.out;omega),List.append_nil]at h9
       have h8:=HM.out
       rw[h9,List.length_take]at h8
       have h7:k1=m:=by have:=HEq.out.1;omega
       exact⟨h7,by rw[<-h7];exact h9.symm⟩
      obtain⟨n3,hn3⟩: ∃n3,N-k1=n3:=⟨_,rfl⟩
      obtain⟨c3,hc3⟩: ∃c3,cap-k1=c3:=⟨_,rfl⟩
      have rn3:(N:Int)-k1=n3:=by omega
      have rc3:(cap:Int)-k1=c3:=by omega
      have b0:(0:Int)<=k1/\(k1:Int)<=N/\(N:Int)<=cap:=by omega
      have b1: ¬cap=k1:=by omega
      have b2:k1<=cap:=by omega
      have b3:0<n3:=by omega
      first
       |cases isS
        have HCl:Hid (∃E',RowS (wr.setCells g k1 (List.replicate n3 (sv []))) B g cap E'/\E'.length=E.length/\E'.take k1=E.take k1/\Turned (fun k=>k=g) wr (wr.setCells g k1 (List.replicate n3 (sv [])))):=
         RowS.clear n3 k1 E wr HRo.out (by have:=HEq.out.1;omega)
        have hcl: ∀ty,(Builtin.clear_ #[47] ty #[.slice (some ⟨g,k1,none⟩) n3 c3]).run Tryz.prog wr= .ok (.tuple #[]) (wr.setCells g k1 (List.replicate n3 (sv []))):=fun ty=>
         Lib.run_clear_slice wr _ 9 ty _ (by kernel_rfl) zero_str rfl rfl g k1 n3 c3 b3 (fun j hj=>by
          obtain⟨z9,hz9⟩: ∃z9,E[k1+j]? =some z9:=⟨E[k1+j]'(by have:=HEq.out.1;omega),List.getElem?_eq_getElem _⟩
          rw[HRo.out.cell hz9];rfl) (fun j _=>HRo.out.frozen _)
        generalize List.replicate n3 (sv [])=zs at*
       |cases isA
        have HCl:Hid (∃E',RowA (wr.setCells g (k1*2) (List.replicate (n3*2) (sv []))) B g cap E'/\E'.length=E.length/\E'.take k1=E.take k1/\Turned (fun k=>k=g) wr (wr.setCells g (k1*2) (List.replicate (n3*2) (sv [])))):=
         RowA.clear n3 k1 E wr HRo.out (by have:=HEq.out.1;omega)
        have hcl: ∀ty,(Builtin.clear_ #[48] ty #[.slice (some ⟨g,k1*2,none⟩) n3 c3]).run Tryz.prog wr= .ok (.tuple #[]) (wr.setCells g (k1*2) (List.replicate (n3*2) (sv []))):=fun ty=>
         run_clear_flatA wr _ 101 ty _ (sv []) 2 (by kernel_rfl) zero_A rfl (by omega) rfl g (k1*2) n3 c3 b3 (fun j hj=>by
          obtain⟨q,r,hr,rfl⟩: ∃q r,r<2/\j=q*2+r:=⟨j/2,j%2,by omega,by omega⟩
          obtain⟨z9,hz9⟩: ∃z9,E[k1+q]? =some z9:=⟨E[k1+q]'(by have:=HEq.out.1;omega),List.getElem?_eq_getElem _⟩
          have h9:=HRo.out.cell hz9
          obtain rfl|rfl:r=0\/r=1:=by omega
          ·rw[show k1*2+(q*2+0)=(k1+q)*2 by omega,h9.1];rfl
          ·rw[show k1*2+(q*2+1)=(k1+q)*2+1 by omega,h9.2];rfl) (fun j _=>HRo.out.frozen _)
        generalize List.replicate (n3*2) (sv [])=zs at*
       |have HCl:Hid (∃E',RowF (wr.setCells g (k1*3) (List.replicate (n3*3) (sv []))) B g cap E'/\E'.length=E.length/\E'.take k1=E.take k1/\Turned (fun k=>k=g) wr (wr.setCells g (k1*3) (List.replicate (n3*3) (sv [])))):=
         RowF.clear n3 k1 E wr HRo.out (by have:=HEq.out.1;omega)
        have hcl: ∀ty,(Builtin.clear_ #[49] ty #[.slice (some ⟨g,k1*3,none⟩) n3 c3]).run Tryz.prog wr= .ok (.tuple #[]) (wr.setCells g (k1*3) (List.replicate (n3*3) (sv []))):=fun ty=>
         run_clear_flatF wr _ 103 ty _ (sv []) 3 (by kernel_rfl) zero_F rfl (by omega) rfl g (k1*3) n3 c3 b3 (fun j hj=>by
          obtain⟨q,r,hr,rfl⟩: ∃q r,r<3/\j=q*3+r:=⟨j/3,j%3,by omega,by omega⟩
          obtain⟨z9,hz9⟩: ∃z9,E[k1+q]? =some z9:=⟨E[k1+q]'(by have:=HEq.out.1;omega),List.getElem?_eq_getElem _⟩
          have h9:=HRo.out.cell hz9
          obtain rfl|rfl|rfl:r=0\/r=1\/r=2:=by omega
          ·rw[show k1*3+(q*3+0)=(k1+q)*3 by omega,h9.1];rfl
          ·rw[show k1*3+(q*3+1)=(k1+q)*3+1 by omega,h9.2.1];rfl
          ·rw[show k1*3+(q*3+2)=(k1+q)*3+2 by omega,h9.2.2];rfl) (fun j _=>HRo.out.frozen _)
        generalize List.replicate (n3*3) (sv [])=zs at*
      clear a5
      go_wp2_with fail
      go_ret
      obtain⟨E',g1,g2,g3,g4⟩:=HCl.out
      obtain⟨t1,t2⟩:=HT9.out
      subst t1
      exact⟨rfl,HTu.out.trans g4,E',g1,by rw[g2,HEq.out.1,HN.out],by rw[HM.out,g3,t2]⟩
  ·have hlt2: ¬(k:Int)<N:=by omega
   have HE:Hid (m=N/\Zm w B g cap d wr):=by
    have h1:k=N:=by omega
    obtain⟨x,hx⟩: ∃x,d[k-1]? =some x:=⟨d[k-1]'(by have:=HN.out;omega),List.getElem?_eq_getElem _⟩
    have h9:=HK.out x hx
    have h8:=HN.out
    rw[keep_end (by omega),List.append_nil,List.take_of_length_le (by omega)]at h9
    have h7:=HM.out
    rw[h9]at h7
    exact⟨by omega,Turned.of_below HB.out,d,HR.out.turned (Turned.of_below (pv:=fun _=>False) HB.out) (fun h=>h),rfl,by rw[h9,List.take_length]⟩
   go_wp2_with fail
   go_ret
   exact⟨by rw[HE.out.1];rfl,HE.out.2⟩):P:=h
theorem compactS_any (B g cap b:Nat) (d:List Bs) (w:World) (h:RowS w B g cap d) (hc:w.cell? ⟨b,0,none⟩=some (.func (.func 118) #[] #[])) (hbg:b≠g) (hn:d.length<=1000000000):
  Calls Tryz.prog 193 #[.slice (some ⟨g,0,none⟩) d.length cap,.func (.func 194) #[] #[.pointer (some ⟨b,0,none⟩)]] w
   fun e w'=>e= .returned (.slice (some ⟨g,0,none⟩) (compactL eqS d).length cap)/\CmpS w B g cap d w':=unS319
open Go.Proofs.YtiikamobcmgekaaGreatDoor renaming compactS_any→Zo
theorem eqS_ev:eqS=ev ltB:=by
 funext y x
 have h1:=cmpB_eq y x
 have h2:=ev_B y x
 unfold eqS
 rw[h2,<-h1,Bool.eq_iff_iff];simp
open Go.Proofs.YtiikamobcmgekaaGreatDoor renaming eqS_ev→Zn
theorem row_readS {W:World} {B g cap:Nat} {E:List Bs} (h:RowS W B g cap E) (m:Nat) (hm:m<=E.length):Rd W (.slice (some ⟨g,0,none⟩) m cap) m 1 ((E.take m).map sv):=by
 have h1:=Rd.part (Rd.own h) m hm
 rw[Nat.mul_one,<-List.map_take]at h1
 exact h1
open Go.Proofs.YtiikamobcmgekaaGreatDoor renaming row_readS→Zp
theorem unS320 {P:Prop} (h:P:=by
 obtain⟨_,S,hr,hu,ha⟩:=hs
 have hl:=Alike.len Z3z _ S d (Nat.le_refl _) ha
 have hne:compactL Zl S=neatL Z2z d:=by rw[Zn];exact neat_sorted Z3z hu ha
 have h9:=Zo B g cap b S W' hr hc hbg (by omega)
 rw[hl,hne]at h9
 refine h9.mono ?_
 rintro e w' ⟨rfl,ht,E,h1,h2,h3⟩
 rw[hne]at h3
 refine⟨rfl,ht, ?_⟩
 have hm:(neatL Z2z d).length<=E.length:=by
  have:=congrArg List.length h3
  rw[List.length_take]at this;omega
 have h4:=Zp h1 _ hm
 rw[h3]at h4
 exact h4):P:=h
theorem sorted_compactS (B g cap b:Nat) (d:List Bs) (W W':World) (hs:SrtS W B g cap d W') (hc:W'.cell? ⟨b,0,none⟩=some (.func (.func 118) #[] #[])) (hbg:b≠g) (hn:d.length<=1000000000):
  Calls Tryz.prog 193 #[.slice (some ⟨g,0,none⟩) d.length cap,.func (.func 194) #[] #[.pointer (some ⟨b,0,none⟩)]] W'
   fun e w'=>e= .returned (.slice (some ⟨g,0,none⟩) (neatL ltB d).length cap)/\Turned (fun k=>k=g) W' w'/\Rd w' (.slice (some ⟨g,0,none⟩) (neatL ltB d).length cap) (neatL ltB d).length 1 ((neatL ltB d).map sv):=unS320
open Go.Proofs.YtiikamobcmgekaaGreatDoor renaming sorted_compactS→Zv
theorem unS321 {P:Prop} (h:P:=by
 have hmx:=mxd
 have hmf: ∀(fn:Fn) (first cap:Array Value) (w:World),(Instr.makeFunc fn first cap).run Tryz.prog w= .ok (.func fn first cap) w:=fun _ _ _ _=>rfl
 cases A with
 |none=>
  have h0:=Rd.none_nil h
  obtain rfl:d=[]:=List.eq_nil_of_length_eq_zero h0
  have HC:=Lib.hid (fun W=>Zq 0 c W)
  have HS:=Lib.hid (fun W=>Zr none 0 W)
  have HP:=Lib.hid (fun f W=>Zs none 0 f W)
  clear h hn h0
  first
   |cases isS
    show Calls Tryz.prog 117 #[.slice none 0 c,(.func (.func 118) #[] #[])] w (RetN w 0 1 [])
    go_enter Tryz.func117,Tryz.ntmps117
   |cases isA
    show Calls Tryz.prog 119 #[.slice none 0 c,(.func (.func 120) #[] #[])] w (RetN w 0 2 [])
    go_enter Tryz.func119,Tryz.ntmps119
   |show Calls Tryz.prog 121 #[.slice none 0 c,(.func (.func 122) #[] #[])] w (RetN w 0 3 [])
    go_enter Tryz.func121,Tryz.ntmps121
  go_wp2_with(first
   |((first|go_at_call 191|go_at_call 196|go_at_call 201);(with_reducible refine(HC.out _).mono ?_);rintro e W2 ⟨rfl,rfl⟩)
   |((first|go_at_call 192|go_at_call 197|go_at_call 202);(with_reducible refine(HS.out _).mono ?_);rintro e W3 ⟨rfl,rfl⟩)
   |((first|go_at_call 193|go_at_call 198|go_at_call 203);(with_reducible refine(HP.out _ _).mono ?_);rintro e W4 ⟨rfl,rfl⟩))
  go_ret
  exact⟨none,0,rfl,bel,⟨fun _=>rfl,Nat.le_refl _⟩,Rd.empty,fun h=>absurd h (Nat.lt_irrefl 0)⟩
 |some ad=>
  have HC:=Lib.hid (fun W (hB:Below w.heap.size w W)=>Zt ad c d W (by obtain⟨X,rfl⟩:=grow_of_below hB;exact h.grow X) hn)
  cases hd:d with
  |nil=>
   subst hd
   have HS:=Lib.hid (fun A cap W=>Zr A cap W)
   have HP:=Lib.hid (fun A cap f W=>Zs A cap f W)
   first
    |cases isS
     have HC2:=Lib.hid (fun W (hB:Below w.heap.size w W)=>show Calls Tryz.prog 191 #[.slice (some ad) 0 c] W (fun e w'=> ∃A' c',e= .returned (.slice A' 0 c')/\(A'=none->c'=0)/\Below W.heap.size W w')from(HC.out W hB).mono (by
      rintro e w' ⟨v',rfl,ho,hb⟩
      obtain⟨A',c',rfl,_⟩:=own_cap ho
      exact⟨A',c',rfl,own_nil ho,hb⟩))
    |cases isA
     have HC2:=Lib.hid (fun W (hB:Below w.heap.size w W)=>show Calls Tryz.prog 196 #[.slice (some ad) 0 c] W (fun e w'=> ∃A' c',e= .returned (.slice A' 0 c')/\(A'=none->c'=0)/\Below W.heap.size W w')from(HC.out W hB).mono (by
      rintro e w' ⟨v',rfl,ho,hb⟩
      obtain⟨A',c',rfl,_⟩:=own_cap ho
      exact⟨A',c',rfl,own_nil ho,hb⟩))
    |have HC2:=Lib.hid (fun W (hB:Below w.heap.size w W)=>show Calls Tryz.prog 201 #[.slice (some ad) 0 c] W (fun e w'=> ∃A' c',e= .returned (.slice A' 0 c')/\(A'=none->c'=0)/\Below W.heap.size W w')from(HC.out W hB).mono (by
      rintro e w' ⟨v',rfl,ho,hb⟩
      obtain⟨A',c',rfl,_⟩:=own_cap ho
      exact⟨A',c',rfl,own_nil ho,hb⟩))
   clear h hn HC
   first
    |cases isS
     show Calls Tryz.prog 117 #[.slice (some ad) 0 c,(.func (.func 118) #[] #[])] w (RetN w 0 1 [])
     go_enter Tryz.func117,Tryz.ntmps117
    |cases isA
     show Calls Tryz.prog 119 #[.slice (some ad) 0 c,(.func (.func 120) #[] #[])] w (RetN w 0 2 [])
     go_enter Tryz.func119,Tryz.ntmps119
    |show Calls Tryz.prog 121 #[.slice (some ad) 0 c,(.func (.func 122) #[] #[])] w (RetN w 0 3 [])
     go_enter Tryz.func121,Tryz.ntmps121
   go_upto_region 1 with fail
   refine name_world fun W1 hW1=> ?_
   have HB1:Hid (Below w.heap.size w W1):=by show Below _ _ _;rw[hW1];exact bel
   have hs1:w.heap.size<W1.heap.size:=by rw[hW1];simp
   first|cases isS;have hc1:W1.cell? ⟨w.heap.size,0,none⟩=some (.func (.func 118) #[] #[]):=by rw[hW1];simp[go_sem]|cases isA;have hc1:W1.cell? ⟨w.heap.size,0,none⟩=some (.func (.func 120) #[] #[]):=by rw[hW1];simp[go_sem]|have hc1:W1.cell? ⟨w.heap.size,0,none⟩=some (.func (.func 122) #[] #[]):=by rw[hW1];simp[go_sem]
   clear hW1
   go_wp2_with(first
    |((first|go_at_call 191|go_at_call 196|go_at_call 201);(with_reducible refine(HC2.out W1 HB1.out).mono ?_);rintro e W2 ⟨A2,c2,rfl,hA2,hb2⟩;have HB2:=Lib.hid (below_next HB1.out hb2);have hc2:=(hb2.cell hs1).trans hc1;clear hb2)
    |((first|go_at_call 192|go_at_call 197|go_at_call 202);(with_reducible refine(HS.out _ _ _).mono ?_);rintro e W3 ⟨rfl,rfl⟩)
    |((first|go_at_call 193|go_at_call 198|go_at_call 203);(with_reducible refine(HP.out _ _ _ _).mono ?_);rintro e W4 ⟨rfl,rfl⟩))
   go_ret
   exact⟨A2,c2,rfl,below_next HB2.out bel,⟨hA2,Nat.zero_le _⟩,Rd.empty,fun h=>absurd h (Nat.lt_irrefl 0)⟩
  |cons x r=>
   rw[<-hd]
   have hpos:0<d.length:=by rw[hd];simp
   clear hd
   first
    |cases isS
     have HC2:=Lib.hid (fun W (hB:Below w.heap.size w W)=>show Calls Tryz.prog 191 #[.slice (some ad) d.length c] W (fun e w'=> ∃g cap,e= .returned (.slice (some ⟨g,0,none⟩) d.length cap)/\RowS w' W.heap.size g cap d/\W.heap.size<=g/\Below W.heap.size W w')from(HC.out W hB).mono (by
      rintro e w' ⟨v',rfl,ho,hb⟩
      obtain⟨g,cap,rfl⟩:=Go.Joins.ownsRow_form ho hpos
      exact⟨g,cap,rfl,ho,(ho.lt g rfl).1,hb⟩))
    |cases isA
     have HC2:=Lib.hid (fun W (hB:Below w.heap.size w W)=>show Calls Tryz.prog 196 #[.slice (some ad) d.length c] W (fun e w'=> ∃g cap,e= .returned (.slice (some ⟨g,0,none⟩) d.length cap)/\RowA w' W.heap.size g cap d/\W.heap.size<=g/\Below W.heap.size W w')from(HC.out W hB).mono (by
      rintro e w' ⟨v',rfl,ho,hb⟩
      obtain⟨g,cap,rfl⟩:=Go.Joins.ownsRow_form ho hpos
      exact⟨g,cap,rfl,ho,(ho.lt g rfl).1,hb⟩))
    |have HC2:=Lib.hid (fun W (hB:Below w.heap.size w W)=>show Calls Tryz.prog 201 #[.slice (some ad) d.length c] W (fun e w'=> ∃g cap,e= .returned (.slice (some ⟨g,0,none⟩) d.length cap)/\RowF w' W.heap.size g cap d/\W.heap.size<=g/\Below W.heap.size W w')from(HC.out W hB).mono (by
      rintro e w' ⟨v',rfl,ho,hb⟩
      obtain⟨g,cap,rfl⟩:=Go.Joins.ownsRow_form ho hpos
      exact⟨g,cap,rfl,ho,(ho.lt g rfl).1,hb⟩))
   have HSo:=Lib.hid (fun B g cap W (hr:Z1 W B g cap d)=>Zu B g cap d W hr hn)
   have HCp:=Lib.hid (fun B g cap b W W' hs hc hbg=>Zv B g cap b d W W' hs hc hbg hn)
   clear h HC hpos
   have HTn:=Lib.hid (neat_len Z2z d)
   generalize(neatL Z2z d)=T at*
   obtain⟨N,hN⟩: ∃N,d.length=N:=⟨_,rfl⟩
   rw[hN]at HC2 HSo HCp ⊢
   clear hN hn
   first|go_enter Tryz.func117,Tryz.ntmps117|go_enter Tryz.func119,Tryz.ntmps119|go_enter Tryz.func121,Tryz.ntmps121
   go_upto_region 1 with fail
   refine name_world fun W1 hW1=> ?_
   have HB1:Hid (Below w.heap.size w W1):=by show Below _ _ _;rw[hW1];exact bel
   have hs1:W1.heap.size=w.heap.size+1:=by rw[hW1];simp
   first|cases isS;have hc1:W1.cell? ⟨w.heap.size,0,none⟩=some (.func (.func 118) #[] #[]):=by rw[hW1];simp[go_sem]|cases isA;have hc1:W1.cell? ⟨w.heap.size,0,none⟩=some (.func (.func 120) #[] #[]):=by rw[hW1];simp[go_sem]|have hc1:W1.cell? ⟨w.heap.size,0,none⟩=some (.func (.func 122) #[] #[]):=by rw[hW1];simp[go_sem]
   clear hW1
   go_wp2_with(first
    |((first|go_at_call 191|go_at_call 196|go_at_call 201);(with_reducible refine(HC2.out W1 HB1.out).mono ?_);rintro e W2 ⟨g,cap,rfl,hr2,hg2,hb2⟩;have HR2:=Lib.hid hr2;have HB2:=Lib.hid (And.intro (below_next HB1.out hb2) hg2);have hc2:=(hb2.cell (by show w.heap.size<_;omega)).trans hc1;clear hr2 hb2 hg2)
    |((first|go_at_call 192|go_at_call 197|go_at_call 202);(with_reducible refine(HSo.out _ g cap W2 HR2.out).mono ?_);rintro e W3 ⟨rfl,hs3⟩;have hc3:W3.cell? ⟨w.heap.size,0,none⟩=_:=(World.cell?_of_block (hs3.1.block w.heap.size (World.block_lt_of_cell? W2 _ hc2) (by have:=HB2.out.2;omega))).trans hc2;have HT3:=Lib.hid hs3.1;have HCq:=Lib.hid (HCp.out _ g cap w.heap.size W2 W3 hs3 hc3 (by have:=HB2.out.2;omega));clear hs3)
    |((first|go_at_call 193|go_at_call 198|go_at_call 203);(with_reducible refine HCq.out.mono ?_);rintro e W4 ⟨rfl,ht4,hr4⟩;have HT4:=Lib.hid ht4;have HR4:=Lib.hid hr4;clear ht4 hr4))
   go_ret
   obtain⟨hb2,hg2⟩:=HB2.out
   have hb3:=hb2.trans (HT3.out.below hb2.size (fun k hk=>by omega))
   exact⟨_,cap,rfl,hb3.trans (HT4.out.below hb3.size (fun k hk=>by omega)),⟨(fun h=>by cases h),Nat.le_trans HTn.out (by obtain⟨_,_,e9,h9⟩:=own_cap HR2.out;cases e9;exact h9)⟩,HR4.out,fun _ b off s h=>by cases h;omega⟩):P:=h
theorem neatS_any (A:Option Addr) (c:Nat) (d:List Bs) (w:World) (h:Rd w (.slice A d.length c) d.length 1 ((d).map sv)) (hn:d.length<=1000000000):
  Calls Tryz.prog 117 #[.slice A d.length c,(.func (.func 118) #[] #[])] w (RetN w (neatL ltB d).length 1 ((neatL ltB d).map sv)):=unS321
end Go.Proofs.YtiikamobcmgekaaGreatDoor

