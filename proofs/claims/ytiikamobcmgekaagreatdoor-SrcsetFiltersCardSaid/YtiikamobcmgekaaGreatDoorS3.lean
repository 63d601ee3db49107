/- Sorting in place, a list cloned, each thing once: texts. -/
import Derived.Lib.SliceRun
import Derived.Test.YtiikamobcmgekaaGreatDoorSortSb
import Derived.Test.YtiikamobcmgekaaGreatDoorSortSf
import Derived.Test.YtiikamobcmgekaaGreatDoorPA
namespace Go.Proofs.YtiikamobcmgekaaGreatDoor
open Lib renaming cell?_alloc_some→z56,hid→z2c,run_eql_slice_nil→z3w
open List renaming getElem?_eq_getElem→z2q,getElem?_eq_some_iff→z24,getElem?_set_ne→z54,length_append→z2h,length_set→z5a,length_take→z2r,replicate→z2x,take_of_length_le→z2p
open Nat renaming le_refl→z2k
open Tryz renaming prog→z2f
set_option maxRecDepth 1000000
set_option maxHeartbeats 16000000
open Go.RowKit
open KS
open Go.Proofs.YtiikamobcmgekaaGreatDoor renaming zk0→Zd,zt3→Ze,swoB→Z3,Bs→Z0,ltB→Z2,zd8→Z4,RowS→Z1
def SegS (w:World) (B g cap:Nat) (d:List Bs) (a b:Nat) (w':World):Prop:=zab (fun k=>k=g) w w'/\ ∃s,RowS w' B g cap (putS d a b s)/\Up ltB s/\zax ltB s (segS d a b)
theorem z1e {P:Prop} (h:P:=by
 have e1:d.take a++segS d a b++d.drop b=d:=zmu d hab;have e2:(d.take a).length=a:=by rw[z2r];omega
 have e3:(d.take a++segS d a b).length=b:=by rw[z2h,e2,zju d hab (by omega)];omega
 have h9:=Zd B g cap (d.take a) (segS d a b) (d.drop b) w (by rw[e1];exact h) (by rw[e1];omega);rw[e1,e2,e3,hN]at h9;exact h9):P:=h
theorem zke (B g cap:Nat) (d:List Bs) (a b N:Nat) (w:World) (h:RowS w B g cap d) (hN:d.length=N) (hab:a<=b) (hb:b<=N) (hn:N<=1000000000):
  Calls z2f 283 #[.slice (some ⟨g,0,none⟩) N cap,.int .i64 a,.int .i64 b,(.func (.func 118) #[] #[])] w fun e w'=>e= .returned (.tuple #[])/\SegS w B g cap d a b w':=z1e
theorem z1d {P:Prop} (h:P:=by
 have e4:segS d a m++segS d m b=segS d a b:=by
  unfold segS;rw[show b-a=(m-a)+(b-m) by omega,List.take_add,List.drop_drop,show a+(m-a)=m by omega]
 have e1:d.take a++segS d a m++segS d m b++d.drop b=d:=by
  rw[List.append_assoc (d.take a),e4];exact zmu d (by omega)
 have e2:(d.take a).length=a:=by rw[z2r];omega
 have f1:=zju d (a:=a) (b:=m) (by omega) (by omega);have f2:=zju d (a:=m) (b:=b) (by omega) (by omega);have e3:(d.take a++segS d a m).length=m:=by rw[z2h,e2,f1];omega
 have e5:(d.take a++segS d a m++segS d m b).length=b:=by rw[z2h,e3,f2];omega
 have h9:=Ze _ B g cap (d.take a) (segS d a m) (segS d m b) (d.drop b) w (z2k _) (by omega) (by omega) (by rw[e1];exact h) hU1 hU2 (by rw[e1];omega);rw[e1,e2,e3,e5,hN,e4]at h9;exact h9):P:=h
theorem zqw (B g cap:Nat) (d:List Bs) (a m b N:Nat) (w:World) (h:RowS w B g cap d) (hN:d.length=N) (ham:a<m) (hmb:m<b) (hb:b<=N) (hn:N<=1000000000) (hU1:Up ltB (segS d a m)) (hU2:Up ltB (segS d m b)):
  Calls z2f 284 #[.slice (some ⟨g,0,none⟩) N cap,.int .i64 a,.int .i64 m,.int .i64 b,(.func (.func 118) #[] #[])] w fun e w'=>e= .returned (.tuple #[])/\SegS w B g cap d a b w':=z1d
open Go.Proofs.YtiikamobcmgekaaGreatDoor renaming zqw→Zg
structure MidS (w:World) (B g cap:Nat) (d:List Bs) (D:List Bs) (wr:World):Prop where
 turned:zab (fun k=>k=g) w wr
 row:RowS wr B g cap D
 alike:zax ltB D d
 len:D.length=d.length
open Go.Proofs.YtiikamobcmgekaaGreatDoor renaming MidS→Zf
theorem zvw {P:Prop} (h:P:=by
 obtain⟨h1,s,h2,h3,h4⟩:=hs;have h5:s.length=b-a:=by rw[zax.len Z3 _ _ _ (z2k _) h4,zju D hab (by rw[h.len];exact hb)]
 exact⟨s,⟨h.turned.trans h1,h2,(zw9 hab h4).trans h.alike,by rw[zw7 hab (by rw[h.len];exact hb) h5,h.len]⟩,h3,h5⟩):P:=h
theorem MidS.seg {w:World} {B g cap:Nat} {d D:List Bs} {wr w':World} {a b:Nat} (h:MidS w B g cap d D wr) (hs:SegS wr B g cap D a b w') (hab:a<=b) (hb:b<=d.length):
  ∃s,MidS w B g cap d (putS D a b s) w'/\Up ltB s/\s.length=b-a:=zvw
def SrtS (w:World) (B g cap:Nat) (d:List Bs) (w':World):Prop:=zab (fun k=>k=g) w w'/\ ∃S,RowS w' B g cap S/\Up ltB S/\zax ltB S d
theorem zvv {P:Prop} (h:P:=by
 have hmx:=mxd;obtain⟨N,hN⟩: ∃N,d.length=N:=⟨_,rfl⟩;rw[hN];rw[hN]at hn;have HN:=z2c hN;have HR:=z2c h;clear hN h;first|go_enter Tryz.func257,Tryz.ntmps257|go_enter Tryz.func258,Tryz.ntmps258|go_enter Tryz.func259,Tryz.ntmps259
 go_wp2_with fail
 go_loopw [7,8] (fun i j wr=> ∃(q a b:Nat) (D:List Z0),a<=N/\b<=N+20/\i= .int .i64 (a:Nat)/\j= .int .i64 (b:Nat)/\Hid (a=q*20/\b=a+20)/\Hid (Zf w B g cap d D wr)/\Hid (zfp Z2 20 (q*20) D)) (fun i _ _=>N+1-(intOf i).toNat)
 case atStart=>exact⟨0,0,20,d,by omega,by omega,rfl,rfl,⟨rfl,rfl⟩,⟨zab.refl _ _,HR.out,zax.refl _,rfl⟩,fun k hk=>by omega⟩
 case round=>
  obtain⟨q,a,b,D,ha,hb,rfl,rfl,HV,HM0,HT⟩:=hrel;by_cases hle:b<=N
  ·have hle2:(b:Int)<=N:=by omega
   first
    |cases isS
     have HI:Hid (Calls z2f 283 #[.slice (some ⟨g,0,none⟩) N cap,.int .i64 a,.int .i64 b,(.func (.func 118) #[] #[])] wr fun e w'=>e= .returned (.tuple #[])/\SegS wr B g cap D a b w'):=
      zke B g cap D a b N wr HM0.out.row (HM0.out.len.trans HN.out) (by have:=HV.out;omega) hle hn
    |cases isA
     have HI:Hid (Calls z2f 285 #[.slice (some ⟨g,0,none⟩) N cap,.int .i64 a,.int .i64 b,(.func (.func 120) #[] #[])] wr fun e w'=>e= .returned (.tuple #[])/\SegA wr B g cap D a b w'):=
      zkg B g cap D a b N wr HM0.out.row (HM0.out.len.trans HN.out) (by have:=HV.out;omega) hle hn
    |have HI:Hid (Calls z2f 287 #[.slice (some ⟨g,0,none⟩) N cap,.int .i64 a,.int .i64 b,(.func (.func 122) #[] #[])] wr fun e w'=>e= .returned (.tuple #[])/\SegF wr B g cap D a b w'):=
      zkf B g cap D a b N wr HM0.out.row (HM0.out.len.trans HN.out) (by have:=HV.out;omega) hle hn
   go_wp2_with((first|go_at_call 283|go_at_call 285|go_at_call 287);(with_reducible refine HI.out.mono ?_);rintro e2 W2 ⟨rfl,hs2⟩;have HS2:=z2c hs2;clear hs2)
   go_roundw
   case rel=>
    obtain⟨v1,v2⟩:=HV.out;obtain⟨s,m1,m2,m3⟩:=HM0.out.seg HS2.out (by omega) (by have:=HN.out;omega);refine⟨q+1,b,b+20,_,by omega,by omega,by go_num,by go_num,⟨by omega,rfl⟩,m1, ?_⟩;have h9:=zfp.next HT.out (by have:=HM0.out.len;have:=HN.out;omega) (s:=s) (by omega) m2;rw[v2,v1];exact h9
   case measure=>simp[intOf];have:=HV.out;omega
  ·have hle2: ¬(b:Int)<=N:=by omega
   first
    |cases isS
     have HI:Hid (Calls z2f 283 #[.slice (some ⟨g,0,none⟩) N cap,.int .i64 a,.int .i64 N,(.func (.func 118) #[] #[])] wr fun e w'=>e= .returned (.tuple #[])/\SegS wr B g cap D a N w'):=
      zke B g cap D a N N wr HM0.out.row (HM0.out.len.trans HN.out) ha (z2k _) hn
    |cases isA
     have HI:Hid (Calls z2f 285 #[.slice (some ⟨g,0,none⟩) N cap,.int .i64 a,.int .i64 N,(.func (.func 120) #[] #[])] wr fun e w'=>e= .returned (.tuple #[])/\SegA wr B g cap D a N w'):=
      zkg B g cap D a N N wr HM0.out.row (HM0.out.len.trans HN.out) ha (z2k _) hn
    |have HI:Hid (Calls z2f 287 #[.slice (some ⟨g,0,none⟩) N cap,.int .i64 a,.int .i64 N,(.func (.func 122) #[] #[])] wr fun e w'=>e= .returned (.tuple #[])/\SegF wr B g cap D a N w'):=
      zkf B g cap D a N N wr HM0.out.row (HM0.out.len.trans HN.out) ha (z2k _) hn
   go_wp2_with((first|go_at_call 283|go_at_call 285|go_at_call 287);(with_reducible refine HI.out.mono ?_);rintro e2 W2 ⟨rfl,hs2⟩;have HS2:=z2c hs2;clear hs2)
   have HE:Hid (∃E,Zf w B g cap d E W2/\Runs Z2 20 E):=by
    obtain⟨v1,v2⟩:=HV.out;obtain⟨s,m1,m2,m3⟩:=HM0.out.seg HS2.out ha (by have:=HN.out;omega);have g1:=HM0.out.len.trans HN.out;have h9:=zfp.last (by omega) HT.out (by omega) (by omega) (s:=s) (by omega) m2;rw[g1,<-v1]at h9;exact⟨_,m1,h9⟩
   clear HM0 HT HS2 HV HI hle hle2;go_loopw [6,7,8] (fun k _ _ wr=> ∃(n:Nat),0<n/\n<=2000000000/\k= .int .i64 (n:Nat)/\Hid (∃E,Zf w B g cap d E wr/\Runs Z2 n E)) (fun k _ _ _=>N-(intOf k).toNat)
   case atStart=>exact⟨20,by omega,by omega,rfl,HE.out⟩
   case round=>
    obtain⟨n,hn0,hn1,rfl,HE2⟩:=hrel;by_cases hlt:n<N
    ·have hlt2:(n:Int)<N:=by omega
     obtain⟨n2,hn2⟩: ∃n2,2*n=n2:=⟨_,rfl⟩;have HN2:=z2c hn2;have rn2:(2:Int)*n=n2:=by omega
     have rn3:(n:Int)*2=n2:=by omega
     have hn3:n2<=2000000000:=by omega
     clear hn2;go_wp2_with fail
     go_loopw [7,8] (fun i j wr=> ∃(q a b:Nat) (D:List Z0),a<=N/\b<=4000000000/\i= .int .i64 (a:Nat)/\j= .int .i64 (b:Nat)/\Hid (a=q*(2*n)/\b=a+n2)/\Hid (Zf w B g cap d D wr)/\Hid (Half Z2 n q D)) (fun i _ _=>N+1-(intOf i).toNat)
     case atStart=>
      obtain⟨E,m1,m2⟩:=HE2.out;exact⟨0,0,n2,E,by omega,by omega,rfl,rfl,⟨by omega,by omega⟩,m1,Half.start hn0 m2⟩
     case round=>
      obtain⟨q,a,b,D,ha,hb,rfl,rfl,HV,HM0,HT⟩:=hrel;obtain⟨m,hm⟩: ∃m,a+n=m:=⟨_,rfl⟩;have HMm:=z2c hm;have rm:(a:Int)+n=m:=by omega
      have hm1:m<=4000000000:=by omega
      clear hm;by_cases hle:b<=N
      ·have hle2:(b:Int)<=N:=by omega
       first|cases isS;refine hv (p:=Hid (Calls z2f 284 #[.slice (some ⟨g,0,none⟩) N cap,.int .i64 a,.int .i64 m,.int .i64 b,(.func (.func 118) #[] #[])] wr fun e w'=>e= .returned (.tuple #[])/\SegS wr B g cap D a b w')) ?_ ?_|cases isA;refine hv (p:=Hid (Calls z2f 286 #[.slice (some ⟨g,0,none⟩) N cap,.int .i64 a,.int .i64 m,.int .i64 b,(.func (.func 120) #[] #[])] wr fun e w'=>e= .returned (.tuple #[])/\SegA wr B g cap D a b w')) ?_ ?_|refine hv (p:=Hid (Calls z2f 288 #[.slice (some ⟨g,0,none⟩) N cap,.int .i64 a,.int .i64 m,.int .i64 b,(.func (.func 122) #[] #[])] wr fun e w'=>e= .returned (.tuple #[])/\SegF wr B g cap D a b w')) ?_ ?_
       ·obtain⟨v1,v2⟩:=HV.out;have v3:=HMm.out;have v4:=HN2.out;obtain⟨p1,p2⟩:=HT.out.parts;refine Zg B g cap D a m b N wr HM0.out.row (HM0.out.len.trans HN.out) (by omega) (by omega) hle hn (by rw[<-v3,v1];exact p1) ?_;unfold segS;rw[show b-m=n by omega,<-v3,v1];exact p2
       intro HM;go_wp2_with((first|go_at_call 284|go_at_call 286|go_at_call 288);(with_reducible refine HM.out.mono ?_);rintro e2 W2 ⟨rfl,hs2⟩;have HS2:=z2c hs2;clear hs2)
       go_roundw
       case rel=>
        obtain⟨v1,v2⟩:=HV.out;have v4:=HN2.out;obtain⟨s,m1,m2,m3⟩:=HM0.out.seg HS2.out (by omega) (by have:=HN.out;omega);refine⟨q+1,b,b+n2,_,by omega,by omega,by go_num,by go_num,⟨by rw[Nat.succ_mul];omega,rfl⟩,m1, ?_⟩;have h9:=Half.next HT.out (by have:=HM0.out.len;have:=HN.out;omega) (s:=s) (by omega) m2;rw[v2,v1,<-v4];exact h9
       case measure=>simp[intOf];have:=HV.out;have:=HN2.out;omega
      ·have hle2: ¬(b:Int)<=N:=by omega
       by_cases hmn:m<N
       ·have hmn2:(m:Int)<N:=by omega
        first|cases isS;refine hv (p:=Hid (Calls z2f 284 #[.slice (some ⟨g,0,none⟩) N cap,.int .i64 a,.int .i64 m,.int .i64 N,(.func (.func 118) #[] #[])] wr fun e w'=>e= .returned (.tuple #[])/\SegS wr B g cap D a N w')) ?_ ?_|cases isA;refine hv (p:=Hid (Calls z2f 286 #[.slice (some ⟨g,0,none⟩) N cap,.int .i64 a,.int .i64 m,.int .i64 N,(.func (.func 120) #[] #[])] wr fun e w'=>e= .returned (.tuple #[])/\SegA wr B g cap D a N w')) ?_ ?_|refine hv (p:=Hid (Calls z2f 288 #[.slice (some ⟨g,0,none⟩) N cap,.int .i64 a,.int .i64 m,.int .i64 N,(.func (.func 122) #[] #[])] wr fun e w'=>e= .returned (.tuple #[])/\SegF wr B g cap D a N w')) ?_ ?_
        ·obtain⟨v1,v2⟩:=HV.out;have v3:=HMm.out;have v4:=HN2.out;have v5:=HM0.out.len.trans HN.out;obtain⟨p1,p2⟩:=HT.out.parts;refine Zg B g cap D a m N N wr HM0.out.row v5 (by omega) hmn (z2k _) hn (by rw[<-v3,v1];exact p1) ?_;unfold segS;rw[<-v1,v3,z2p (by rw[List.length_drop];omega)]at p2;rw[z2p (by rw[List.length_drop];omega)];exact p2
        intro HM;go_wp2_with((first|go_at_call 284|go_at_call 286|go_at_call 288);(with_reducible refine HM.out.mono ?_);rintro e2 W2 ⟨rfl,hs2⟩;have HS2:=z2c hs2;clear hs2)
        go_roundw
        case rel=>
         obtain⟨v1,v2⟩:=HV.out;have v4:=HN2.out;have v5:=HM0.out.len.trans HN.out;obtain⟨s,m1,m2,m3⟩:=HM0.out.seg HS2.out ha (by have:=HN.out;omega);refine⟨n2,by omega,hn3,by go_num,_,m1, ?_⟩;have h9:=Half.last hn0 HT.out (by omega) (by omega) (s:=s) (by omega) m2;rw[v5,<-v1,v4]at h9;exact h9
        case measure=>simp[intOf];have:=HN2.out;omega
       ·have hmn2: ¬(m:Int)<N:=by omega
        go_wp2_with fail
        go_roundw
        case rel=>
         obtain⟨v1,v2⟩:=HV.out;have v3:=HMm.out;have v4:=HN2.out;have v5:=HM0.out.len.trans HN.out;refine⟨n2,by omega,hn3,by go_num,D,HM0.out, ?_⟩;have h9:=Half.stay hn0 HT.out (by omega) (by omega);rw[v4]at h9;exact h9
        case measure=>simp[intOf];have:=HN2.out;omega
    ·have hlt2: ¬(n:Int)<N:=by omega
     go_wp2_with fail
     go_end0;obtain⟨E,m1,m2⟩:=HE2.out;exact⟨rfl,m1.turned,E,m1.row,m2.whole (by have:=m1.len;have:=HN.out;omega),m1.alike⟩):P:=h
theorem zp2 (B g cap:Nat) (d:List Bs) (w:World) (h:RowS w B g cap d) (hn:d.length<=1000000000):
  Calls z2f 257 #[.slice (some ⟨g,0,none⟩) d.length cap,.int .i64 d.length,(.func (.func 118) #[] #[])] w fun e w'=>e= .returned (.tuple #[])/\SrtS w B g cap d w':=zvv
open Go.Proofs.YtiikamobcmgekaaGreatDoor renaming zp2→Zj
theorem zvu {P:Prop} (h:P:=by
 have hmx:=mxd;first|go_enter Tryz.func283,Tryz.ntmps283|go_enter Tryz.func285,Tryz.ntmps285|go_enter Tryz.func287,Tryz.ntmps287
 go_wp2_with fail
 go_loopw [8] (fun i wr=>i= .int .i64 1/\w=wr) (fun _ _=>0)
 case atStart=>exact⟨rfl,rfl⟩
 case round=>
  obtain⟨rfl,rfl⟩:=hrel;go_wp2_with fail
  go_end0;exact⟨rfl,rfl⟩):P:=h
theorem zre (A:Option Addr) (cap:Nat) (w:World):
  Calls z2f 283 #[.slice A 0 cap,.int .i64 0,.int .i64 0,(.func (.func 118) #[] #[])] w fun e w'=>e= .returned (.tuple #[])/\w=w':=zvu
open Go.Proofs.YtiikamobcmgekaaGreatDoor renaming zre→Zh
theorem zvt {P:Prop} (h:P:=by
 have hmx:=mxd;have HI:=z2c (Zh A cap w);first|go_enter Tryz.func257,Tryz.ntmps257|go_enter Tryz.func258,Tryz.ntmps258|go_enter Tryz.func259,Tryz.ntmps259
 go_wp2_with fail
 go_loopw [7,8] (fun i j wr=>i= .int .i64 0/\j= .int .i64 20/\w=wr) (fun _ _ _=>0)
 case atStart=>exact⟨rfl,rfl,rfl⟩
 case round=>
  obtain⟨rfl,rfl,rfl⟩:=hrel;go_wp2_with((first|go_at_call 283|go_at_call 285|go_at_call 287);(with_reducible refine HI.out.mono ?_);rintro e2 W2 ⟨rfl,rfl⟩)
  go_loopw [6,7,8] (fun k _ _ wr=>k= .int .i64 20/\w=wr) (fun _ _ _ _=>0)
  case atStart=>exact⟨rfl,rfl⟩
  case round=>
   obtain⟨rfl,rfl⟩:=hrel;go_wp2_with fail
   go_end0;exact⟨rfl,rfl⟩):P:=h
theorem zkx (A:Option Addr) (cap:Nat) (w:World):
  Calls z2f 257 #[.slice A 0 cap,.int .i64 0,(.func (.func 118) #[] #[])] w fun e w'=>e= .returned (.tuple #[])/\w=w':=zvt
open Go.Proofs.YtiikamobcmgekaaGreatDoor renaming zkx→Zi
theorem zvs {P:Prop} (h:P:=by
 have hmx:=mxd;have HI:=z2c (Zi A cap w);first|go_enter Tryz.func192,Tryz.ntmps192|go_enter Tryz.func197,Tryz.ntmps197|go_enter Tryz.func202,Tryz.ntmps202
 go_wp2_with((first|go_at_call 257|go_at_call 258|go_at_call 259);(with_reducible refine HI.out.mono ?_);rintro e2 W2 ⟨rfl,rfl⟩)
 go_end0;exact⟨rfl,rfl⟩):P:=h
theorem znz (A:Option Addr) (cap:Nat) (w:World):
  Calls z2f 192 #[.slice A 0 cap,(.func (.func 118) #[] #[])] w fun e w'=>e= .returned (.tuple #[])/\w=w':=zvs
open Go.Proofs.YtiikamobcmgekaaGreatDoor renaming znz→Zr
theorem zvr {P:Prop} (h:P:=by
 have hmx:=mxd;have HI:=z2c (Zj B g cap d w h hn);clear h;obtain⟨N,hN⟩: ∃N,d.length=N:=⟨_,rfl⟩;rw[hN]at HI hn ⊢;clear hN;first|go_enter Tryz.func192,Tryz.ntmps192|go_enter Tryz.func197,Tryz.ntmps197|go_enter Tryz.func202,Tryz.ntmps202
 go_wp2_with((first|go_at_call 257|go_at_call 258|go_at_call 259);(with_reducible refine HI.out.mono ?_);rintro e2 W2 ⟨rfl,hs2⟩;have HS2:=z2c hs2;clear hs2)
 go_end0;exact⟨rfl,HS2.out⟩):P:=h
theorem zwe (B g cap:Nat) (d:List Bs) (w:World) (h:RowS w B g cap d) (hn:d.length<=1000000000):
  Calls z2f 192 #[.slice (some ⟨g,0,none⟩) d.length cap,(.func (.func 118) #[] #[])] w fun e w'=>e= .returned (.tuple #[])/\SrtS w B g cap d w':=zvr
open Go.Proofs.YtiikamobcmgekaaGreatDoor renaming zwe→Zu
theorem sltS:SlT z2f 47 9 (.string ⟨#[]⟩) 1 16:=⟨by kernel_rfl,by kernel_rfl,by kernel_rfl,by decide⟩
theorem zec (d:List Bs): ∀u∈d.map sv,u.oneCell'=true:=by
 intro u hu;obtain⟨x,_,rfl⟩:=List.mem_map.1 hu;rfl
open Go.Proofs.YtiikamobcmgekaaGreatDoor renaming zec→Zk
theorem zvq {P:Prop} (h:P:=by
 have hmx:=mxd;first
  |cases isS
   have q22: ∀(w:World) (a:Option Addr) (n c n' c':Nat),(binOp .eql 47 (.slice a n c) (.slice none n' c')).run z2f w= .ok (.bool a.isNone) w:=fun w a n c n' c'=>z3w w _ 9 a n c n' c' (by kernel_rfl)
   go_enter Tryz.func191,Tryz.ntmps191
  |cases isA
   have q22: ∀(w:World) (a:Option Addr) (n c n' c':Nat),(binOp .eql 48 (.slice a n c) (.slice none n' c')).run z2f w= .ok (.bool a.isNone) w:=fun w a n c n' c'=>z3w w _ 101 a n c n' c' (by kernel_rfl)
   go_enter Tryz.func196,Tryz.ntmps196
  |have q22: ∀(w:World) (a:Option Addr) (n c n' c':Nat),(binOp .eql 49 (.slice a n c) (.slice none n' c')).run z2f w= .ok (.bool a.isNone) w:=fun w a n c n' c'=>z3w w _ 103 a n c n' c' (by kernel_rfl)
   go_enter Tryz.func201,Tryz.ntmps201
 go_wp2_with fail
 go_ret;exact⟨rfl,rfl⟩):P:=h
theorem zne (n c:Nat) (w:World):Calls z2f 191 #[.slice none n c] w fun e w'=>e= .returned (.slice none 0 0)/\w=w':=zvq
open Go.Proofs.YtiikamobcmgekaaGreatDoor renaming zne→Zq
theorem zvp {P:Prop} (h:P:=by
 have hmx:=mxd;first
  |cases isS
   have q22: ∀(w:World) (a:Option Addr) (n c n' c':Nat),(binOp .eql 47 (.slice a n c) (.slice none n' c')).run z2f w= .ok (.bool a.isNone) w:=fun w a n c n' c'=>z3w w _ 9 a n c n' c' (by kernel_rfl)
   have HC:Hid (∀j u,(d.map sv)[j]? =some u->w.cell? (ad.add j)=some u):=fun j u hj=>by
    obtain⟨h1,_,A,c',h3,h4⟩:=h;cases h3;have hj1:=(z24.1 hj).1;obtain⟨b,off,h5,_,h7⟩:=h4 (by omega);cases h5;rw[Addr.add_lit];exact h7 j u hj
  |cases isA
   have q22: ∀(w:World) (a:Option Addr) (n c n' c':Nat),(binOp .eql 48 (.slice a n c) (.slice none n' c')).run z2f w= .ok (.bool a.isNone) w:=fun w a n c n' c'=>z3w w _ 101 a n c n' c' (by kernel_rfl)
   have HC:Hid (∀j u,(d.flatMap Alw.cells)[j]? =some u->w.cell? (ad.add j)=some u):=fun j u hj=>by
    obtain⟨h1,_,A,c',h3,h4⟩:=h;cases h3;have hj1:=(z24.1 hj).1;obtain⟨b,off,h5,_,h7⟩:=h4 (by omega);cases h5;rw[Addr.add_lit];exact h7 j u hj
  |have q22: ∀(w:World) (a:Option Addr) (n c n' c':Nat),(binOp .eql 49 (.slice a n c) (.slice none n' c')).run z2f w= .ok (.bool a.isNone) w:=fun w a n c n' c'=>z3w w _ 103 a n c n' c' (by kernel_rfl)
   have HC:Hid (∀j u,(d.flatMap Frc.cells)[j]? =some u->w.cell? (ad.add j)=some u):=fun j u hj=>by
    obtain⟨h1,_,A,c',h3,h4⟩:=h;cases h3;have hj1:=(z24.1 hj).1;obtain⟨b,off,h5,_,h7⟩:=h4 (by omega);cases h5;rw[Addr.add_lit];exact h7 j u hj
 have H1:=z2c (Zk d);have HL:=z2c h.1;clear h;obtain⟨N,hN⟩: ∃N,d.length=N:=⟨_,rfl⟩;rw[hN]at HL hn ⊢;clear hN;first
  |cases isS
   generalize d.map sv=cs at*
   go_enter Tryz.func191,Tryz.ntmps191
   go_wp2_with(at_builtin;refine zar rfl _ _ 47 rfl sltS w.heap.size rfl (za5 (c:= #[]) (n:=0) (size:=1) rfl (by unfold maxLen;omega)) (by simp[go_sem]) ad N c cs rfl HL.out (fun j u hj=>z56 _ (HC.out j u hj)) H1.out (by unfold maxLen;omega) (by omega) ?_;intro v1 W1 hown1 hg1)
  |cases isA
   generalize d.flatMap Alw.cells=cs at*
   go_enter Tryz.func196,Tryz.ntmps196
   go_wp2_with(at_builtin;refine zar rfl _ _ 48 rfl sltA w.heap.size rfl (za5 (c:= #[]) (n:=0) (size:=2) rfl (by unfold maxLen;omega)) (by simp[go_sem]) ad N c cs rfl HL.out (fun j u hj=>z56 _ (HC.out j u hj)) H1.out (by unfold maxLen;omega) (by omega) ?_;intro v1 W1 hown1 hg1)
  |generalize d.flatMap Frc.cells=cs at*
   go_enter Tryz.func201,Tryz.ntmps201
   go_wp2_with(at_builtin;refine zar rfl _ _ 49 rfl sltF w.heap.size rfl (za5 (c:= #[]) (n:=0) (size:=3) rfl (by unfold maxLen;omega)) (by simp[go_sem]) ad N c cs rfl HL.out (fun j u hj=>z56 _ (HC.out j u hj)) H1.out (by unfold maxLen;omega) (by omega) ?_;intro v1 W1 hown1 hg1)
 go_ret;refine⟨v1,rfl,by simpa using hown1, ?_⟩;first|cases isS;exact(zaq (w:=w) hg1 (za5 (c:= #[]) (n:=0) (size:=1) rfl (by unfold maxLen;omega)) ((Below.refl _ _).alloc (z2k _) _)).out|cases isA;exact(zaq (w:=w) hg1 (za5 (c:= #[]) (n:=0) (size:=2) rfl (by unfold maxLen;omega)) ((Below.refl _ _).alloc (z2k _) _)).out|exact(zaq (w:=w) hg1 (za5 (c:= #[]) (n:=0) (size:=3) rfl (by unfold maxLen;omega)) ((Below.refl _ _).alloc (z2k _) _)).out):P:=h
theorem zuw (ad:Addr) (c:Nat) (d:List Bs) (w:World) (h:Rd w (.slice (some ad) d.length c) d.length 1 (d.map sv)) (hn:d.length<=1000000000):
  Calls z2f 191 #[.slice (some ad) d.length c] w fun e w'=> ∃v',e= .returned v'/\w'.ownsRow w.heap.size 9 1 v' d.length (d.map sv)/\Below w.heap.size w w':=zvp
open Go.Proofs.YtiikamobcmgekaaGreatDoor renaming zuw→Zt
theorem zvo {P:Prop} (h:P:=by
 have hmx:=mxd;have HC:=z2c (fun W=>Z4 x y W);have hb:=World.block_lt_of_cell? W _ hc;first
  |cases isS
   simp only[sv]at HC ⊢
   generalize cmpB x y=cm at*
   go_enter Tryz.func194,Tryz.ntmps194
  |cases isA
   simp only[Alw.agg,sv]at HC ⊢
   generalize cmpP (x).key (y).key=cm at*
   go_enter Tryz.func199,Tryz.ntmps199
  |simp only[Frc.agg,sv]at HC ⊢
   generalize cmpP (x).key (y).key=cm at*
   go_enter Tryz.func204,Tryz.ntmps204
 go_wp2_with((first|go_at_call 118|go_at_call 120|go_at_call 122);(with_reducible refine(HC.out _).mono ?_);rintro e w' ⟨rfl,X,rfl⟩)
 go_ret;exact Ret.of rfl bel):P:=h
theorem zn9 (b:Nat) (x y:Bs) (W:World) (hc:W.cell? ⟨b,0,none⟩=some (.func (.func 118) #[] #[])):Calls z2f 194 #[sv x,sv y,.pointer (some ⟨b,0,none⟩)] W (Ret (.bool (cmpB x y==0)) W):=zvo
theorem zkl (A:Option Addr) (cap:Nat) (f:Value) (w:World):Calls z2f 193 #[.slice A 0 cap,f] w fun e w'=>e= .returned (.slice A 0 cap)/\w=w':=by
 have hmx:=mxd;go_enter Tryz.func193,Tryz.ntmps193;go_wp2_with fail
 go_ret;exact⟨rfl,rfl⟩
open Go.Proofs.YtiikamobcmgekaaGreatDoor renaming zkl→Zs
def eqS (y x:Bs):Bool:=cmpB y x==0
open Go.Proofs.YtiikamobcmgekaaGreatDoor renaming eqS→Zl
def CmpS (w:World) (B g cap:Nat) (d:List Bs) (w':World):Prop:=zab (fun k=>k=g) w w'/\ ∃E,RowS w' B g cap E/\E.length=d.length/\E.take (zbw eqS d).length=zbw eqS d
open Go.Proofs.YtiikamobcmgekaaGreatDoor renaming CmpS→Zm
theorem RowS.clear {B g cap:Nat}: ∀(n o:Nat) (E:List Bs) (W:World),RowS W B g cap E->o+n<=E.length->
  ∃E',RowS (W.setCells g o (z2x n (sv []))) B g cap E'/\E'.length=E.length/\E'.take o=E.take o/\zab (fun k=>k=g) W (W.setCells g o (z2x n (sv []))):=by
 intro n;induction n with
 |zero=>intro o E W h _;exact⟨E,h,rfl,rfl,zab.refl _ _⟩
 |succ n ih=>
  intro o E W h ho;obtain⟨E',h1,h2,h3,h4⟩:=ih (o+1) (E.set o []) _ (h.set o (by omega) []) (by rw[z5a];omega);refine⟨E',h1,by rw[h2,z5a], ?_,((zab.refl (fun k=>k=g) W).setCell (p:=⟨g,o,none⟩) (.inr rfl) (sv [])).trans h4⟩;have h5:=congrArg (List.take o) h3;rw[List.take_take,List.take_take,Nat.min_eq_left (by omega),List.take_set_of_le (z2k _)]at h5;exact h5
theorem zy8 (w:World):(zeroValue 9).run z2f w= .ok (.string ⟨#[]⟩) w:=by kernel_rfl
theorem zvn {P:Prop} (h:P:=by
 have hmx:=mxd;have hb:=World.block_lt_of_cell? w _ hc;have hgl:=zlv h;have hcap:d.length<=cap:=by
  rcases h.2 with⟨h1,_⟩|⟨g',cap',cur,h1,_,_,h3,_⟩
  ·cases h1
  ·cases h1;exact h3
 by_cases h2:d.length<2
 ·have h2i:decide ((d.length:Int)<2)=true:=by simp;omega
  have hcl:zbw Zl d=d:=by
   cases d with
   |nil=>rfl
   |cons x r=>
    cases r with
    |nil=>rfl
    |cons y r=>simp only[List.length_cons]at h2;omega
  rw[hcl];have HE:Hid (Zm w B g cap d w):=⟨zab.refl _ _,d,h,rfl,by rw[hcl,List.take_length]⟩;obtain⟨N,hN⟩: ∃N,d.length=N:=⟨_,rfl⟩;rw[hN]at h2 h2i ⊢;clear hcl hn h hN hcap;first|go_enter Tryz.func193,Tryz.ntmps193|go_enter Tryz.func198,Tryz.ntmps198|go_enter Tryz.func203,Tryz.ntmps203
  go_wp2_with fail
  go_ret;exact⟨rfl,HE.out⟩
 have h2i:decide ((d.length:Int)<2)=false:=by simp;omega
 obtain⟨N,hN⟩: ∃N,d.length=N:=⟨_,rfl⟩;obtain⟨m,hm⟩: ∃m,(zbw Zl d).length=m:=⟨_,rfl⟩;have HM:=z2c hm;have HN:=z2c hN;have HR:=z2c h;have HC0:=z2c hc;rw[hm,hN];rw[hN]at hn h2 h2i hcap;clear hm hN h hc;first|go_enter Tryz.func193,Tryz.ntmps193|go_enter Tryz.func198,Tryz.ntmps198|go_enter Tryz.func203,Tryz.ntmps203
 go_wp2_with fail
 go_loopw [5] (fun i wr=> ∃(k:Nat),0<k/\k<=N/\i= .int .i64 (k:Nat)/\Hid (Below w.heap.size w wr)/\Hid (∀x,d[k-1]? =some x->zbw Zl d=d.take k++zf1 Zl x (d.drop k))) (fun i _=>N-(intOf i).toNat)
 case atStart=>
  refine⟨1,by omega,by omega,rfl,Below.refl _ _,fun x hx=> ?_⟩;cases d with
  |nil=>simp at hx
  |cons y r=>simp at hx;subst hx;rfl
 case round=>
  obtain⟨k,hk0,hkN,rfl,HB,HK⟩:=hrel;by_cases hlt:k<N
  ·have hlt2:(k:Int)<N:=by omega
   obtain⟨p,hp⟩: ∃p,k-1=p:=⟨_,rfl⟩;have rp:(k:Int)-1=p:=by omega
   have HP:=z2c hp;obtain⟨x,hx⟩: ∃x,d[p]? =some x:=⟨d[p]'(by have:=HN.out;omega),z2q _⟩;obtain⟨y,hy⟩: ∃y,d[k]? =some y:=⟨d[k]'(by have:=HN.out;omega),z2q _⟩;have HR5:Hid (Z1 wr B g cap d):=HR.out.turned (zab.of_below (pv:=fun _=>False) HB.out) (fun h=>h);first
    |cases isS
     have c0:=HR5.out.cell hx
     have z0:=HR5.out.cell hy
     simp only[sv]at c0 z0
    |cases isA
     obtain⟨u0,u1⟩:=HR5.out.cell hx
     obtain⟨z0,z1⟩:=HR5.out.cell hy
     simp only[sv]at u0 u1 z0 z1
    |obtain⟨u0,u1,u2⟩:=HR5.out.cell hx
     obtain⟨z0,z1,z2⟩:=HR5.out.cell hy
     simp only[sv]at u0 u1 u2 z0 z1 z2
   have hgw:g<wr.heap.size:=Nat.lt_of_lt_of_le hgl HB.out.size;have hpN:p<N:=by omega
   first
    |cases isS
     have HE:Hid (∀W,Below wr.heap.size wr W->Calls z2f 194 #[.string ⟨y.toArray⟩,.string ⟨x.toArray⟩,.pointer (some ⟨b,0,none⟩)] W (Ret (.bool (eqS y x)) W)):=fun W hW=>
      zn9 b y x W (((HB.out.trans (hW.mono HB.out.size)).cell hb).trans HC0.out)
    |cases isA
     have HE:Hid (∀W,Below wr.heap.size wr W->Calls z2f 199 #[.agg #[.string ⟨y.tag.toArray⟩,.string ⟨y.name.toArray⟩],.agg #[.string ⟨x.tag.toArray⟩,.string ⟨x.name.toArray⟩],.pointer (some ⟨b,0,none⟩)] W (Ret (.bool (eqA y x)) W)):=fun W hW=>
      zob b y x W (((HB.out.trans (hW.mono HB.out.size)).cell hb).trans HC0.out)
    |have HE:Hid (∀W,Below wr.heap.size wr W->Calls z2f 204 #[.agg #[.string ⟨y.tag.toArray⟩,.string ⟨y.name.toArray⟩,.string ⟨y.value.toArray⟩],.agg #[.string ⟨x.tag.toArray⟩,.string ⟨x.name.toArray⟩,.string ⟨x.value.toArray⟩],.pointer (some ⟨b,0,none⟩)] W (Ret (.bool (eqF y x)) W)):=fun W hW=>
      zoa b y x W (((HB.out.trans (hW.mono HB.out.size)).cell hb).trans HC0.out)
   have HXY:=z2c (And.intro hx hy);clear hp hx hy;cases hq:Zl y x
   ·have HQ:=z2c hq;rw[hq]at HE;clear hq;go_wp2_with fail
    refine zad (by kernel_rfl) (by kernel_rfl) ?_;repeat(go_big_quiet_step(((first|go_at_call 194|go_at_call 199|go_at_call 204);with_reducible exact Calls.grow_of (HE.out _ bel))))
    refine wpQuiet_nil ?_;intro _ hw';obtain⟨nq,hw''⟩:=hw';subst hw'';go_wp2_with fail
    go_roundw
    case rel=>
     refine⟨k+1,by omega,by omega,by go_num,zac HB.out (zav _ _),fun x' hx'=> ?_⟩;have h9:=HK.out x (by rw[HP.out];exact HXY.out.1);rw[zhn HXY.out.2,HQ.out]at h9;rw[show k+1-1=k by omega,HXY.out.2]at hx';cases hx';have h8:d.take (k+1)=d.take k++[y]:=by rw[List.take_add_one,HXY.out.2];rfl
     rw[h9,h8];simp
    case measure=>simp[intOf];omega
   ·have HQ:=z2c hq;rw[hq]at HE;clear hq;go_wp2_with fail
    refine zad (by kernel_rfl) (by kernel_rfl) ?_;repeat(go_big_quiet_step(((first|go_at_call 194|go_at_call 199|go_at_call 204);with_reducible exact Calls.grow_of (HE.out _ bel))))
    refine wpQuiet_nil ?_;intro _ hw';obtain⟨nq,hw''⟩:=hw';subst hw'';obtain⟨n2,hn2⟩: ∃n2,N-k=n2:=⟨_,rfl⟩;have rn2:(N:Int)-k=n2:=by omega
    have hk9:k+n2=N:=by omega
    have HK9:=z2c hk9;have hn29:0<n2/\n2<=N:=by omega
    obtain⟨hn20,hn21⟩:=hn29;clear hn2 hk9;have HK0:Hid (zbw Zl d=d.take k++zf1 Zl y (d.drop (k+1))):=by
     have h9:=HK.out x (by rw[HP.out];exact HXY.out.1);rw[zhn HXY.out.2,HQ.out]at h9;exact h9
    obtain⟨c2,hc2⟩: ∃c2,cap-k=c2:=⟨_,rfl⟩;have rc2:(cap:Int)-k=c2:=by omega
    have HC2:=z2c hc2;clear hc2;have j0:(0:Int)<=k/\(k:Int)<=N/\(N:Int)<=cap:=by omega
    have j1: ¬cap=k:=by omega
    have j2:k<=cap:=by omega
    have j3:cap-k=c2:=HC2.out;have j4:N-k=n2:=by have:=HK9.out;omega
    go_wp2_with fail
    first|cases isS;clear HE c0 z0 HR5 HK|cases isA;clear HE u0 u1 z0 z1 HR5 HK|clear HE u0 u1 u2 z0 z1 z2 HR5 HK
    go_loopw [5,7] (fun s5 s7 wv=> ∃(k1 i:Nat) (E:List Z0),k<=k1/\0<i/\i<=n2/\k1+1<=k+i/\s5= .int .i64 (k1:Nat)/\s7= .int .i64 (i:Nat)/\Hid (zab (fun k=>k=g) w wv)/\Hid (Z1 wv B g cap E)/\Hid (E.length=N/\(∀j,k+i<=j+1->E[j]? =d[j]?)/\ ∀x,d[k+i-1]? =some x->zbw Zl d=E.take k1++zf1 Zl x (d.drop (k+i)))) (fun _ s7 _=>N-(intOf s7).toNat)
    case atStart=>
     refine⟨k,1,d,by omega,by omega,by omega,by omega,rfl,rfl,zab.of_below (zac HB.out bel),HR.out.turned (zab.of_below (pv:=fun _=>False) (zac HB.out bel)) (fun h=>h),HN.out,fun _ _=>rfl,fun x' hx'=> ?_⟩;rw[show k+1-1=k by omega,HXY.out.2]at hx';cases hx';exact HK0.out
    case round=>
     obtain⟨k1,i,E,a1,a2,a3,a4,rfl,rfl,HTu,HRo,HEq⟩:=hrel;by_cases hi:i<n2
     ·have hi2:(i:Int)<n2:=by omega
      obtain⟨p2,hp2⟩: ∃p2,i-1=p2:=⟨_,rfl⟩;have rp2:(i:Int)-1=p2:=by omega
      have HP2:=z2c hp2;have a5:k+i<N:=by have:=HK9.out;omega
      obtain⟨x2,hx2⟩: ∃x2,d[k+p2]? =some x2:=⟨d[k+p2]'(by have:=HN.out;omega),z2q _⟩;obtain⟨y2,hy2⟩: ∃y2,d[k+i]? =some y2:=⟨d[k+i]'(by have:=HN.out;omega),z2q _⟩;obtain⟨z2,hz2⟩: ∃z2,E[k1]? =some z2:=⟨E[k1]'(by have:=HEq.out.1;omega),z2q _⟩;first
       |cases isS
        have c0:=HRo.out.cell (i:=k+p2) (x:=x2) (by rw[HEq.out.2.1 _ (by omega)];exact hx2)
        have z0:=HRo.out.cell (i:=k+i) (x:=y2) (by rw[HEq.out.2.1 _ (by omega)];exact hy2)
        have e0:=HRo.out.cell hz2
        have f0:=HRo.out.frozen k1
        simp only[sv]at c0 z0 e0
       |cases isA
        obtain⟨u0,u1⟩:=HRo.out.cell (i:=k+p2) (x:=x2) (by rw[HEq.out.2.1 _ (by omega)];exact hx2)
        rw[show(k+p2)*2=k*2+p2*2 by omega]at u0
        rw[show(k+p2)*2+1=k*2+p2*2+1 by omega]at u1
        obtain⟨z0,z1⟩:=HRo.out.cell (i:=k+i) (x:=y2) (by rw[HEq.out.2.1 _ (by omega)];exact hy2)
        rw[show(k+i)*2=k*2+i*2 by omega]at z0
        rw[show(k+i)*2+1=k*2+i*2+1 by omega]at z1
        obtain⟨e0,e1⟩:=HRo.out.cell hz2
        have f0:=HRo.out.frozen (k1*2)
        have f1:=HRo.out.frozen (k1*2+1)
        simp only[sv]at u0 u1 z0 z1 e0 e1
       |obtain⟨u0,u1,u2⟩:=HRo.out.cell (i:=k+p2) (x:=x2) (by rw[HEq.out.2.1 _ (by omega)];exact hx2)
        rw[show(k+p2)*3=k*3+p2*3 by omega]at u0
        rw[show(k+p2)*3+1=k*3+p2*3+1 by omega]at u1
        rw[show(k+p2)*3+2=k*3+p2*3+2 by omega]at u2
        obtain⟨z0,z1,z2⟩:=HRo.out.cell (i:=k+i) (x:=y2) (by rw[HEq.out.2.1 _ (by omega)];exact hy2)
        rw[show(k+i)*3=k*3+i*3 by omega]at z0
        rw[show(k+i)*3+1=k*3+i*3+1 by omega]at z1
        rw[show(k+i)*3+2=k*3+i*3+2 by omega]at z2
        obtain⟨e0,e1,e2⟩:=HRo.out.cell hz2
        have f0:=HRo.out.frozen (k1*3)
        have f1:=HRo.out.frozen (k1*3+1)
        have f2:=HRo.out.frozen (k1*3+2)
        simp only[sv]at u0 u1 u2 z0 z1 z2 e0 e1 e2
      have hgw2:=zlv HRo.out;have a6:p2<n2/\k1<N:=by omega
      obtain⟨a6,a7⟩:=a6;first
       |cases isS
        have HE:Hid (∀W,Below wr.heap.size wr W->Calls z2f 194 #[.string ⟨y2.toArray⟩,.string ⟨x2.toArray⟩,.pointer (some ⟨b,0,none⟩)] W (Ret (.bool (eqS y2 x2)) W)):=fun W hW=>by
         refine zn9 b y2 x2 W ?_;have h9:=HTu.out.trans (zab.of_below (pv:=fun k=>k=g) hW);have h8:=h9.block b hb hbg;rw[<-HC0.out];simp only[World.cell?,h8]
       |cases isA
        have HE:Hid (∀W,Below wr.heap.size wr W->Calls z2f 199 #[.agg #[.string ⟨y2.tag.toArray⟩,.string ⟨y2.name.toArray⟩],.agg #[.string ⟨x2.tag.toArray⟩,.string ⟨x2.name.toArray⟩],.pointer (some ⟨b,0,none⟩)] W (Ret (.bool (eqA y2 x2)) W)):=fun W hW=>by
         refine zob b y2 x2 W ?_;have h9:=HTu.out.trans (zab.of_below (pv:=fun k=>k=g) hW);have h8:=h9.block b hb hbg;rw[<-HC0.out];simp only[World.cell?,h8]
       |have HE:Hid (∀W,Below wr.heap.size wr W->Calls z2f 204 #[.agg #[.string ⟨y2.tag.toArray⟩,.string ⟨y2.name.toArray⟩,.string ⟨y2.value.toArray⟩],.agg #[.string ⟨x2.tag.toArray⟩,.string ⟨x2.name.toArray⟩,.string ⟨x2.value.toArray⟩],.pointer (some ⟨b,0,none⟩)] W (Ret (.bool (eqF y2 x2)) W)):=fun W hW=>by
         refine zoa b y2 x2 W ?_;have h9:=HTu.out.trans (zab.of_below (pv:=fun k=>k=g) hW);have h8:=h9.block b hb hbg;rw[<-HC0.out];simp only[World.cell?,h8]
      have HXY2:=z2c (And.intro hx2 hy2);clear hp2 hx2 hy2 hz2;cases hq:Zl y2 x2
      ·have HQ2:=z2c hq;rw[hq]at HE;clear hq;go_wp2_with fail
       refine zad (by kernel_rfl) (by kernel_rfl) ?_;repeat(go_big_quiet_step(((first|go_at_call 194|go_at_call 199|go_at_call 204);with_reducible exact Calls.grow_of (HE.out _ bel))))
       refine wpQuiet_nil ?_;intro _ hw';obtain⟨nq,hw''⟩:=hw';subst hw'';go_wp2_with fail
       go_roundw
       case rel=>
        have hl:k1<E.length:=by have:=HEq.out.1;omega
        first|cases isS;refine⟨k1+1,i+1,E.set k1 y2,by omega,by omega,by omega,by omega,by go_num,by go_num,(HTu.out.setCell (.inr rfl) _).grow _,(HRo.out.set k1 hl y2).turned (zab.of_below (pv:=fun _=>False) (zav _ _)) (fun h=>h),by rw[z5a];exact HEq.out.1,fun j hj=>by rw[z54 (by omega)];exact HEq.out.2.1 j (by omega),fun x' hx'=> ?_⟩|cases isA;refine⟨k1+1,i+1,E.set k1 y2,by omega,by omega,by omega,by omega,by go_num,by go_num,((HTu.out.setCell (.inr rfl) _).setCell (.inr rfl) _).grow _,(HRo.out.set k1 hl y2).turned (zab.of_below (pv:=fun _=>False) (zav _ _)) (fun h=>h),by rw[z5a];exact HEq.out.1,fun j hj=>by rw[z54 (by omega)];exact HEq.out.2.1 j (by omega),fun x' hx'=> ?_⟩|refine⟨k1+1,i+1,E.set k1 y2,by omega,by omega,by omega,by omega,by go_num,by go_num,(((HTu.out.setCell (.inr rfl) _).setCell (.inr rfl) _).setCell (.inr rfl) _).grow _,(HRo.out.set k1 hl y2).turned (zab.of_below (pv:=fun _=>False) (zav _ _)) (fun h=>h),by rw[z5a];exact HEq.out.1,fun j hj=>by rw[z54 (by omega)];exact HEq.out.2.1 j (by omega),fun x' hx'=> ?_⟩
        have h9:=HEq.out.2.2 x2 (by rw[show k+i-1=k+p2 by have:=HP2.out;omega];exact HXY2.out.1);rw[show k+(i+1)-1=k+i by omega,HXY2.out.2]at hx';cases hx';rw[zhn HXY2.out.2,HQ2.out]at h9;have h8:(E.set k1 y2).take (k1+1)=E.take k1++[y2]:=by
         rw[List.set_eq_take_append_cons_drop,if_pos hl,List.take_append,z2p (by rw[z2r];omega),z2r,Nat.min_eq_left (by omega),show k1+1-k1=1 by omega];rfl
        rw[h9,h8,List.append_assoc];rfl
       case measure=>simp[intOf];omega
      ·have HQ2:=z2c hq;rw[hq]at HE;clear hq;go_wp2_with fail
       refine zad (by kernel_rfl) (by kernel_rfl) ?_;repeat(go_big_quiet_step(((first|go_at_call 194|go_at_call 199|go_at_call 204);with_reducible exact Calls.grow_of (HE.out _ bel))))
       refine wpQuiet_nil ?_;intro _ hw';obtain⟨nq,hw''⟩:=hw';subst hw'';go_wp2_with fail
       go_roundw
       case rel=>
        refine⟨k1,i+1,E,a1,by omega,by omega,by omega,rfl,by go_num,HTu.out.grow _,HRo.out.turned (zab.of_below (pv:=fun _=>False) (zav _ _)) (fun h=>h),HEq.out.1,fun j hj=>HEq.out.2.1 j (by omega),fun x' hx'=> ?_⟩;have h9:=HEq.out.2.2 x2 (by rw[show k+i-1=k+p2 by have:=HP2.out;omega];exact HXY2.out.1);rw[show k+(i+1)-1=k+i by omega,HXY2.out.2]at hx';cases hx';rw[zhn HXY2.out.2,HQ2.out]at h9;exact h9
       case measure=>simp[intOf];omega
     ·have hi2: ¬(i:Int)<n2:=by omega
      have e1:i=n2:=by omega
      subst e1;have a5:=HK9.out;have HT9:Hid (k1=m/\E.take m=zbw Zl d):=by
       obtain⟨x2,hx2⟩: ∃x2,d[k+i-1]? =some x2:=⟨d[k+i-1]'(by have:=HN.out;omega),z2q _⟩;have h9:=HEq.out.2.2 x2 hx2;rw[zsl (by have:=HN.out;omega),List.append_nil]at h9;have h8:=HM.out;rw[h9,z2r]at h8;have h7:k1=m:=by have:=HEq.out.1;omega
       exact⟨h7,by rw[<-h7];exact h9.symm⟩
      obtain⟨n3,hn3⟩: ∃n3,N-k1=n3:=⟨_,rfl⟩;obtain⟨c3,hc3⟩: ∃c3,cap-k1=c3:=⟨_,rfl⟩;have rn3:(N:Int)-k1=n3:=by omega
      have rc3:(cap:Int)-k1=c3:=by omega
      have b0:(0:Int)<=k1/\(k1:Int)<=N/\(N:Int)<=cap:=by omega
      have b1: ¬cap=k1:=by omega
      have b2:k1<=cap:=by omega
      have b3:0<n3:=by omega
      first
       |cases isS
        have HCl:Hid (∃E',RowS (wr.setCells g k1 (z2x n3 (sv []))) B g cap E'/\E'.length=E.length/\E'.take k1=E.take k1/\zab (fun k=>k=g) wr (wr.setCells g k1 (z2x n3 (sv [])))):=
         RowS.clear n3 k1 E wr HRo.out (by have:=HEq.out.1;omega)
        have hcl: ∀ty,(Builtin.clear_ #[47] ty #[.slice (some ⟨g,k1,none⟩) n3 c3]).run z2f wr= .ok (.tuple #[]) (wr.setCells g k1 (z2x n3 (sv []))):=fun ty=>
         Lib.run_clear_slice wr _ 9 ty _ (by kernel_rfl) zy8 rfl rfl g k1 n3 c3 b3 (fun j hj=>by
          obtain⟨z9,hz9⟩: ∃z9,E[k1+j]? =some z9:=⟨E[k1+j]'(by have:=HEq.out.1;omega),z2q _⟩;rw[HRo.out.cell hz9];rfl) (fun j _=>HRo.out.frozen _)
        generalize z2x n3 (sv [])=zs at*
       |cases isA
        have HCl:Hid (∃E',RowA (wr.setCells g (k1*2) (z2x (n3*2) (sv []))) B g cap E'/\E'.length=E.length/\E'.take k1=E.take k1/\zab (fun k=>k=g) wr (wr.setCells g (k1*2) (z2x (n3*2) (sv [])))):=
         RowA.clear n3 k1 E wr HRo.out (by have:=HEq.out.1;omega)
        have hcl: ∀ty,(Builtin.clear_ #[48] ty #[.slice (some ⟨g,k1*2,none⟩) n3 c3]).run z2f wr= .ok (.tuple #[]) (wr.setCells g (k1*2) (z2x (n3*2) (sv []))):=fun ty=>
         zjw wr _ 101 ty _ (sv []) 2 (by kernel_rfl) zero_A rfl (by omega) rfl g (k1*2) n3 c3 b3 (fun j hj=>by
          obtain⟨q,r,hr,rfl⟩: ∃q r,r<2/\j=q*2+r:=⟨j/2,j%2,by omega,by omega⟩;obtain⟨z9,hz9⟩: ∃z9,E[k1+q]? =some z9:=⟨E[k1+q]'(by have:=HEq.out.1;omega),z2q _⟩;have h9:=HRo.out.cell hz9;obtain rfl|rfl:r=0\/r=1:=by omega
          ·rw[show k1*2+(q*2+0)=(k1+q)*2 by omega,h9.1];rfl
          ·rw[show k1*2+(q*2+1)=(k1+q)*2+1 by omega,h9.2];rfl) (fun j _=>HRo.out.frozen _)
        generalize z2x (n3*2) (sv [])=zs at*
       |have HCl:Hid (∃E',RowF (wr.setCells g (k1*3) (z2x (n3*3) (sv []))) B g cap E'/\E'.length=E.length/\E'.take k1=E.take k1/\zab (fun k=>k=g) wr (wr.setCells g (k1*3) (z2x (n3*3) (sv [])))):=
         RowF.clear n3 k1 E wr HRo.out (by have:=HEq.out.1;omega)
        have hcl: ∀ty,(Builtin.clear_ #[49] ty #[.slice (some ⟨g,k1*3,none⟩) n3 c3]).run z2f wr= .ok (.tuple #[]) (wr.setCells g (k1*3) (z2x (n3*3) (sv []))):=fun ty=>
         zjv wr _ 103 ty _ (sv []) 3 (by kernel_rfl) zero_F rfl (by omega) rfl g (k1*3) n3 c3 b3 (fun j hj=>by
          obtain⟨q,r,hr,rfl⟩: ∃q r,r<3/\j=q*3+r:=⟨j/3,j%3,by omega,by omega⟩;obtain⟨z9,hz9⟩: ∃z9,E[k1+q]? =some z9:=⟨E[k1+q]'(by have:=HEq.out.1;omega),z2q _⟩;have h9:=HRo.out.cell hz9;obtain rfl|rfl|rfl:r=0\/r=1\/r=2:=by omega
          ·rw[show k1*3+(q*3+0)=(k1+q)*3 by omega,h9.1];rfl
          ·rw[show k1*3+(q*3+1)=(k1+q)*3+1 by omega,h9.2.1];rfl
          ·rw[show k1*3+(q*3+2)=(k1+q)*3+2 by omega,h9.2.2];rfl) (fun j _=>HRo.out.frozen _)
        generalize z2x (n3*3) (sv [])=zs at*
      clear a5;go_wp2_with fail
      go_ret;obtain⟨E',g1,g2,g3,g4⟩:=HCl.out;obtain⟨t1,t2⟩:=HT9.out;subst t1;exact⟨rfl,HTu.out.trans g4,E',g1,by rw[g2,HEq.out.1,HN.out],by rw[HM.out,g3,t2]⟩
  ·have hlt2: ¬(k:Int)<N:=by omega
   have HE:Hid (m=N/\Zm w B g cap d wr):=by
    have h1:k=N:=by omega
    obtain⟨x,hx⟩: ∃x,d[k-1]? =some x:=⟨d[k-1]'(by have:=HN.out;omega),z2q _⟩;have h9:=HK.out x hx;have h8:=HN.out;rw[zsl (by omega),List.append_nil,z2p (by omega)]at h9;have h7:=HM.out;rw[h9]at h7;exact⟨by omega,zab.of_below HB.out,d,HR.out.turned (zab.of_below (pv:=fun _=>False) HB.out) (fun h=>h),rfl,by rw[h9,List.take_length]⟩
   go_wp2_with fail
   go_ret;exact⟨by rw[HE.out.1];rfl,HE.out.2⟩):P:=h
theorem zpd (B g cap b:Nat) (d:List Bs) (w:World) (h:RowS w B g cap d) (hc:w.cell? ⟨b,0,none⟩=some (.func (.func 118) #[] #[])) (hbg:b≠g) (hn:d.length<=1000000000):
  Calls z2f 193 #[.slice (some ⟨g,0,none⟩) d.length cap,.func (.func 194) #[] #[.pointer (some ⟨b,0,none⟩)]] w
   fun e w'=>e= .returned (.slice (some ⟨g,0,none⟩) (zbw eqS d).length cap)/\CmpS w B g cap d w':=zvn
open Go.Proofs.YtiikamobcmgekaaGreatDoor renaming zpd→Zo
theorem eqS_ev:eqS=ev ltB:=by
 funext y x;have h1:=znd y x;have h2:=ev_B y x;unfold eqS;rw[h2,<-h1,Bool.eq_iff_iff];simp
open Go.Proofs.YtiikamobcmgekaaGreatDoor renaming eqS_ev→Zn
theorem zwt {W:World} {B g cap:Nat} {E:List Bs} (h:RowS W B g cap E) (m:Nat) (hm:m<=E.length):Rd W (.slice (some ⟨g,0,none⟩) m cap) m 1 ((E.take m).map sv):=by
 have h1:=Rd.part (Rd.own h) m hm;rw[Nat.mul_one,<-List.map_take]at h1;exact h1
open Go.Proofs.YtiikamobcmgekaaGreatDoor renaming zwt→Zp
theorem zvm {P:Prop} (h:P:=by
 obtain⟨_,S,hr,hu,ha⟩:=hs;have hl:=zax.len Z3 _ S d (z2k _) ha;have hne:zbw Zl S=zap Z2 d:=by rw[Zn];exact zqu Z3 hu ha
 have h9:=Zo B g cap b S W' hr hc hbg (by omega);rw[hl,hne]at h9;refine h9.mono ?_;rintro e w' ⟨rfl,ht,E,h1,h2,h3⟩;rw[hne]at h3;refine⟨rfl,ht, ?_⟩;have hm:(zap Z2 d).length<=E.length:=by
  have:=congrArg List.length h3;rw[z2r]at this;omega
 have h4:=Zp h1 _ hm;rw[h3]at h4;exact h4):P:=h
theorem zjq (B g cap b:Nat) (d:List Bs) (W W':World) (hs:SrtS W B g cap d W') (hc:W'.cell? ⟨b,0,none⟩=some (.func (.func 118) #[] #[])) (hbg:b≠g) (hn:d.length<=1000000000):
  Calls z2f 193 #[.slice (some ⟨g,0,none⟩) d.length cap,.func (.func 194) #[] #[.pointer (some ⟨b,0,none⟩)]] W'
   fun e w'=>e= .returned (.slice (some ⟨g,0,none⟩) (zap ltB d).length cap)/\zab (fun k=>k=g) W' w'/\Rd w' (.slice (some ⟨g,0,none⟩) (zap ltB d).length cap) (zap ltB d).length 1 ((zap ltB d).map sv):=zvm
open Go.Proofs.YtiikamobcmgekaaGreatDoor renaming zjq→Zv
theorem zvl {P:Prop} (h:P:=by
 have hmx:=mxd;have hmf: ∀(fn:Fn) (first cap:Array Value) (w:World),(Instr.makeFunc fn first cap).run z2f w= .ok (.func fn first cap) w:=fun _ _ _ _=>rfl;cases A with
 |none=>
  have h0:=Rd.none_nil h;obtain rfl:d=[]:=List.eq_nil_of_length_eq_zero h0;have HC:=z2c (fun W=>Zq 0 c W);have HS:=z2c (fun W=>Zr none 0 W);have HP:=z2c (fun f W=>Zs none 0 f W);clear h hn h0;first
   |cases isS
    show Calls z2f 117 #[.slice none 0 c,(.func (.func 118) #[] #[])] w (RetN w 0 1 [])
    go_enter Tryz.func117,Tryz.ntmps117
   |cases isA
    show Calls z2f 119 #[.slice none 0 c,(.func (.func 120) #[] #[])] w (RetN w 0 2 [])
    go_enter Tryz.func119,Tryz.ntmps119
   |show Calls z2f 121 #[.slice none 0 c,(.func (.func 122) #[] #[])] w (RetN w 0 3 [])
    go_enter Tryz.func121,Tryz.ntmps121
  go_wp2_with(first
   |((first|go_at_call 191|go_at_call 196|go_at_call 201);(with_reducible refine(HC.out _).mono ?_);rintro e W2 ⟨rfl,rfl⟩)
   |((first|go_at_call 192|go_at_call 197|go_at_call 202);(with_reducible refine(HS.out _).mono ?_);rintro e W3 ⟨rfl,rfl⟩)
   |((first|go_at_call 193|go_at_call 198|go_at_call 203);(with_reducible refine(HP.out _ _).mono ?_);rintro e W4 ⟨rfl,rfl⟩))
  go_ret;exact⟨none,0,rfl,bel,⟨fun _=>rfl,z2k _⟩,Rd.empty,fun h=>absurd h (Nat.lt_irrefl 0)⟩
 |some ad=>
  have HC:=z2c (fun W (hB:Below w.heap.size w W)=>Zt ad c d W (by obtain⟨X,rfl⟩:=zao hB;exact h.grow X) hn);cases hd:d with
  |nil=>
   subst hd;have HS:=z2c (fun A cap W=>Zr A cap W);have HP:=z2c (fun A cap f W=>Zs A cap f W);first
    |cases isS
     have HC2:=z2c (fun W (hB:Below w.heap.size w W)=>show Calls z2f 191 #[.slice (some ad) 0 c] W (fun e w'=> ∃A' c',e= .returned (.slice A' 0 c')/\(A'=none->c'=0)/\Below W.heap.size W w')from(HC.out W hB).mono (by
      rintro e w' ⟨v',rfl,ho,hb⟩;obtain⟨A',c',rfl,_⟩:=zah ho;exact⟨A',c',rfl,zmy ho,hb⟩))
    |cases isA
     have HC2:=z2c (fun W (hB:Below w.heap.size w W)=>show Calls z2f 196 #[.slice (some ad) 0 c] W (fun e w'=> ∃A' c',e= .returned (.slice A' 0 c')/\(A'=none->c'=0)/\Below W.heap.size W w')from(HC.out W hB).mono (by
      rintro e w' ⟨v',rfl,ho,hb⟩;obtain⟨A',c',rfl,_⟩:=zah ho;exact⟨A',c',rfl,zmy ho,hb⟩))
    |have HC2:=z2c (fun W (hB:Below w.heap.size w W)=>show Calls z2f 201 #[.slice (some ad) 0 c] W (fun e w'=> ∃A' c',e= .returned (.slice A' 0 c')/\(A'=none->c'=0)/\Below W.heap.size W w')from(HC.out W hB).mono (by
      rintro e w' ⟨v',rfl,ho,hb⟩;obtain⟨A',c',rfl,_⟩:=zah ho;exact⟨A',c',rfl,zmy ho,hb⟩))
   clear h hn HC;first
    |cases isS
     show Calls z2f 117 #[.slice (some ad) 0 c,(.func (.func 118) #[] #[])] w (RetN w 0 1 [])
     go_enter Tryz.func117,Tryz.ntmps117
    |cases isA
     show Calls z2f 119 #[.slice (some ad) 0 c,(.func (.func 120) #[] #[])] w (RetN w 0 2 [])
     go_enter Tryz.func119,Tryz.ntmps119
    |show Calls z2f 121 #[.slice (some ad) 0 c,(.func (.func 122) #[] #[])] w (RetN w 0 3 [])
     go_enter Tryz.func121,Tryz.ntmps121
   go_upto_region 1 with fail
   refine zae fun W1 hW1=> ?_;have HB1:Hid (Below w.heap.size w W1):=by show Below _ _ _;rw[hW1];exact bel
   have hs1:w.heap.size<W1.heap.size:=by rw[hW1];simp
   first|cases isS;have hc1:W1.cell? ⟨w.heap.size,0,none⟩=some (.func (.func 118) #[] #[]):=by rw[hW1];simp[go_sem]|cases isA;have hc1:W1.cell? ⟨w.heap.size,0,none⟩=some (.func (.func 120) #[] #[]):=by rw[hW1];simp[go_sem]|have hc1:W1.cell? ⟨w.heap.size,0,none⟩=some (.func (.func 122) #[] #[]):=by rw[hW1];simp[go_sem]
   clear hW1;go_wp2_with(first
    |((first|go_at_call 191|go_at_call 196|go_at_call 201);(with_reducible refine(HC2.out W1 HB1.out).mono ?_);rintro e W2 ⟨A2,c2,rfl,hA2,hb2⟩;have HB2:=z2c (zac HB1.out hb2);have hc2:=(hb2.cell hs1).trans hc1;clear hb2)
    |((first|go_at_call 192|go_at_call 197|go_at_call 202);(with_reducible refine(HS.out _ _ _).mono ?_);rintro e W3 ⟨rfl,rfl⟩)
    |((first|go_at_call 193|go_at_call 198|go_at_call 203);(with_reducible refine(HP.out _ _ _ _).mono ?_);rintro e W4 ⟨rfl,rfl⟩))
   go_ret;exact⟨A2,c2,rfl,zac HB2.out bel,⟨hA2,Nat.zero_le _⟩,Rd.empty,fun h=>absurd h (Nat.lt_irrefl 0)⟩
  |cons x r=>
   rw[<-hd];have hpos:0<d.length:=by rw[hd];simp
   clear hd;first
    |cases isS
     have HC2:=z2c (fun W (hB:Below w.heap.size w W)=>show Calls z2f 191 #[.slice (some ad) d.length c] W (fun e w'=> ∃g cap,e= .returned (.slice (some ⟨g,0,none⟩) d.length cap)/\RowS w' W.heap.size g cap d/\W.heap.size<=g/\Below W.heap.size W w')from(HC.out W hB).mono (by
      rintro e w' ⟨v',rfl,ho,hb⟩;obtain⟨g,cap,rfl⟩:=Go.Joins.ownsRow_form ho hpos;exact⟨g,cap,rfl,ho,(ho.lt g rfl).1,hb⟩))
    |cases isA
     have HC2:=z2c (fun W (hB:Below w.heap.size w W)=>show Calls z2f 196 #[.slice (some ad) d.length c] W (fun e w'=> ∃g cap,e= .returned (.slice (some ⟨g,0,none⟩) d.length cap)/\RowA w' W.heap.size g cap d/\W.heap.size<=g/\Below W.heap.size W w')from(HC.out W hB).mono (by
      rintro e w' ⟨v',rfl,ho,hb⟩;obtain⟨g,cap,rfl⟩:=Go.Joins.ownsRow_form ho hpos;exact⟨g,cap,rfl,ho,(ho.lt g rfl).1,hb⟩))
    |have HC2:=z2c (fun W (hB:Below w.heap.size w W)=>show Calls z2f 201 #[.slice (some ad) d.length c] W (fun e w'=> ∃g cap,e= .returned (.slice (some ⟨g,0,none⟩) d.length cap)/\RowF w' W.heap.size g cap d/\W.heap.size<=g/\Below W.heap.size W w')from(HC.out W hB).mono (by
      rintro e w' ⟨v',rfl,ho,hb⟩;obtain⟨g,cap,rfl⟩:=Go.Joins.ownsRow_form ho hpos;exact⟨g,cap,rfl,ho,(ho.lt g rfl).1,hb⟩))
   have HSo:=z2c (fun B g cap W (hr:Z1 W B g cap d)=>Zu B g cap d W hr hn);have HCp:=z2c (fun B g cap b W W' hs hc hbg=>Zv B g cap b d W W' hs hc hbg hn);clear h HC hpos;have HTn:=z2c (zdo Z2 d);generalize(zap Z2 d)=T at*;obtain⟨N,hN⟩: ∃N,d.length=N:=⟨_,rfl⟩;rw[hN]at HC2 HSo HCp ⊢;clear hN hn;first|go_enter Tryz.func117,Tryz.ntmps117|go_enter Tryz.func119,Tryz.ntmps119|go_enter Tryz.func121,Tryz.ntmps121
   go_upto_region 1 with fail
   refine zae fun W1 hW1=> ?_;have HB1:Hid (Below w.heap.size w W1):=by show Below _ _ _;rw[hW1];exact bel
   have hs1:W1.heap.size=w.heap.size+1:=by rw[hW1];simp
   first|cases isS;have hc1:W1.cell? ⟨w.heap.size,0,none⟩=some (.func (.func 118) #[] #[]):=by rw[hW1];simp[go_sem]|cases isA;have hc1:W1.cell? ⟨w.heap.size,0,none⟩=some (.func (.func 120) #[] #[]):=by rw[hW1];simp[go_sem]|have hc1:W1.cell? ⟨w.heap.size,0,none⟩=some (.func (.func 122) #[] #[]):=by rw[hW1];simp[go_sem]
   clear hW1;go_wp2_with(first
    |((first|go_at_call 191|go_at_call 196|go_at_call 201);(with_reducible refine(HC2.out W1 HB1.out).mono ?_);rintro e W2 ⟨g,cap,rfl,hr2,hg2,hb2⟩;have HR2:=z2c hr2;have HB2:=z2c (And.intro (zac HB1.out hb2) hg2);have hc2:=(hb2.cell (by show w.heap.size<_;omega)).trans hc1;clear hr2 hb2 hg2)
    |((first|go_at_call 192|go_at_call 197|go_at_call 202);(with_reducible refine(HSo.out _ g cap W2 HR2.out).mono ?_);rintro e W3 ⟨rfl,hs3⟩;have hc3:W3.cell? ⟨w.heap.size,0,none⟩=_:=(World.cell?_of_block (hs3.1.block w.heap.size (World.block_lt_of_cell? W2 _ hc2) (by have:=HB2.out.2;omega))).trans hc2;have HT3:=z2c hs3.1;have HCq:=z2c (HCp.out _ g cap w.heap.size W2 W3 hs3 hc3 (by have:=HB2.out.2;omega));clear hs3)
    |((first|go_at_call 193|go_at_call 198|go_at_call 203);(with_reducible refine HCq.out.mono ?_);rintro e W4 ⟨rfl,ht4,hr4⟩;have HT4:=z2c ht4;have HR4:=z2c hr4;clear ht4 hr4))
   go_ret;obtain⟨hb2,hg2⟩:=HB2.out;have hb3:=hb2.trans (HT3.out.below hb2.size (fun k hk=>by omega));exact⟨_,cap,rfl,hb3.trans (HT4.out.below hb3.size (fun k hk=>by omega)),⟨(fun h=>by cases h),Nat.le_trans HTn.out (by obtain⟨_,_,e9,h9⟩:=zah HR2.out;cases e9;exact h9)⟩,HR4.out,fun _ b off s h=>by cases h;omega⟩):P:=h
theorem zf0 (A:Option Addr) (c:Nat) (d:List Bs) (w:World) (h:Rd w (.slice A d.length c) d.length 1 ((d).map sv)) (hn:d.length<=1000000000):
  Calls z2f 117 #[.slice A d.length c,(.func (.func 118) #[] #[])] w (RetN w (zap ltB d).length 1 ((zap ltB d).map sv)):=zvl
end Go.Proofs.YtiikamobcmgekaaGreatDoor

