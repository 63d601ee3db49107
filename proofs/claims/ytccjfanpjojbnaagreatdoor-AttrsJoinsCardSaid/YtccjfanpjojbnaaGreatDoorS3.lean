import Derived.Test.YtccjfanpjojbnaaGreatDoorSortSf
namespace Go.Proofs.YtccjfanpjojbnaaGreatDoor
open Go.Ending renaming returned→aL
open Go.IntKind renaming i64→aC
open Lib renaming cell?_alloc_some→yd,hid→aA,run_eql_slice_nil→Xh
open List renaming append_assoc→cY,getElem?_eq_getElem→eV,getElem?_eq_some_iff→gV,getElem?_set_ne→xy,length_append→aZ,length_set→mM,length_take→bZ,replicate→cX,take_of_length_le→fI
open Nat renaming le_refl→bA
open Tryz renaming prog→aE
open Go.Value renaming agg→aR,bool→aI,int→aB,pointer→aM,slice→aF,string→aD,tuple→aN
set_option maxRecDepth 1000000
set_option maxHeartbeats 16000000
open Go.RowKit
open KS
open YtccjfanpjojbnaaGreatDoor renaming Jk→Zd,Hf→Ze,uB→Z3z,Bs→Z0,bF→Z2z,wN→Z4z,dI→Z1
def yE (w:World) (B g cap:Nat) (d:List Bs) (a b:Nat) (w':World):Prop:=aJ (λk=>k=g) w w'/\ ∃s,dI w' B g cap (iN d a b s)/\Up bF s/\bH bF s (eQ d a b)
theorem JB {P:Prop} (h:P:=by
 have e1:d.take a++eQ d a b++d.drop b=d:=EK d hab;have e2:(d.take a).length=a:=by rw[bZ];omega
 have e3:(d.take a++eQ d a b).length=b:=by rw[aZ,e2,BB d hab om];omega
 have h9:=Zd B g cap (d.take a) (eQ d a b) (d.drop b) w (by rw[e1];exact h) (by rw[e1];omega);rw[e1,e2,e3,hN]at h9;exact h9):P:=h
theorem WU (B g cap:Nat) (d:List Bs) (a b N:Nat) (w:World) (h:dI w B g cap d) (hN:d.length=N) (hab:a<=b) (hb:b<=N) (hn:N<=1000000000):
  Calls aE 190 #[aF (some ⟨g,0,none⟩) N cap,aB aC a,aB aC b,(.func (.func 49) #[] #[])] w λe w'=>e=aL (aN #[])/\yE w B g cap d a b w':=JB
theorem JA {P:Prop} (h:P:=by
 have e4:eQ d a m++eQ d m b=eQ d a b:=by
  unfold eQ;rw[show b-a=(m-a)+(b-m) by omega,List.take_add,List.drop_drop,show a+(m-a)=m by omega]
 have e1:d.take a++eQ d a m++eQ d m b++d.drop b=d:=by
  rw[cY (d.take a),e4];exact EK d om
 have e2:(d.take a).length=a:=by rw[bZ];omega
 have f1:=BB d (a:=a) (b:=m) om om;have f2:=BB d (a:=m) (b:=b) om om;have e3:(d.take a++eQ d a m).length=m:=by rw[aZ,e2,f1];omega
 have e5:(d.take a++eQ d a m++eQ d m b).length=b:=by rw[aZ,e3,f2];omega
 have h9:=Ze _ B g cap (d.take a) (eQ d a m) (eQ d m b) (d.drop b) w (bA _) om om  (by rw[e1];exact h) hU1 hU2 (by rw[e1];omega);rw[e1,e2,e3,e5,hN,e4]at h9;exact h9):P:=h
theorem Gk (B g cap:Nat) (d:List Bs) (a m b N:Nat) (w:World) (h:dI w B g cap d) (hN:d.length=N) (ham:a<m) (hmb:m<b) (hb:b<=N) (hn:N<=1000000000) (hU1:Up bF (eQ d a m)) (hU2:Up bF (eQ d m b)):
  Calls aE 191 #[aF (some ⟨g,0,none⟩) N cap,aB aC a,aB aC m,aB aC b,(.func (.func 49) #[] #[])] w λe w'=>e=aL (aN #[])/\yE w B g cap d a b w':=JA
open YtccjfanpjojbnaaGreatDoor renaming Gk→Zg
structure GX (w:World) (B g cap:Nat) (d:List Bs) (D:List Bs) (wr:World):Prop where
 turned:aJ (λk=>k=g) w wr
 row:dI wr B g cap D
 alike:bH bF D d
 len:D.length=d.length
open YtccjfanpjojbnaaGreatDoor renaming GX→Zf
theorem JN {P:Prop} (h:P:=by
 obtain⟨h1,s,h2,h3,h4⟩:=hs;have h5:s.length=b-a:=by rw[bH.len Z3z _ _ _ (bA _) h4,BB D hab (by rw[h.len];exact hb)]
 exact⟨s,⟨h.turned.trans h1,h2,(Cd hab h4).trans h.alike,by rw[TH hab (by rw[h.len];exact hb) h5,h.len]⟩,h3,h5⟩):P:=h
theorem GX.seg {w:World} {B g cap:Nat} {d D:List Bs} {wr w':World} {a b:Nat} (h:GX w B g cap d D wr) (hs:yE wr B g cap D a b w') (hab:a<=b) (hb:b<=d.length):
  ∃s,GX w B g cap d (iN D a b s) w'/\Up bF s/\s.length=b-a:=JN
def OE (w:World) (B g cap:Nat) (d:List Bs) (w':World):Prop:=aJ (λk=>k=g) w w'/\ ∃S,dI w' B g cap S/\Up bF S/\bH bF S d
theorem JM {P:Prop} (h:P:=by
 have hmx:=bX;obtain⟨N,hN⟩: ∃N,d.length=N:=⟨_,rfl⟩;rw[hN];rw[hN]at hn;have HN:=aA hN;have HR:=aA h;clear hN h;first|go_enter Tryz.func155,Tryz.ntmps155|go_enter Tryz.func156,Tryz.ntmps156|go_enter Tryz.func157,Tryz.ntmps157
 go_wp2_with fail
 go_loopw [7,8] (λi j wr=> ∃(q a b:Nat) (D:List Z0),a<=N/\b<=N+20/\i=aB aC (a:Nat)/\j=aB aC (b:Nat)/\Hid (a=q*20/\b=a+20)/\Hid (Zf w B g cap d D wr)/\Hid (rN Z2z 20 (q*20) D)) (λi _ _=>N+1-(intOf i).toNat)
 case atStart=>exact⟨0,0,20,d,by omega,by omega,rfl,rfl,⟨rfl,rfl⟩,⟨aJ.refl _ _,HR.out,bH.refl _,rfl⟩,λk hk=>by omega⟩
 case round=>
  obtain⟨q,a,b,D,ha,hb,rfl,rfl,HV,HM0,HT⟩:=hrel;by_cases hle:b<=N
  .have hle2:(b:Int)<=N:=by omega
   first
    |cases isS
     have HI:Hid (Calls aE 190 #[aF (some ⟨g,0,none⟩) N cap,aB aC a,aB aC b,(.func (.func 49) #[] #[])] wr λe w'=>e=aL (aN #[])/\yE wr B g cap D a b w'):=
      WU B g cap D a b N wr HM0.out.row (HM0.out.len.trans HN.out) (by have:=HV.out;omega) hle hn
    |cases isA
     have HI:Hid (Calls aE 192 #[aF (some ⟨g,0,none⟩) N cap,aB aC a,aB aC b,(.func (.func 51) #[] #[])] wr λe w'=>e=aL (aN #[])/\yG wr B g cap D a b w'):=
      WW B g cap D a b N wr HM0.out.row (HM0.out.len.trans HN.out) (by have:=HV.out;omega) hle hn
    |have HI:Hid (Calls aE 194 #[aF (some ⟨g,0,none⟩) N cap,aB aC a,aB aC b,(.func (.func 53) #[] #[])] wr λe w'=>e=aL (aN #[])/\yF wr B g cap D a b w'):=
      WV B g cap D a b N wr HM0.out.row (HM0.out.len.trans HN.out) (by have:=HV.out;omega) hle hn
   go_wp2_with((first|go_at_call 190|go_at_call 192|go_at_call 194);(with_reducible refine HI.out.mono ?_);rintro e2 W2 ⟨rfl,hs2⟩;have HS2:=aA hs2;clear hs2)
   go_roundw
   case rel=>
    obtain⟨v1,v2⟩:=HV.out;obtain⟨s,m1,m2,m3⟩:=HM0.out.seg HS2.out om (by have:=HN.out;omega);refine⟨q+1,b,b+20,_,by omega,by omega,by go_num,by go_num,⟨by omega,rfl⟩,m1, ?_⟩;have h9:=rN.next HT.out (by have:=HM0.out.len;have:=HN.out;omega) (s:=s) om m2;rw[v2,v1];exact h9
   case measure=>simp[intOf];have:=HV.out;omega
  .have hle2: ¬(b:Int)<=N:=by omega
   first
    |cases isS
     have HI:Hid (Calls aE 190 #[aF (some ⟨g,0,none⟩) N cap,aB aC a,aB aC N,(.func (.func 49) #[] #[])] wr λe w'=>e=aL (aN #[])/\yE wr B g cap D a N w'):=
      WU B g cap D a N N wr HM0.out.row (HM0.out.len.trans HN.out) ha (bA _) hn
    |cases isA
     have HI:Hid (Calls aE 192 #[aF (some ⟨g,0,none⟩) N cap,aB aC a,aB aC N,(.func (.func 51) #[] #[])] wr λe w'=>e=aL (aN #[])/\yG wr B g cap D a N w'):=
      WW B g cap D a N N wr HM0.out.row (HM0.out.len.trans HN.out) ha (bA _) hn
    |have HI:Hid (Calls aE 194 #[aF (some ⟨g,0,none⟩) N cap,aB aC a,aB aC N,(.func (.func 53) #[] #[])] wr λe w'=>e=aL (aN #[])/\yF wr B g cap D a N w'):=
      WV B g cap D a N N wr HM0.out.row (HM0.out.len.trans HN.out) ha (bA _) hn
   go_wp2_with((first|go_at_call 190|go_at_call 192|go_at_call 194);(with_reducible refine HI.out.mono ?_);rintro e2 W2 ⟨rfl,hs2⟩;have HS2:=aA hs2;clear hs2)
   have HE:Hid (∃E,Zf w B g cap d E W2/\wS Z2z 20 E):=by
    obtain⟨v1,v2⟩:=HV.out;obtain⟨s,m1,m2,m3⟩:=HM0.out.seg HS2.out ha (by have:=HN.out;omega);have g1:=HM0.out.len.trans HN.out;have h9:=rN.last om HT.out om om  (s:=s) om m2;rw[g1,<-v1]at h9;exact⟨_,m1,h9⟩
   clear HM0 HT HS2 HV HI hle hle2;go_loopw [6,7,8] (λk _ _ wr=> ∃(n:Nat),0<n/\n<=2000000000/\k=aB aC (n:Nat)/\Hid (∃E,Zf w B g cap d E wr/\wS Z2z n E)) (λk _ _ _=>N-(intOf k).toNat)
   case atStart=>exact⟨20,by omega,by omega,rfl,HE.out⟩
   case round=>
    obtain⟨n,hn0,hn1,rfl,HE2⟩:=hrel;by_cases hlt:n<N
    .have hlt2:(n:Int)<N:=by omega
     obtain⟨n2,hn2⟩: ∃n2,2*n=n2:=⟨_,rfl⟩;have HN2:=aA hn2;have rn2:(2:Int)*n=n2:=by omega
     have rn3:(n:Int)*2=n2:=by omega
     have hn3:n2<=2000000000:=by omega
     clear hn2;go_wp2_with fail
     go_loopw [7,8] (λi j wr=> ∃(q a b:Nat) (D:List Z0),a<=N/\b<=4000000000/\i=aB aC (a:Nat)/\j=aB aC (b:Nat)/\Hid (a=q*(2*n)/\b=a+n2)/\Hid (Zf w B g cap d D wr)/\Hid (nG Z2z n q D)) (λi _ _=>N+1-(intOf i).toNat)
     case atStart=>
      obtain⟨E,m1,m2⟩:=HE2.out;exact⟨0,0,n2,E,by omega,by omega,rfl,rfl,⟨by omega,by omega⟩,m1,nG.start hn0 m2⟩
     case round=>
      obtain⟨q,a,b,D,ha,hb,rfl,rfl,HV,HM0,HT⟩:=hrel;obtain⟨m,hm⟩: ∃m,a+n=m:=⟨_,rfl⟩;have HMm:=aA hm;have rm:(a:Int)+n=m:=by omega
      have hm1:m<=4000000000:=by omega
      clear hm;by_cases hle:b<=N
      .have hle2:(b:Int)<=N:=by omega
       first|cases isS;refine hv (p:=Hid (Calls aE 191 #[aF (some ⟨g,0,none⟩) N cap,aB aC a,aB aC m,aB aC b,(.func (.func 49) #[] #[])] wr λe w'=>e=aL (aN #[])/\yE wr B g cap D a b w')) ?_ ?_|cases isA;refine hv (p:=Hid (Calls aE 193 #[aF (some ⟨g,0,none⟩) N cap,aB aC a,aB aC m,aB aC b,(.func (.func 51) #[] #[])] wr λe w'=>e=aL (aN #[])/\yG wr B g cap D a b w')) ?_ ?_|refine hv (p:=Hid (Calls aE 195 #[aF (some ⟨g,0,none⟩) N cap,aB aC a,aB aC m,aB aC b,(.func (.func 53) #[] #[])] wr λe w'=>e=aL (aN #[])/\yF wr B g cap D a b w')) ?_ ?_
       .obtain⟨v1,v2⟩:=HV.out;have v3:=HMm.out;have v4:=HN2.out;obtain⟨p1,p2⟩:=HT.out.parts;refine Zg B g cap D a m b N wr HM0.out.row (HM0.out.len.trans HN.out) om om  hle hn (by rw[<-v3,v1];exact p1) ?_;unfold eQ;rw[show b-m=n by omega,<-v3,v1];exact p2
       intro HM;go_wp2_with((first|go_at_call 191|go_at_call 193|go_at_call 195);(with_reducible refine HM.out.mono ?_);rintro e2 W2 ⟨rfl,hs2⟩;have HS2:=aA hs2;clear hs2)
       go_roundw
       case rel=>
        obtain⟨v1,v2⟩:=HV.out;have v4:=HN2.out;obtain⟨s,m1,m2,m3⟩:=HM0.out.seg HS2.out om (by have:=HN.out;omega);refine⟨q+1,b,b+n2,_,by omega,by omega,by go_num,by go_num,⟨by rw[Nat.succ_mul];omega,rfl⟩,m1, ?_⟩;have h9:=nG.next HT.out (by have:=HM0.out.len;have:=HN.out;omega) (s:=s) om m2;rw[v2,v1,<-v4];exact h9
       case measure=>simp[intOf];have:=HV.out;have:=HN2.out;omega
      .have hle2: ¬(b:Int)<=N:=by omega
       by_cases hmn:m<N
       .have hmn2:(m:Int)<N:=by omega
        first|cases isS;refine hv (p:=Hid (Calls aE 191 #[aF (some ⟨g,0,none⟩) N cap,aB aC a,aB aC m,aB aC N,(.func (.func 49) #[] #[])] wr λe w'=>e=aL (aN #[])/\yE wr B g cap D a N w')) ?_ ?_|cases isA;refine hv (p:=Hid (Calls aE 193 #[aF (some ⟨g,0,none⟩) N cap,aB aC a,aB aC m,aB aC N,(.func (.func 51) #[] #[])] wr λe w'=>e=aL (aN #[])/\yG wr B g cap D a N w')) ?_ ?_|refine hv (p:=Hid (Calls aE 195 #[aF (some ⟨g,0,none⟩) N cap,aB aC a,aB aC m,aB aC N,(.func (.func 53) #[] #[])] wr λe w'=>e=aL (aN #[])/\yF wr B g cap D a N w')) ?_ ?_
        .obtain⟨v1,v2⟩:=HV.out;have v3:=HMm.out;have v4:=HN2.out;have v5:=HM0.out.len.trans HN.out;obtain⟨p1,p2⟩:=HT.out.parts;refine Zg B g cap D a m N N wr HM0.out.row v5 om hmn (bA _) hn (by rw[<-v3,v1];exact p1) ?_;unfold eQ;rw[<-v1,v3,fI (by rw[List.length_drop];omega)]at p2;rw[fI (by rw[List.length_drop];omega)];exact p2
        intro HM;go_wp2_with((first|go_at_call 191|go_at_call 193|go_at_call 195);(with_reducible refine HM.out.mono ?_);rintro e2 W2 ⟨rfl,hs2⟩;have HS2:=aA hs2;clear hs2)
        go_roundw
        case rel=>
         obtain⟨v1,v2⟩:=HV.out;have v4:=HN2.out;have v5:=HM0.out.len.trans HN.out;obtain⟨s,m1,m2,m3⟩:=HM0.out.seg HS2.out ha (by have:=HN.out;omega);refine⟨n2,by omega,hn3,by go_num,_,m1, ?_⟩;have h9:=nG.last hn0 HT.out om om  (s:=s) om m2;rw[v5,<-v1,v4]at h9;exact h9
        case measure=>simp[intOf];have:=HN2.out;omega
       .have hmn2: ¬(m:Int)<N:=by omega
        go_wp2_with fail
        go_roundw
        case rel=>
         obtain⟨v1,v2⟩:=HV.out;have v3:=HMm.out;have v4:=HN2.out;have v5:=HM0.out.len.trans HN.out;refine⟨n2,by omega,hn3,by go_num,D,HM0.out, ?_⟩;have h9:=nG.stay hn0 HT.out om om;rw[v4]at h9;exact h9
        case measure=>simp[intOf];have:=HN2.out;omega
    .have hlt2: ¬(n:Int)<N:=by omega
     go_wp2_with fail
     go_end0;obtain⟨E,m1,m2⟩:=HE2.out;exact⟨rfl,m1.turned,E,m1.row,m2.whole (by have:=m1.len;have:=HN.out;omega),m1.alike⟩):P:=h
theorem T5 (B g cap:Nat) (d:List Bs) (w:World) (h:dI w B g cap d) (hn:d.length<=1000000000):
  Calls aE 155 #[aF (some ⟨g,0,none⟩) d.length cap,aB aC d.length,(.func (.func 49) #[] #[])] w λe w'=>e=aL (aN #[])/\OE w B g cap d w':=JM
open YtccjfanpjojbnaaGreatDoor renaming T5→Zj
theorem JL {P:Prop} (h:P:=by
 have hmx:=bX;first|go_enter Tryz.func190,Tryz.ntmps190|go_enter Tryz.func192,Tryz.ntmps192|go_enter Tryz.func194,Tryz.ntmps194
 go_wp2_with fail
 go_loopw [8] (λi wr=>i=aB aC 1/\w=wr) (λ_ _=>0)
 case atStart=>exact⟨rfl,rfl⟩
 case round=>
  obtain⟨rfl,rfl⟩:=hrel;go_wp2_with fail
  go_end0;exact⟨rfl,rfl⟩):P:=h
theorem Jo (A:Option Addr) (cap:Nat) (w:World):
  Calls aE 190 #[aF A 0 cap,aB aC 0,aB aC 0,(.func (.func 49) #[] #[])] w λe w'=>e=aL (aN #[])/\w=w':=JL
open YtccjfanpjojbnaaGreatDoor renaming Jo→Zh
theorem JK {P:Prop} (h:P:=by
 have hmx:=bX;have HI:=aA (Zh A cap w);first|go_enter Tryz.func155,Tryz.ntmps155|go_enter Tryz.func156,Tryz.ntmps156|go_enter Tryz.func157,Tryz.ntmps157
 go_wp2_with fail
 go_loopw [7,8] (λi j wr=>i=aB aC 0/\j=aB aC 20/\w=wr) (λ_ _ _=>0)
 case atStart=>exact⟨rfl,rfl,rfl⟩
 case round=>
  obtain⟨rfl,rfl,rfl⟩:=hrel;go_wp2_with((first|go_at_call 190|go_at_call 192|go_at_call 194);(with_reducible refine HI.out.mono ?_);rintro e2 W2 ⟨rfl,rfl⟩)
  go_loopw [6,7,8] (λk _ _ wr=>k=aB aC 20/\w=wr) (λ_ _ _ _=>0)
  case atStart=>exact⟨rfl,rfl⟩
  case round=>
   obtain⟨rfl,rfl⟩:=hrel;go_wp2_with fail
   go_end0;exact⟨rfl,rfl⟩):P:=h
theorem T6 (A:Option Addr) (cap:Nat) (w:World):
  Calls aE 155 #[aF A 0 cap,aB aC 0,(.func (.func 49) #[] #[])] w λe w'=>e=aL (aN #[])/\w=w':=JK
open YtccjfanpjojbnaaGreatDoor renaming T6→Zi
theorem JJ {P:Prop} (h:P:=by
 have hmx:=bX;have HI:=aA (Zi A cap w);first|go_enter Tryz.func94,Tryz.ntmps94|go_enter Tryz.func99,Tryz.ntmps99|go_enter Tryz.func104,Tryz.ntmps104
 go_wp2_with((first|go_at_call 155|go_at_call 156|go_at_call 157);(with_reducible refine HI.out.mono ?_);rintro e2 W2 ⟨rfl,rfl⟩)
 go_end0;exact⟨rfl,rfl⟩):P:=h
theorem Y8 (A:Option Addr) (cap:Nat) (w:World):
  Calls aE 94 #[aF A 0 cap,(.func (.func 49) #[] #[])] w λe w'=>e=aL (aN #[])/\w=w':=JJ
open YtccjfanpjojbnaaGreatDoor renaming Y8→Zr
theorem JI {P:Prop} (h:P:=by
 have hmx:=bX;have HI:=aA (Zj B g cap d w h hn);clear h;obtain⟨N,hN⟩: ∃N,d.length=N:=⟨_,rfl⟩;rw[hN]at HI hn ⊢;clear hN;first|go_enter Tryz.func94,Tryz.ntmps94|go_enter Tryz.func99,Tryz.ntmps99|go_enter Tryz.func104,Tryz.ntmps104
 go_wp2_with((first|go_at_call 155|go_at_call 156|go_at_call 157);(with_reducible refine HI.out.mono ?_);rintro e2 W2 ⟨rfl,hs2⟩;have HS2:=aA hs2;clear hs2)
 go_end0;exact⟨rfl,HS2.out⟩):P:=h
theorem Y7 (B g cap:Nat) (d:List Bs) (w:World) (h:dI w B g cap d) (hn:d.length<=1000000000):
  Calls aE 94 #[aF (some ⟨g,0,none⟩) d.length cap,(.func (.func 49) #[] #[])] w λe w'=>e=aL (aN #[])/\OE w B g cap d w':=JI
open YtccjfanpjojbnaaGreatDoor renaming Y7→Zu
theorem yX:jX aE 44 9 (aD ⟨#[]⟩) 1 16:=⟨by kernel_rfl,by kernel_rfl,by kernel_rfl,by decide⟩
theorem Qi (d:List Bs): ∀u∈d.map sv,u.oneCell'=true:=by
 intro u hu;obtain⟨x,_,rfl⟩:=List.mem_map.1 hu;rfl
open YtccjfanpjojbnaaGreatDoor renaming Qi→Zk
theorem JH {P:Prop} (h:P:=by
 have hmx:=bX;first
  |cases isS
   have q22: ∀(w:World) (a:Option Addr) (n c n' c':Nat),(binOp .eql 44 (aF a n c) (aF none n' c')).run aE w= .ok (aI a.isNone) w:=λw a n c n' c'=>Xh w _ 9 a n c n' c' kr
   go_enter Tryz.func93,Tryz.ntmps93
  |cases isA
   have q22: ∀(w:World) (a:Option Addr) (n c n' c':Nat),(binOp .eql 45 (aF a n c) (aF none n' c')).run aE w= .ok (aI a.isNone) w:=λw a n c n' c'=>Xh w _ 65 a n c n' c' kr
   go_enter Tryz.func98,Tryz.ntmps98
  |have q22: ∀(w:World) (a:Option Addr) (n c n' c':Nat),(binOp .eql 46 (aF a n c) (aF none n' c')).run aE w= .ok (aI a.isNone) w:=λw a n c n' c'=>Xh w _ 81 a n c n' c' kr
   go_enter Tryz.func103,Tryz.ntmps103
 go_wp2_with fail
 go_ret;exact⟨rfl,rfl⟩):P:=h
theorem Pu (n c:Nat) (w:World):Calls aE 93 #[aF none n c] w λe w'=>e=aL (aF none 0 0)/\w=w':=JH
open YtccjfanpjojbnaaGreatDoor renaming Pu→Zq
theorem JG {P:Prop} (h:P:=by
 have hmx:=bX;first
  |cases isS
   have q22: ∀(w:World) (a:Option Addr) (n c n' c':Nat),(binOp .eql 44 (aF a n c) (aF none n' c')).run aE w= .ok (aI a.isNone) w:=λw a n c n' c'=>Xh w _ 9 a n c n' c' kr
   have HC:Hid (∀j u,(d.map sv)[j]? =some u->w.cell? (ad.add j)=some u):=λj u hj=>by
    obtain⟨h1,_,A,c',h3,h4⟩:=h;cases h3;have hj1:=(gV.1 hj).1;obtain⟨b,off,h5,_,h7⟩:=h4 om;cases h5;rw[Addr.add_lit];exact h7 j u hj
  |cases isA
   have q22: ∀(w:World) (a:Option Addr) (n c n' c':Nat),(binOp .eql 45 (aF a n c) (aF none n' c')).run aE w= .ok (aI a.isNone) w:=λw a n c n' c'=>Xh w _ 65 a n c n' c' kr
   have HC:Hid (∀j u,(d.flatMap aW.cells)[j]? =some u->w.cell? (ad.add j)=some u):=λj u hj=>by
    obtain⟨h1,_,A,c',h3,h4⟩:=h;cases h3;have hj1:=(gV.1 hj).1;obtain⟨b,off,h5,_,h7⟩:=h4 om;cases h5;rw[Addr.add_lit];exact h7 j u hj
  |have q22: ∀(w:World) (a:Option Addr) (n c n' c':Nat),(binOp .eql 46 (aF a n c) (aF none n' c')).run aE w= .ok (aI a.isNone) w:=λw a n c n' c'=>Xh w _ 81 a n c n' c' kr
   have HC:Hid (∀j u,(d.flatMap aS.cells)[j]? =some u->w.cell? (ad.add j)=some u):=λj u hj=>by
    obtain⟨h1,_,A,c',h3,h4⟩:=h;cases h3;have hj1:=(gV.1 hj).1;obtain⟨b,off,h5,_,h7⟩:=h4 om;cases h5;rw[Addr.add_lit];exact h7 j u hj
 have H1:=aA (Zk d);have HL:=aA h.1;clear h;obtain⟨N,hN⟩: ∃N,d.length=N:=⟨_,rfl⟩;rw[hN]at HL hn ⊢;clear hN;first
  |cases isS
   generalize d.map sv=cs at*
   go_enter Tryz.func93,Tryz.ntmps93
   go_wp2_with(at_builtin;refine mJ rfl _ _ 44 rfl yX w.heap.size rfl (lW (c:= #[]) (n:=0) (size:=1) rfl (by unfold maxLen;omega)) (by simp[go_sem]) ad N c cs rfl HL.out (λj u hj=>yd _ (HC.out j u hj)) H1.out (by unfold maxLen;omega) om ?_;intro v1 W1 hown1 hg1)
  |cases isA
   generalize d.flatMap aW.cells=cs at*
   go_enter Tryz.func98,Tryz.ntmps98
   go_wp2_with(at_builtin;refine mJ rfl _ _ 45 rfl RV w.heap.size rfl (lW (c:= #[]) (n:=0) (size:=2) rfl (by unfold maxLen;omega)) (by simp[go_sem]) ad N c cs rfl HL.out (λj u hj=>yd _ (HC.out j u hj)) H1.out (by unfold maxLen;omega) om ?_;intro v1 W1 hown1 hg1)
  |generalize d.flatMap aS.cells=cs at*
   go_enter Tryz.func103,Tryz.ntmps103
   go_wp2_with(at_builtin;refine mJ rfl _ _ 46 rfl RU w.heap.size rfl (lW (c:= #[]) (n:=0) (size:=3) rfl (by unfold maxLen;omega)) (by simp[go_sem]) ad N c cs rfl HL.out (λj u hj=>yd _ (HC.out j u hj)) H1.out (by unfold maxLen;omega) om ?_;intro v1 W1 hown1 hg1)
 go_ret;refine⟨v1,rfl,by simpa using hown1, ?_⟩;first|cases isS;exact(sE (w:=w) hg1 (lW (c:= #[]) (n:=0) (size:=1) rfl (by unfold maxLen;omega)) ((Below.refl _ _).alloc (bA _) _)).out|cases isA;exact(sE (w:=w) hg1 (lW (c:= #[]) (n:=0) (size:=2) rfl (by unfold maxLen;omega)) ((Below.refl _ _).alloc (bA _) _)).out|exact(sE (w:=w) hg1 (lW (c:= #[]) (n:=0) (size:=3) rfl (by unfold maxLen;omega)) ((Below.refl _ _).alloc (bA _) _)).out):P:=h
theorem Pr (ad:Addr) (c:Nat) (d:List Bs) (w:World) (h:Rd w (aF (some ad) d.length c) d.length 1 (d.map sv)) (hn:d.length<=1000000000):
  Calls aE 93 #[aF (some ad) d.length c] w λe w'=> ∃v',e=aL v'/\w'.ownsRow w.heap.size 9 1 v' d.length (d.map sv)/\Below w.heap.size w w':=JG
open YtccjfanpjojbnaaGreatDoor renaming Pr→Zt
theorem JF {P:Prop} (h:P:=by
 have hmx:=bX;have HC:=aA (λW=>Z4z x y W);have hb:=World.block_lt_of_cell? W _ hc;first
  |cases isS
   simp only[sv]at HC ⊢
   generalize gN x y=cm at*
   go_enter Tryz.func96,Tryz.ntmps96
  |cases isA
   simp only[aW.agg,sv]at HC ⊢
   generalize jL (x).key (y).key=cm at*
   go_enter Tryz.func101,Tryz.ntmps101
  |simp only[aS.agg,sv]at HC ⊢
   generalize jL (x).key (y).key=cm at*
   go_enter Tryz.func106,Tryz.ntmps106
 go_wp2_with((first|go_at_call 49|go_at_call 51|go_at_call 53);(with_reducible refine zG (HC.out _) λX=>?_))
 go_ret;exact aH.of rfl aG):P:=h
theorem SJ (b:Nat) (x y:Bs) (W:World) (hc:W.cell? ⟨b,0,none⟩=some (.func (.func 49) #[] #[])):Calls aE 96 #[sv x,sv y,aM (some ⟨b,0,none⟩)] W (aH (aI (gN x y==0)) W):=JF
theorem Pd (A:Option Addr) (cap:Nat) (f:Value) (w:World):Calls aE 95 #[aF A 0 cap,f] w λe w'=>e=aL (aF A 0 cap)/\w=w':=by
 have hmx:=bX;go_enter Tryz.func95,Tryz.ntmps95;go_wp2_with fail
 go_ret;exact⟨rfl,rfl⟩
open YtccjfanpjojbnaaGreatDoor renaming Pd→Zs
def wJ (y x:Bs):Bool:=gN y x==0
open YtccjfanpjojbnaaGreatDoor renaming wJ→Zl
def B8 (w:World) (B g cap:Nat) (d:List Bs) (w':World):Prop:=aJ (λk=>k=g) w w'/\ ∃E,dI w' B g cap E/\E.length=d.length/\E.take (kY wJ d).length=kY wJ d
open YtccjfanpjojbnaaGreatDoor renaming B8→Zm
theorem dI.clear {B g cap:Nat}: ∀(n o:Nat) (E:List Bs) (W:World),dI W B g cap E->o+n<=E.length->
  ∃E',dI (W.setCells g o (cX n (sv []))) B g cap E'/\E'.length=E.length/\E'.take o=E.take o/\aJ (λk=>k=g) W (W.setCells g o (cX n (sv []))):=by
 intro n;induction n with
 |zero=>intro o E W h _;exact⟨E,h,rfl,rfl,aJ.refl _ _⟩
 |succ n ih=>
  intro o E W h ho;obtain⟨E',h1,h2,h3,h4⟩:=ih (o+1) (E.set o []) _ (h.set o om []) (by rw[mM];omega);refine⟨E',h1,by rw[h2,mM], ?_,((aJ.refl (λk=>k=g) W).setCell (p:=⟨g,o,none⟩) (.inr rfl) (sv [])).trans h4⟩;have h5:=congrArg (List.take o) h3;rw[List.take_take,List.take_take,Nat.min_eq_left om,List.take_set_of_le (bA _)]at h5;exact h5
theorem C4 (w:World):(zeroValue 9).run aE w= .ok (aD ⟨#[]⟩) w:=by kernel_rfl
theorem JE {P:Prop} (h:P:=by
 have hmx:=bX;have hb:=World.block_lt_of_cell? w _ hc;have hgl:=yZ h;have hcap:d.length<=cap:=by
  rcases h.2 with⟨h1,_⟩|⟨g',cap',cur,h1,_,_,h3,_⟩
  .cases h1
  .cases h1;exact h3
 by_cases h2:d.length<2
 .have h2i:decide ((d.length:Int)<2)=true:=by simp;omega
  have hcl:kY Zl d=d:=by
   cases d with
   |nil=>rfl
   |cons x r=>
    cases r with
    |nil=>rfl
    |cons y r=>simp only[List.length_cons]at h2;omega
  rw[hcl];have HE:Hid (Zm w B g cap d w):=⟨aJ.refl _ _,d,h,rfl,by rw[hcl,List.take_length]⟩;obtain⟨N,hN⟩: ∃N,d.length=N:=⟨_,rfl⟩;rw[hN]at h2 h2i ⊢;clear hcl hn h hN hcap;first|go_enter Tryz.func95,Tryz.ntmps95|go_enter Tryz.func100,Tryz.ntmps100|go_enter Tryz.func105,Tryz.ntmps105
  go_wp2_with fail
  go_ret;exact⟨rfl,HE.out⟩
 have h2i:decide ((d.length:Int)<2)=false:=by simp;omega
 obtain⟨N,hN⟩: ∃N,d.length=N:=⟨_,rfl⟩;obtain⟨m,hm⟩: ∃m,(kY Zl d).length=m:=⟨_,rfl⟩;have HM:=aA hm;have HN:=aA hN;have HR:=aA h;have HC0:=aA hc;rw[hm,hN];rw[hN]at hn h2 h2i hcap;clear hm hN h hc;first|go_enter Tryz.func95,Tryz.ntmps95|go_enter Tryz.func100,Tryz.ntmps100|go_enter Tryz.func105,Tryz.ntmps105
 go_wp2_with fail
 go_loopw [5] (λi wr=> ∃(k:Nat),0<k/\k<=N/\i=aB aC (k:Nat)/\Hid (Below w.heap.size w wr)/\Hid (∀x,d[k-1]? =some x->kY Zl d=d.take k++mI Zl x (d.drop k))) (λi _=>N-(intOf i).toNat)
 case atStart=>
  refine⟨1,by omega,by omega,rfl,Below.refl _ _,λx hx=> ?_⟩;cases d with
  |nil=>simp at hx
  |cons y r=>simp at hx;subst hx;rfl
 case round=>
  obtain⟨k,hk0,hkN,rfl,HB,HK⟩:=hrel;by_cases hlt:k<N
  .have hlt2:(k:Int)<N:=by omega
   obtain⟨p,hp⟩: ∃p,k-1=p:=⟨_,rfl⟩;have rp:(k:Int)-1=p:=by omega
   have HP:=aA hp;obtain⟨x,hx⟩: ∃x,d[p]? =some x:=⟨d[p]'(by have:=HN.out;omega),eV _⟩;obtain⟨y,hy⟩: ∃y,d[k]? =some y:=⟨d[k]'(by have:=HN.out;omega),eV _⟩;have HR5:Hid (Z1 wr B g cap d):=HR.out.turned (aJ.of_below (pv:=λ_=>False) HB.out) (λh=>h);first
    |cases isS
     have c0:=HR5.out.cell hx
     have z0:=HR5.out.cell hy
     simp only[sv]at c0 z0
    |cases isA
     obtain⟨u0,u1⟩:=HR5.out.cell hx
     obtain⟨z0,z1⟩:=HR5.out.cell hy
     simp only[sv]at u0 u1 z0 z1
    |obtain⟨u0,u1,u2⟩:=HR5.out.cell hx
     obtain⟨z0,z1,z2⟩:=HR5.out.cell hy
     simp only[sv]at u0 u1 u2 z0 z1 z2
   have hgw:g<wr.heap.size:=Nat.lt_of_lt_of_le hgl HB.out.size;have hpN:p<N:=by omega
   first
    |cases isS
     have HE:Hid (∀W,Below wr.heap.size wr W->Calls aE 96 #[aD ⟨y.toArray⟩,aD ⟨x.toArray⟩,aM (some ⟨b,0,none⟩)] W (aH (aI (wJ y x)) W)):=λW hW=>
      SJ b y x W (((HB.out.trans (hW.mono HB.out.size)).cell hb).trans HC0.out)
    |cases isA
     have HE:Hid (∀W,Below wr.heap.size wr W->Calls aE 101 #[aR #[aD ⟨y.tag.toArray⟩,aD ⟨y.name.toArray⟩],aR #[aD ⟨x.tag.toArray⟩,aD ⟨x.name.toArray⟩],aM (some ⟨b,0,none⟩)] W (aH (aI (wL y x)) W)):=λW hW=>
      SL b y x W (((HB.out.trans (hW.mono HB.out.size)).cell hb).trans HC0.out)
    |have HE:Hid (∀W,Below wr.heap.size wr W->Calls aE 106 #[aR #[aD ⟨y.tag.toArray⟩,aD ⟨y.name.toArray⟩,aD ⟨y.value.toArray⟩],aR #[aD ⟨x.tag.toArray⟩,aD ⟨x.name.toArray⟩,aD ⟨x.value.toArray⟩],aM (some ⟨b,0,none⟩)] W (aH (aI (wK y x)) W)):=λW hW=>
      SK b y x W (((HB.out.trans (hW.mono HB.out.size)).cell hb).trans HC0.out)
   have HXY:=aA (And.intro hx hy);clear hp hx hy;cases hq:Zl y x
   .have HQ:=aA hq;rw[hq]at HE;clear hq;go_wp2_with fail
    refine dV kr kr  ?_;repeat(go_big_quiet_step(((first|go_at_call 96|go_at_call 101|go_at_call 106);with_reducible exact Calls.grow_of (HE.out _ aG))))
    refine wpQuiet_nil ?_;rintro _ ⟨nq,rfl⟩;go_wp2_with fail
    go_roundw
    case rel=>
     refine⟨k+1,by omega,by omega,by go_num,aP HB.out (dG _ _),λx' hx'=> ?_⟩;have h9:=HK.out x (by rw[HP.out];exact HXY.out.1);rw[FK HXY.out.2,HQ.out]at h9;rw[show k+1-1=k by omega,HXY.out.2]at hx';cases hx';have h8:d.take (k+1)=d.take k++[y]:=by rw[List.take_add_one,HXY.out.2];rfl
     rw[h9,h8];simp
    case measure=>simp[intOf];omega
   .have HQ:=aA hq;rw[hq]at HE;clear hq;go_wp2_with fail
    refine dV kr kr  ?_;repeat(go_big_quiet_step(((first|go_at_call 96|go_at_call 101|go_at_call 106);with_reducible exact Calls.grow_of (HE.out _ aG))))
    refine wpQuiet_nil ?_;rintro _ ⟨nq,rfl⟩;obtain⟨n2,hn2⟩: ∃n2,N-k=n2:=⟨_,rfl⟩;have rn2:(N:Int)-k=n2:=by omega
    have hk9:k+n2=N:=by omega
    have HK9:=aA hk9;have hn29:0<n2/\n2<=N:=by omega
    obtain⟨hn20,hn21⟩:=hn29;clear hn2 hk9;have HK0:Hid (kY Zl d=d.take k++mI Zl y (d.drop (k+1))):=by
     have h9:=HK.out x (by rw[HP.out];exact HXY.out.1);rw[FK HXY.out.2,HQ.out]at h9;exact h9
    obtain⟨c2,hc2⟩: ∃c2,cap-k=c2:=⟨_,rfl⟩;have rc2:(cap:Int)-k=c2:=by omega
    have HC2:=aA hc2;clear hc2;have j0:(0:Int)<=k/\(k:Int)<=N/\(N:Int)<=cap:=by omega
    have j1: ¬cap=k:=by omega
    have j2:k<=cap:=by omega
    have j3:cap-k=c2:=HC2.out;have j4:N-k=n2:=by have:=HK9.out;omega
    go_wp2_with fail
    first|cases isS;clear HE c0 z0 HR5 HK|cases isA;clear HE u0 u1 z0 z1 HR5 HK|clear HE u0 u1 u2 z0 z1 z2 HR5 HK
    go_loopw [5,7] (λs5 s7 wv=> ∃(k1 i:Nat) (E:List Z0),k<=k1/\0<i/\i<=n2/\k1+1<=k+i/\s5=aB aC (k1:Nat)/\s7=aB aC (i:Nat)/\Hid (aJ (λk=>k=g) w wv)/\Hid (Z1 wv B g cap E)/\Hid (E.length=N/\(∀j,k+i<=j+1->E[j]? =d[j]?)/\ ∀x,d[k+i-1]? =some x->kY Zl d=E.take k1++mI Zl x (d.drop (k+i)))) (λ_ s7 _=>N-(intOf s7).toNat)
    case atStart=>
     refine⟨k,1,d,by omega,by omega,by omega,by omega,rfl,rfl,aJ.of_below (aP HB.out aG),HR.out.turned (aJ.of_below (pv:=λ_=>False) (aP HB.out aG)) (λh=>h),HN.out,λ_ _=>rfl,λx' hx'=> ?_⟩;rw[show k+1-1=k by omega,HXY.out.2]at hx';cases hx';exact HK0.out
    case round=>
     obtain⟨k1,i,E,a1,a2,a3,a4,rfl,rfl,HTu,HRo,HEq⟩:=hrel;by_cases hi:i<n2
     .have hi2:(i:Int)<n2:=by omega
      obtain⟨p2,hp2⟩: ∃p2,i-1=p2:=⟨_,rfl⟩;have rp2:(i:Int)-1=p2:=by omega
      have HP2:=aA hp2;have a5:k+i<N:=by have:=HK9.out;omega
      obtain⟨x2,hx2⟩: ∃x2,d[k+p2]? =some x2:=⟨d[k+p2]'(by have:=HN.out;omega),eV _⟩;obtain⟨y2,hy2⟩: ∃y2,d[k+i]? =some y2:=⟨d[k+i]'(by have:=HN.out;omega),eV _⟩;obtain⟨z2,hz2⟩: ∃z2,E[k1]? =some z2:=⟨E[k1]'(by have:=HEq.out.1;omega),eV _⟩;first
       |cases isS
        have c0:=HRo.out.cell (i:=k+p2) (x:=x2) (by rw[HEq.out.2.1 _ om];exact hx2)
        have z0:=HRo.out.cell (i:=k+i) (x:=y2) (by rw[HEq.out.2.1 _ om];exact hy2)
        have e0:=HRo.out.cell hz2
        have f0:=HRo.out.frozen k1
        simp only[sv]at c0 z0 e0
       |cases isA
        obtain⟨u0,u1⟩:=HRo.out.cell (i:=k+p2) (x:=x2) (by rw[HEq.out.2.1 _ om];exact hx2)
        rw[show(k+p2)*2=k*2+p2*2 by omega]at u0
        rw[show(k+p2)*2+1=k*2+p2*2+1 by omega]at u1
        obtain⟨z0,z1⟩:=HRo.out.cell (i:=k+i) (x:=y2) (by rw[HEq.out.2.1 _ om];exact hy2)
        rw[show(k+i)*2=k*2+i*2 by omega]at z0
        rw[show(k+i)*2+1=k*2+i*2+1 by omega]at z1
        obtain⟨e0,e1⟩:=HRo.out.cell hz2
        have f0:=HRo.out.frozen (k1*2)
        have f1:=HRo.out.frozen (k1*2+1)
        simp only[sv]at u0 u1 z0 z1 e0 e1
       |obtain⟨u0,u1,u2⟩:=HRo.out.cell (i:=k+p2) (x:=x2) (by rw[HEq.out.2.1 _ om];exact hx2)
        rw[show(k+p2)*3=k*3+p2*3 by omega]at u0
        rw[show(k+p2)*3+1=k*3+p2*3+1 by omega]at u1
        rw[show(k+p2)*3+2=k*3+p2*3+2 by omega]at u2
        obtain⟨z0,z1,z2⟩:=HRo.out.cell (i:=k+i) (x:=y2) (by rw[HEq.out.2.1 _ om];exact hy2)
        rw[show(k+i)*3=k*3+i*3 by omega]at z0
        rw[show(k+i)*3+1=k*3+i*3+1 by omega]at z1
        rw[show(k+i)*3+2=k*3+i*3+2 by omega]at z2
        obtain⟨e0,e1,e2⟩:=HRo.out.cell hz2
        have f0:=HRo.out.frozen (k1*3)
        have f1:=HRo.out.frozen (k1*3+1)
        have f2:=HRo.out.frozen (k1*3+2)
        simp only[sv]at u0 u1 u2 z0 z1 z2 e0 e1 e2
      have hgw2:=yZ HRo.out;have a6:p2<n2/\k1<N:=by omega
      obtain⟨a6,a7⟩:=a6;first
       |cases isS
        have HE:Hid (∀W,Below wr.heap.size wr W->Calls aE 96 #[aD ⟨y2.toArray⟩,aD ⟨x2.toArray⟩,aM (some ⟨b,0,none⟩)] W (aH (aI (wJ y2 x2)) W)):=λW hW=>by
         refine SJ b y2 x2 W ?_;have h9:=HTu.out.trans (aJ.of_below (pv:=λk=>k=g) hW);have h8:=h9.block b hb hbg;rw[<-HC0.out];simp only[World.cell?,h8]
       |cases isA
        have HE:Hid (∀W,Below wr.heap.size wr W->Calls aE 101 #[aR #[aD ⟨y2.tag.toArray⟩,aD ⟨y2.name.toArray⟩],aR #[aD ⟨x2.tag.toArray⟩,aD ⟨x2.name.toArray⟩],aM (some ⟨b,0,none⟩)] W (aH (aI (wL y2 x2)) W)):=λW hW=>by
         refine SL b y2 x2 W ?_;have h9:=HTu.out.trans (aJ.of_below (pv:=λk=>k=g) hW);have h8:=h9.block b hb hbg;rw[<-HC0.out];simp only[World.cell?,h8]
       |have HE:Hid (∀W,Below wr.heap.size wr W->Calls aE 106 #[aR #[aD ⟨y2.tag.toArray⟩,aD ⟨y2.name.toArray⟩,aD ⟨y2.value.toArray⟩],aR #[aD ⟨x2.tag.toArray⟩,aD ⟨x2.name.toArray⟩,aD ⟨x2.value.toArray⟩],aM (some ⟨b,0,none⟩)] W (aH (aI (wK y2 x2)) W)):=λW hW=>by
         refine SK b y2 x2 W ?_;have h9:=HTu.out.trans (aJ.of_below (pv:=λk=>k=g) hW);have h8:=h9.block b hb hbg;rw[<-HC0.out];simp only[World.cell?,h8]
      have HXY2:=aA (And.intro hx2 hy2);clear hp2 hx2 hy2 hz2;cases hq:Zl y2 x2
      .have HQ2:=aA hq;rw[hq]at HE;clear hq;go_wp2_with fail
       refine dV kr kr  ?_;repeat(go_big_quiet_step(((first|go_at_call 96|go_at_call 101|go_at_call 106);with_reducible exact Calls.grow_of (HE.out _ aG))))
       refine wpQuiet_nil ?_;rintro _ ⟨nq,rfl⟩;go_wp2_with fail
       go_roundw
       case rel=>
        have hl:k1<E.length:=by have:=HEq.out.1;omega
        first|cases isS;refine⟨k1+1,i+1,E.set k1 y2,by omega,by omega,by omega,by omega,by go_num,by go_num,(HTu.out.setCell (.inr rfl) _).grow _,(HRo.out.set k1 hl y2).turned (aJ.of_below (pv:=λ_=>False) (dG _ _)) (λh=>h),by rw[mM];exact HEq.out.1,λj hj=>by rw[xy om];exact HEq.out.2.1 j om,λx' hx'=> ?_⟩|cases isA;refine⟨k1+1,i+1,E.set k1 y2,by omega,by omega,by omega,by omega,by go_num,by go_num,((HTu.out.setCell (.inr rfl) _).setCell (.inr rfl) _).grow _,(HRo.out.set k1 hl y2).turned (aJ.of_below (pv:=λ_=>False) (dG _ _)) (λh=>h),by rw[mM];exact HEq.out.1,λj hj=>by rw[xy om];exact HEq.out.2.1 j om,λx' hx'=> ?_⟩|refine⟨k1+1,i+1,E.set k1 y2,by omega,by omega,by omega,by omega,by go_num,by go_num,(((HTu.out.setCell (.inr rfl) _).setCell (.inr rfl) _).setCell (.inr rfl) _).grow _,(HRo.out.set k1 hl y2).turned (aJ.of_below (pv:=λ_=>False) (dG _ _)) (λh=>h),by rw[mM];exact HEq.out.1,λj hj=>by rw[xy om];exact HEq.out.2.1 j om,λx' hx'=> ?_⟩
        have h9:=HEq.out.2.2 x2 (by rw[show k+i-1=k+p2 by have:=HP2.out;omega];exact HXY2.out.1);rw[show k+(i+1)-1=k+i by omega,HXY2.out.2]at hx';cases hx';rw[FK HXY2.out.2,HQ2.out]at h9;have h8:(E.set k1 y2).take (k1+1)=E.take k1++[y2]:=by
         rw[List.set_eq_take_append_cons_drop,if_pos hl,List.take_append,fI (by rw[bZ];omega),bZ,Nat.min_eq_left om,show k1+1-k1=1 by omega];rfl
        rw[h9,h8,cY];rfl
       case measure=>simp[intOf];omega
      .have HQ2:=aA hq;rw[hq]at HE;clear hq;go_wp2_with fail
       refine dV kr kr  ?_;repeat(go_big_quiet_step(((first|go_at_call 96|go_at_call 101|go_at_call 106);with_reducible exact Calls.grow_of (HE.out _ aG))))
       refine wpQuiet_nil ?_;rintro _ ⟨nq,rfl⟩;go_wp2_with fail
       go_roundw
       case rel=>
        refine⟨k1,i+1,E,a1,by omega,by omega,by omega,rfl,by go_num,HTu.out.grow _,HRo.out.turned (aJ.of_below (pv:=λ_=>False) (dG _ _)) (λh=>h),HEq.out.1,λj hj=>HEq.out.2.1 j om,λx' hx'=> ?_⟩;have h9:=HEq.out.2.2 x2 (by rw[show k+i-1=k+p2 by have:=HP2.out;omega];exact HXY2.out.1);rw[show k+(i+1)-1=k+i by omega,HXY2.out.2]at hx';cases hx';rw[FK HXY2.out.2,HQ2.out]at h9;exact h9
       case measure=>simp[intOf];omega
     .have hi2: ¬(i:Int)<n2:=by omega
      have e1:i=n2:=by omega
      subst e1;have a5:=HK9.out;have HT9:Hid (k1=m/\E.take m=kY Zl d):=by
       obtain⟨x2,hx2⟩: ∃x2,d[k+i-1]? =some x2:=⟨d[k+i-1]'(by have:=HN.out;omega),eV _⟩;have h9:=HEq.out.2.2 x2 hx2;rw[WF (by have:=HN.out;omega),List.append_nil]at h9;have h8:=HM.out;rw[h9,bZ]at h8;have h7:k1=m:=by have:=HEq.out.1;omega
       exact⟨h7,by rw[<-h7];exact h9.symm⟩
      obtain⟨n3,hn3⟩: ∃n3,N-k1=n3:=⟨_,rfl⟩;obtain⟨c3,hc3⟩: ∃c3,cap-k1=c3:=⟨_,rfl⟩;have rn3:(N:Int)-k1=n3:=by omega
      have rc3:(cap:Int)-k1=c3:=by omega
      have b0:(0:Int)<=k1/\(k1:Int)<=N/\(N:Int)<=cap:=by omega
      have b1: ¬cap=k1:=by omega
      have b2:k1<=cap:=by omega
      have b3:0<n3:=by omega
      first
       |cases isS
        have HCl:Hid (∃E',dI (wr.setCells g k1 (cX n3 (sv []))) B g cap E'/\E'.length=E.length/\E'.take k1=E.take k1/\aJ (λk=>k=g) wr (wr.setCells g k1 (cX n3 (sv [])))):=
         dI.clear n3 k1 E wr HRo.out (by have:=HEq.out.1;omega)
        have hcl: ∀ty,(Builtin.clear_ #[44] ty #[aF (some ⟨g,k1,none⟩) n3 c3]).run aE wr= .ok (aN #[]) (wr.setCells g k1 (cX n3 (sv []))):=λty=>
         Lib.run_clear_slice wr _ 9 ty _ kr C4 rfl rfl g k1 n3 c3 b3 (λj hj=>by
          obtain⟨z9,hz9⟩: ∃z9,E[k1+j]? =some z9:=⟨E[k1+j]'(by have:=HEq.out.1;omega),eV _⟩;rw[HRo.out.cell hz9];rfl) (λj _=>HRo.out.frozen _)
        generalize cX n3 (sv [])=zs at*
       |cases isA
        have HCl:Hid (∃E',dK (wr.setCells g (k1*2) (cX (n3*2) (sv []))) B g cap E'/\E'.length=E.length/\E'.take k1=E.take k1/\aJ (λk=>k=g) wr (wr.setCells g (k1*2) (cX (n3*2) (sv [])))):=
         dK.clear n3 k1 E wr HRo.out (by have:=HEq.out.1;omega)
        have hcl: ∀ty,(Builtin.clear_ #[45] ty #[aF (some ⟨g,k1*2,none⟩) n3 c3]).run aE wr= .ok (aN #[]) (wr.setCells g (k1*2) (cX (n3*2) (sv []))):=λty=>
         Ah wr _ 65 ty _ (sv []) 2 kr C6 rfl om rfl g (k1*2) n3 c3 b3 (λj hj=>by
          obtain⟨q,r,hr,rfl⟩: ∃q r,r<2/\j=q*2+r:=⟨j/2,j%2,by omega,by omega⟩;obtain⟨z9,hz9⟩: ∃z9,E[k1+q]? =some z9:=⟨E[k1+q]'(by have:=HEq.out.1;omega),eV _⟩;have h9:=HRo.out.cell hz9;obtain rfl|rfl:r=0\/r=1:=by omega
          .rw[show k1*2+(q*2+0)=(k1+q)*2 by omega,h9.1];rfl
          .rw[show k1*2+(q*2+1)=(k1+q)*2+1 by omega,h9.2];rfl) (λj _=>HRo.out.frozen _)
        generalize cX (n3*2) (sv [])=zs at*
       |have HCl:Hid (∃E',dJ (wr.setCells g (k1*3) (cX (n3*3) (sv []))) B g cap E'/\E'.length=E.length/\E'.take k1=E.take k1/\aJ (λk=>k=g) wr (wr.setCells g (k1*3) (cX (n3*3) (sv [])))):=
         dJ.clear n3 k1 E wr HRo.out (by have:=HEq.out.1;omega)
        have hcl: ∀ty,(Builtin.clear_ #[46] ty #[aF (some ⟨g,k1*3,none⟩) n3 c3]).run aE wr= .ok (aN #[]) (wr.setCells g (k1*3) (cX (n3*3) (sv []))):=λty=>
         Ag wr _ 81 ty _ (sv []) 3 kr C5 rfl om rfl g (k1*3) n3 c3 b3 (λj hj=>by
          obtain⟨q,r,hr,rfl⟩: ∃q r,r<3/\j=q*3+r:=⟨j/3,j%3,by omega,by omega⟩;obtain⟨z9,hz9⟩: ∃z9,E[k1+q]? =some z9:=⟨E[k1+q]'(by have:=HEq.out.1;omega),eV _⟩;have h9:=HRo.out.cell hz9;obtain rfl|rfl|rfl:r=0\/r=1\/r=2:=by omega
          .rw[show k1*3+(q*3+0)=(k1+q)*3 by omega,h9.1];rfl
          .rw[show k1*3+(q*3+1)=(k1+q)*3+1 by omega,h9.2.1];rfl
          .rw[show k1*3+(q*3+2)=(k1+q)*3+2 by omega,h9.2.2];rfl) (λj _=>HRo.out.frozen _)
        generalize cX (n3*3) (sv [])=zs at*
      clear a5;go_wp2_with fail
      go_ret;obtain⟨E',g1,g2,g3,g4⟩:=HCl.out;obtain⟨t1,t2⟩:=HT9.out;subst t1;exact⟨rfl,HTu.out.trans g4,E',g1,by rw[g2,HEq.out.1,HN.out],by rw[HM.out,g3,t2]⟩
  .have hlt2: ¬(k:Int)<N:=by omega
   have HE:Hid (m=N/\Zm w B g cap d wr):=by
    have h1:k=N:=by omega
    obtain⟨x,hx⟩: ∃x,d[k-1]? =some x:=⟨d[k-1]'(by have:=HN.out;omega),eV _⟩;have h9:=HK.out x hx;have h8:=HN.out;rw[WF om,List.append_nil,fI om]at h9;have h7:=HM.out;rw[h9]at h7;exact⟨by omega,aJ.of_below HB.out,d,HR.out.turned (aJ.of_below (pv:=λ_=>False) HB.out) (λh=>h),rfl,by rw[h9,List.take_length]⟩
   go_wp2_with fail
   go_ret;exact⟨by rw[HE.out.1];rfl,HE.out.2⟩):P:=h
theorem Pc (B g cap b:Nat) (d:List Bs) (w:World) (h:dI w B g cap d) (hc:w.cell? ⟨b,0,none⟩=some (.func (.func 49) #[] #[])) (hbg:b≠g) (hn:d.length<=1000000000):
  Calls aE 95 #[aF (some ⟨g,0,none⟩) d.length cap,.func (.func 96) #[] #[aM (some ⟨b,0,none⟩)]] w
   λe w'=>e=aL (aF (some ⟨g,0,none⟩) (kY wJ d).length cap)/\B8 w B g cap d w':=JE
open YtccjfanpjojbnaaGreatDoor renaming Pc→Zo
theorem Na:wJ=ev bF:=by
 funext y x;have h1:=GH y x;have h2:=Ms y x;unfold wJ;rw[h2,<-h1,Bool.eq_iff_iff];simp
open YtccjfanpjojbnaaGreatDoor renaming Na→Zn
theorem An {W:World} {B g cap:Nat} {E:List Bs} (h:dI W B g cap E) (m:Nat) (hm:m<=E.length):Rd W (aF (some ⟨g,0,none⟩) m cap) m 1 ((E.take m).map sv):=by
 have h1:=Rd.part (Rd.own h) m hm;rw[Nat.mul_one,<-List.map_take]at h1;exact h1
open YtccjfanpjojbnaaGreatDoor renaming An→Zp
theorem JD {P:Prop} (h:P:=by
 obtain⟨_,S,hr,hu,ha⟩:=hs;have hl:=bH.len Z3z _ S d (bA _) ha;have hne:kY Zl S=bS Z2z d:=by rw[Zn];exact Fs Z3z hu ha
 have h9:=Zo B g cap b S W' hr hc hbg om;rw[hl,hne]at h9;refine h9.mono ?_;rintro e w' ⟨rfl,ht,E,h1,h2,h3⟩;rw[hne]at h3;refine⟨rfl,ht, ?_⟩;have hm:(bS Z2z d).length<=E.length:=by
  have:=congrArg List.length h3;rw[bZ]at this;omega
 have h4:=Zp h1 _ hm;rw[h3]at h4;exact h4):P:=h
theorem X9 (B g cap b:Nat) (d:List Bs) (W W':World) (hs:OE W B g cap d W') (hc:W'.cell? ⟨b,0,none⟩=some (.func (.func 49) #[] #[])) (hbg:b≠g) (hn:d.length<=1000000000):
  Calls aE 95 #[aF (some ⟨g,0,none⟩) d.length cap,.func (.func 96) #[] #[aM (some ⟨b,0,none⟩)]] W'
   λe w'=>e=aL (aF (some ⟨g,0,none⟩) (bS bF d).length cap)/\aJ (λk=>k=g) W' w'/\Rd w' (aF (some ⟨g,0,none⟩) (bS bF d).length cap) (bS bF d).length 1 ((bS bF d).map sv):=JD
open YtccjfanpjojbnaaGreatDoor renaming X9→Zv
theorem JC {P:Prop} (h:P:=by
 have hmx:=bX;have hmf: ∀(fn:Fn) (first cap:Array Value) (w:World),(Instr.makeFunc fn first cap).run aE w= .ok (.func fn first cap) w:=λ_ _ _ _=>rfl;cases A with
 |none=>
  have h0:=Rd.none_nil h;obtain rfl:d=[]:=List.eq_nil_of_length_eq_zero h0;have HC:=aA (λW=>Zq 0 c W);have HS:=aA (λW=>Zr none 0 W);have HP:=aA (λf W=>Zs none 0 f W);clear h hn h0;first
   |cases isS
    show Calls aE 48 #[aF none 0 c,(.func (.func 49) #[] #[])] w (rO w 0 1 [])
    go_enter Tryz.func48,Tryz.ntmps48
   |cases isA
    show Calls aE 50 #[aF none 0 c,(.func (.func 51) #[] #[])] w (rO w 0 2 [])
    go_enter Tryz.func50,Tryz.ntmps50
   |show Calls aE 52 #[aF none 0 c,(.func (.func 53) #[] #[])] w (rO w 0 3 [])
    go_enter Tryz.func52,Tryz.ntmps52
  go_wp2_with(first
   |((first|go_at_call 93|go_at_call 98|go_at_call 103);(with_reducible refine zQ (HC.out _) ?_))
   |((first|go_at_call 94|go_at_call 99|go_at_call 104);(with_reducible refine zQ (HS.out _) ?_))
   |((first|go_at_call 95|go_at_call 100|go_at_call 105);(with_reducible refine zQ (HP.out _ _) ?_)))
  go_ret;exact⟨none,0,rfl,aG,⟨λ_=>rfl,bA _⟩,Rd.empty,λh=>absurd h (Nat.lt_irrefl 0)⟩
 |some ad=>
  have HC:=aA (λW (hB:Below w.heap.size w W)=>Zt ad c d W (by obtain⟨X,rfl⟩:=cV hB;exact h.grow X) hn);cases hd:d with
  |nil=>
   subst hd;have HS:=aA (λA cap W=>Zr A cap W);have HP:=aA (λA cap f W=>Zs A cap f W);first
    |cases isS
     have HC2:=aA (λW (hB:Below w.heap.size w W)=>show Calls aE 93 #[aF (some ad) 0 c] W (λe w'=> ∃A' c',e=aL (aF A' 0 c')/\(A'=none->c'=0)/\Below W.heap.size W w')from(HC.out W hB).mono (by
      rintro e w' ⟨v',rfl,ho,hb⟩;obtain⟨A',c',rfl,_⟩:=dF ho;exact⟨A',c',rfl,uG ho,hb⟩))
    |cases isA
     have HC2:=aA (λW (hB:Below w.heap.size w W)=>show Calls aE 98 #[aF (some ad) 0 c] W (λe w'=> ∃A' c',e=aL (aF A' 0 c')/\(A'=none->c'=0)/\Below W.heap.size W w')from(HC.out W hB).mono (by
      rintro e w' ⟨v',rfl,ho,hb⟩;obtain⟨A',c',rfl,_⟩:=dF ho;exact⟨A',c',rfl,uG ho,hb⟩))
    |have HC2:=aA (λW (hB:Below w.heap.size w W)=>show Calls aE 103 #[aF (some ad) 0 c] W (λe w'=> ∃A' c',e=aL (aF A' 0 c')/\(A'=none->c'=0)/\Below W.heap.size W w')from(HC.out W hB).mono (by
      rintro e w' ⟨v',rfl,ho,hb⟩;obtain⟨A',c',rfl,_⟩:=dF ho;exact⟨A',c',rfl,uG ho,hb⟩))
   clear h hn HC;first
    |cases isS
     show Calls aE 48 #[aF (some ad) 0 c,(.func (.func 49) #[] #[])] w (rO w 0 1 [])
     go_enter Tryz.func48,Tryz.ntmps48
    |cases isA
     show Calls aE 50 #[aF (some ad) 0 c,(.func (.func 51) #[] #[])] w (rO w 0 2 [])
     go_enter Tryz.func50,Tryz.ntmps50
    |show Calls aE 52 #[aF (some ad) 0 c,(.func (.func 53) #[] #[])] w (rO w 0 3 [])
     go_enter Tryz.func52,Tryz.ntmps52
   go_upto_region 1 with fail
   refine dL λW1 hW1=> ?_;have HB1:Hid (Below w.heap.size w W1):=by show Below _ _ _;rw[hW1];exact aG
   have hs1:w.heap.size<W1.heap.size:=by rw[hW1];simp
   first|cases isS;have hc1:W1.cell? ⟨w.heap.size,0,none⟩=some (.func (.func 49) #[] #[]):=by rw[hW1];simp[go_sem]|cases isA;have hc1:W1.cell? ⟨w.heap.size,0,none⟩=some (.func (.func 51) #[] #[]):=by rw[hW1];simp[go_sem]|have hc1:W1.cell? ⟨w.heap.size,0,none⟩=some (.func (.func 53) #[] #[]):=by rw[hW1];simp[go_sem]
   clear hW1;go_wp2_with(first
    |((first|go_at_call 93|go_at_call 98|go_at_call 103);(with_reducible refine(HC2.out W1 HB1.out).mono ?_);rintro e W2 ⟨A2,c2,rfl,hA2,hb2⟩;have HB2:=aA (aP HB1.out hb2);have hc2:=(hb2.cell hs1).trans hc1;clear hb2)
    |((first|go_at_call 94|go_at_call 99|go_at_call 104);(with_reducible refine zQ (HS.out _ _ _) ?_))
    |((first|go_at_call 95|go_at_call 100|go_at_call 105);(with_reducible refine zQ (HP.out _ _ _ _) ?_)))
   go_ret;exact⟨A2,c2,rfl,aP HB2.out aG,⟨hA2,Nat.zero_le _⟩,Rd.empty,λh=>absurd h (Nat.lt_irrefl 0)⟩
  |cons x r=>
   rw[<-hd];have hpos:0<d.length:=by rw[hd];simp
   clear hd;first
    |cases isS
     have HC2:=aA (λW (hB:Below w.heap.size w W)=>show Calls aE 93 #[aF (some ad) d.length c] W (λe w'=> ∃g cap,e=aL (aF (some ⟨g,0,none⟩) d.length cap)/\dI w' W.heap.size g cap d/\W.heap.size<=g/\Below W.heap.size W w')from(HC.out W hB).mono (by
      rintro e w' ⟨v',rfl,ho,hb⟩;obtain⟨g,cap,rfl⟩:=Go.Joins.ownsRow_form ho hpos;exact⟨g,cap,rfl,ho,(ho.lt g rfl).1,hb⟩))
    |cases isA
     have HC2:=aA (λW (hB:Below w.heap.size w W)=>show Calls aE 98 #[aF (some ad) d.length c] W (λe w'=> ∃g cap,e=aL (aF (some ⟨g,0,none⟩) d.length cap)/\dK w' W.heap.size g cap d/\W.heap.size<=g/\Below W.heap.size W w')from(HC.out W hB).mono (by
      rintro e w' ⟨v',rfl,ho,hb⟩;obtain⟨g,cap,rfl⟩:=Go.Joins.ownsRow_form ho hpos;exact⟨g,cap,rfl,ho,(ho.lt g rfl).1,hb⟩))
    |have HC2:=aA (λW (hB:Below w.heap.size w W)=>show Calls aE 103 #[aF (some ad) d.length c] W (λe w'=> ∃g cap,e=aL (aF (some ⟨g,0,none⟩) d.length cap)/\dJ w' W.heap.size g cap d/\W.heap.size<=g/\Below W.heap.size W w')from(HC.out W hB).mono (by
      rintro e w' ⟨v',rfl,ho,hb⟩;obtain⟨g,cap,rfl⟩:=Go.Joins.ownsRow_form ho hpos;exact⟨g,cap,rfl,ho,(ho.lt g rfl).1,hb⟩))
   have HSo:=aA (λB g cap W (hr:Z1 W B g cap d)=>Zu B g cap d W hr hn);have HCp:=aA (λB g cap b W W' hs hc hbg=>Zv B g cap b d W W' hs hc hbg hn);clear h HC hpos;have HTn:=aA (Fx Z2z d);generalize(bS Z2z d)=T at*;obtain⟨N,hN⟩: ∃N,d.length=N:=⟨_,rfl⟩;rw[hN]at HC2 HSo HCp ⊢;clear hN hn;first|go_enter Tryz.func48,Tryz.ntmps48|go_enter Tryz.func50,Tryz.ntmps50|go_enter Tryz.func52,Tryz.ntmps52
   go_upto_region 1 with fail
   refine dL λW1 hW1=> ?_;have HB1:Hid (Below w.heap.size w W1):=by show Below _ _ _;rw[hW1];exact aG
   have hs1:W1.heap.size=w.heap.size+1:=by rw[hW1];simp
   first|cases isS;have hc1:W1.cell? ⟨w.heap.size,0,none⟩=some (.func (.func 49) #[] #[]):=by rw[hW1];simp[go_sem]|cases isA;have hc1:W1.cell? ⟨w.heap.size,0,none⟩=some (.func (.func 51) #[] #[]):=by rw[hW1];simp[go_sem]|have hc1:W1.cell? ⟨w.heap.size,0,none⟩=some (.func (.func 53) #[] #[]):=by rw[hW1];simp[go_sem]
   clear hW1;go_wp2_with(first
    |((first|go_at_call 93|go_at_call 98|go_at_call 103);(with_reducible refine(HC2.out W1 HB1.out).mono ?_);rintro e W2 ⟨g,cap,rfl,hr2,hg2,hb2⟩;have HR2:=aA hr2;have HB2:=aA (And.intro (aP HB1.out hb2) hg2);have hc2:=(hb2.cell (by show w.heap.size<_;omega)).trans hc1;clear hr2 hb2 hg2)
    |((first|go_at_call 94|go_at_call 99|go_at_call 104);(with_reducible refine(HSo.out _ g cap W2 HR2.out).mono ?_);rintro e W3 ⟨rfl,hs3⟩;have hc3:W3.cell? ⟨w.heap.size,0,none⟩=_:=(World.cell?_of_block (hs3.1.block w.heap.size (World.block_lt_of_cell? W2 _ hc2) (by have:=HB2.out.2;omega))).trans hc2;have HT3:=aA hs3.1;have HCq:=aA (HCp.out _ g cap w.heap.size W2 W3 hs3 hc3 (by have:=HB2.out.2;omega));clear hs3)
    |((first|go_at_call 95|go_at_call 100|go_at_call 105);(with_reducible refine HCq.out.mono ?_);rintro e W4 ⟨rfl,ht4,hr4⟩;have HT4:=aA ht4;have HR4:=aA hr4;clear ht4 hr4))
   go_ret;obtain⟨hb2,hg2⟩:=HB2.out;have hb3:=hb2.trans (HT3.out.below hb2.size (λk hk=>by omega));exact⟨_,cap,rfl,hb3.trans (HT4.out.below hb3.size (λk hk=>by omega)),⟨(λh=>by cases h),Nat.le_trans HTn.out (by obtain⟨_,_,e9,h9⟩:=dF HR2.out;cases e9;exact h9)⟩,HR4.out,λ_ b off s h=>by cases h;omega⟩):P:=h
theorem BS (A:Option Addr) (c:Nat) (d:List Bs) (w:World) (h:Rd w (aF A d.length c) d.length 1 ((d).map sv)) (hn:d.length<=1000000000):
  Calls aE 48 #[aF A d.length c,(.func (.func 49) #[] #[])] w (rO w (bS bF d).length 1 ((bS bF d).map sv)):=JC
