/- The walk of the reference's Parse. -/
import Derived.BigRegion
import Derived.Test.YtiikamobcmgekaaGreatDoorWN
import Derived.Test.YtiikamobcmgekaaGreatDoorLexK
import Derived.Test.YtiikamobcmgekaaGreatDoorRfC
import Derived.Test.YtiikamobcmgekaaGreatDoorRfB
namespace Go.Proofs.YtiikamobcmgekaaGreatDoor
open Lib renaming hid→z2c
open List renaming length_drop→z2n,setIfInBounds_toArray→z2b,set_cons_succ→z2e,set_cons_zero→z2d
open Nat renaming le_of_lt→z25
open Go.Proofs.Tryz renaming func58→z4i,ntmps58→z39,prog→z2f
set_option maxRecDepth 100000
set_option maxHeartbeats 8000000
open Go.RowKit
attribute [local go_sem] Oper.semAt_some
theorem zqm (c:UInt8) (w:World) (h:digB c=true):Calls z2f 220 #[.int .u8 c.toNat] w fun e w'=>e= .returned (.int .i64 ((c.toNat-48:Nat):Int))/\w=w':=by
 have HD:=z2c (h ▸ zbl c w);have hc:=h;unfold digB at hc;simp only[decide_eq_true_eq]at hc;have hc9:=UInt8.toNat_lt c;have hw8:IntKind.u8.wrap ((c.toNat:Int)-48)=(c.toNat:Int)-48:=IntWalk.u8_in _ (by omega);have hw64:IntKind.i64.wrap ((c.toNat:Int)-48)=(c.toNat:Int)-48:=by rw[IntKind.wrap_i64];omega
 have hcs:((c.toNat-48:Nat):Int)=(c.toNat:Int)-48:=by omega
 rw[hcs];clear hcs;clear h;generalize c.toNat=k at*;go_enter Tryz.func220,Tryz.ntmps220;go_wp2_with(go_at_call 166;(with_reducible refine HD.out.mono ?_);rintro e w' ⟨rfl,rfl⟩)
 go_ret;exact⟨by first|rfl|(simp;omega),rfl⟩
theorem zqe (s:Bs) (w:World) (hal:s.all digB=true) (h9:s.length<=9):Calls z2f 146 #[.string ⟨s.toArray⟩,.int .i64 10,.int .i64 1000000000] w fun e w'=> ∃b,e= .returned (.tuple #[.int .i64 (numT s),.bool b])/\w=w':=by
 have hmx:=mxd;have HV:Hid (numT s=(valN s:Int)):=zrv s hal;by_cases hne:s=[]
 ·subst hne;go_enter Tryz.func146,Tryz.ntmps146;go_wp2_with fail
  go_ret2;exact⟨false,rfl,rfl⟩
 obtain⟨S,hS⟩: ∃S:ByteArray,⟨s.toArray⟩=S:=⟨_,rfl⟩;have hd0:S.data.toList=s:=by rw[<-hS]
 have hsz:S.size=s.length:=by rw[<-hS];rfl
 have hemp: ¬S.toList=[]:=by rw[ByteArray.toList_eq,hd0];exact hne
 have hemp2:S.toList.isEmpty=false:=by rw[zf7,hd0];simpa using hne
 have HZ:=z2c hsz;have HA:=z2c hal;have H0:=z2c hd0;have hS9:S.size<=9:=by omega
 have hmax:max (1000000000:Int) 0=1000000000:=by decide
 rw[hS];clear hsz hd0 hS hne hal;go_enter Tryz.func146,Tryz.ntmps146;go_wp2_with fail
 go_loopw [8,9] (fun nv i wr=> ∃k:Nat,k<=S.size/\i= .int .i64 (k:Nat)/\nv= .int .u64 (valN (s.take k):Nat)/\wr=w) (fun _ i _=>S.size-(intOf i).toNat)
 case atStart=>exact⟨0,by omega,rfl,by simp[valN],rfl⟩
 case round=>
  obtain⟨k,hk,rfl,rfl,rfl⟩:=hrel;have hv9:valN (s.take k)<=999999999:=zlk _ (by rw[List.all_eq_true];exact fun c hc=>List.all_eq_true.1 HA.out c (List.mem_of_mem_take hc)) (by rw[List.length_take];omega);by_cases hlt:k<S.size
  ·have hkl:k<s.length:=by rw[<-HZ.out];exact hlt
   have hat:=z07 S s H0.out k hlt;have hdg:digB S[k]=true:=by rw[hat];exact List.all_eq_true.1 HA.out _ (List.getElem_mem hkl)
   have HD:=z2c (hdg ▸ zbl S[k] wr);have HF:=z2c (zqm S[k] wr hdg);have HS:Hid (valN (s.take (k+1))=valN (s.take k)*10+(S[k].toNat-48)):=by show _=_;rw[List.take_succ_eq_append_getElem hkl,zno,hat]
   have hc9:S[k].toNat-48<=9:=by
    have:=hdg;unfold digB at this;simp only[decide_eq_true_eq]at this;omega
   generalize valN (s.take k)=n at*;obtain⟨d,hd⟩: ∃d,S[k].toNat-48=d:=⟨_,rfl⟩;rw[hd]at HF HS hc9;have hm1:IntKind.u64.wrap ((n:Int)*10)=(n:Int)*10:=IntWalk.u64_in _ (by omega);have hm2:IntKind.u64.wrap ((n:Int)*10+(d:Int))=(n:Int)*10+(d:Int):=IntWalk.u64_in _ (by omega);have hm3:IntKind.u64.wrap (d:Int)=(d:Int):=IntWalk.u64_in _ (by omega);have hlt58:decide ((n:Int)<288230376151711744)=true:=by simp;omega
   clear hat hdg;go_wp2_with(first|(go_at_call 166;(with_reducible refine HD.out.mono ?_);rintro e w' ⟨rfl,rfl⟩)|(go_at_call 220;(with_reducible refine HF.out.mono ?_);rintro e w' ⟨rfl,rfl⟩))
   go_roundw
   case rel=>exact⟨k+1,by omega,by go_num,by rw[HS.out];first|rfl|(simp;omega),by first|rfl|trivial⟩
   case measure=>simp[intOf];omega
  ·have hkn:s.take k=s:=List.take_of_length_le (by rw[<-HZ.out];omega);rw[hkn]at hv9 ⊢;generalize valN s=n at*;have c1:decide ((1000000000:Int)<n)=false:=by simp;omega
   have c2:decide ((288230376151711744:Int)<=n)=false:=by simp;omega
   have hw:IntKind.i64.wrap (n:Int)=(n:Int):=by rw[IntKind.wrap_i64];omega
   clear hkn;go_wp2_with fail
   go_ret2;exact⟨true,by rw[HV.out];first|rfl|simp,rfl⟩
def zdz (en B:Nat) (s:Ps) (W:World) (r:Except (Nat × Nat) (Nat × Pol × List Bs)) (e:Ending) (w':World):Prop:=match r with
 | .error (c,i)=>e= .returned (.tuple #[.int .i64 0,.int .i64 c,.int .i64 i])/\(∃s',s'.rest=s.rest/\RPar en B s' w')/\Below B W w'
 | .ok (n,q,t)=>e= .returned (.tuple #[.int .i64 n,.int .i64 0,.int .i64 0])/\RPar en B ⟨s.rest,q,t⟩ w'/\Below B W w'
theorem zr0 {l:List Lx} {i:Nat} (h:i<l.length):l[i].text=zas l i:=by unfold zas;rw[List.drop_eq_getElem_cons h]
theorem zi0 {en B:Nat} {s:Ps} {W:World} (h:RPar en B s W) {i:Nat} (hi:i<s.rest.length): ∃A c b o,W.cell? ⟨B,11,none⟩=some (.slice A s.rest.length c)/\A=some ⟨b,o,none⟩/\b<W.heap.size/\ ∀j,j<s.rest.length->W.cell? ⟨b,o+j*3+2,none⟩=some (.string ⟨(zas s.rest j).toArray⟩):=by
 obtain⟨A,c,hc,_,A',c',he,_,hrd,_⟩:=h.rest;cases he;obtain⟨b1,o1,e1,hb1,_⟩:=Rd.lxAt hrd i hi;refine⟨A,c,b1,o1,hc,e1,hb1,fun j hj=> ?_⟩;obtain⟨b2,o2,e2,_,_,_,x2⟩:=Rd.lxAt hrd j hj;rw[e1]at e2;cases e2;rw[<-zr0 hj];exact x2
theorem zp9 (en B:Nat) (s:Ps) (W:World) (h:RPar en B s W) (hs:PsSm s):
  Calls z2f 58 #[.pointer (some ⟨B,0,none⟩),.string ⟨relT.toArray⟩] W (zdz en B s W (sgR relT s.rest s.pol s.told)):=by
 have hmx:=mxd;have HP:=z2c h;have hlt:=h.lt;have htold:s.told.length<=20000:=by have:=hs.told;omega
 obtain⟨kd,hkd⟩: ∃kd,(⟨relT.toArray⟩:ByteArray)=kd:=⟨_,rfl⟩;have hkl:kd.toList=[114,101,108,97,116,105,118,101]:=by rw[<-hkd,ByteArray.toList_eq];rfl
 obtain⟨R,hR⟩: ∃R,sgR relT s.rest s.pol s.told=R:=⟨_,rfl⟩;obtain⟨D1,hD1⟩: ∃D,isR s.rest 1 1 yesT=D:=⟨_,rfl⟩;obtain⟨D2,hD2⟩: ∃D,isR s.rest 1 1 noT=D:=⟨_,rfl⟩;have HN:Hid (R=if(!D1&& !D2)=true then .error (2,1)
  else match zb3 s.rest [1]with
   |some i=> .error (2,i)
   |none=>if relT∈s.told then .error (5,0)else .ok (3,{s.pol with rel:=decide (zas s.rest 1=yesT)},relT::s.told)):=by show _=_;rw[<-hR,<-hD1,<-hD2];rfl
 have HI1:=z2c (show Calls z2f 142 #[.pointer (some ⟨B,0,none⟩),.int .i64 1,.int .i64 1,.string ⟨#[121,101,115]⟩] W fun e w'=>e= .returned (.bool D1)/\W=w' from hD1 ▸ zdd en B s W h 1 1 yesT);have HI2:=z2c (show Calls z2f 142 #[.pointer (some ⟨B,0,none⟩),.int .i64 1,.int .i64 1,.string ⟨#[110,111]⟩] W fun e w'=>e= .returned (.bool D2)/\W=w' from hD2 ▸ zdd en B s W h 1 1 noT);have hin:(D1||D2)=true->1<s.rest.length:=by
  intro hd;rcases Bool.or_eq_true_iff.1 hd with h|h
  ·exact zh9 (hD1.trans h)
  ·exact zh9 (hD2.trans h)
 have HW:=z2c (fun W' (hb:Below W.heap.size W W') v (hv:Rd W' v [1].length 1 ([1].map ivN))=>show Calls z2f 144 #[.pointer (some ⟨B,0,none⟩),v] W' _ from zhy en B s W' (h.grown hb) v [1] hv (by simp));have HO:=z2c (fun W' (hb:Below W.heap.size W W')=>show Calls z2f 145 #[.pointer (some ⟨B,0,none⟩),.string kd] W' _ from hkd ▸ zjx en B relT s W' (h.grown hb) htold);rw[hkd,hR];clear hR hkd hD1 hD2 h hs;by_cases hh:(D1||D2)=true;rotate_left
 ·obtain⟨rfl,rfl⟩:=Bool.or_eq_false_iff.1 (Bool.eq_false_iff.2 hh);have HR:Hid (R= .error (2,1)):=HN.out;clear HN hh hin HW HO;go_enter z4i,z39;go_wp2_with(first|(go_at_call 142;(with_reducible refine HI1.out.mono ?_);rintro e w' ⟨rfl,rfl⟩)|(go_at_call 142;(with_reducible refine HI2.out.mono ?_);rintro e w' ⟨rfl,rfl⟩))
  go_ret3
  rw[HR.out];exact⟨rfl,⟨s,rfl,HP.out⟩,Below.refl _ _⟩
 have hlen:=hin hh;have HN2:Hid (R=match zb3 s.rest [1]with
   |some i=> .error (2,i)
   |none=>if relT∈s.told then .error (5,0)else .ok (3,{s.pol with rel:=decide (zas s.rest 1=yesT)},relT::s.told)):=by
  show _=_;rw[HN.out,if_neg (by revert hh;cases D1<;>cases D2<;>simp)]
 clear HN hin;obtain⟨X,hX⟩: ∃X,zb3 s.rest [1]=X:=⟨_,rfl⟩;rw[hX]at HN2 HW;clear hX;cases X with
 |some i=>
  have HR:Hid (R= .error (2,i)):=HN2.out;have HW2:=z2c (fun W' hb v hv=>show Calls z2f 144 #[.pointer (some ⟨B,0,none⟩),v] W' fun e w'=>e= .returned (.int .i64 (i:Int))/\W'=w' from HW.out W' hb v hv);have hi0:(0:Int)<=(i:Int):=by omega
  clear HN2 HW HO;revert hh;cases D1<;>cases D2<;>intro hh
  ·cases hh
  all_goals
   clear hh;go_enter z4i,z39;go_wp2_with(first|(go_at_call 142;(with_reducible refine HI1.out.mono ?_);rintro e w' ⟨rfl,rfl⟩)|(go_at_call 142;(with_reducible refine HI2.out.mono ?_);rintro e w' ⟨rfl,rfl⟩)|(go_at_call 144;(refine(HW2.out _ bel _ (zgy (ts:=[1]) (by simp) rfl rfl (by simp))).mono ?_);rintro e w' ⟨rfl,rfl⟩))
   go_ret3
   rw[HR.out];exact⟨rfl,⟨s,rfl,HP.out.grown bel⟩,bel⟩
 |none=>
  have HW2:=z2c (fun W' hb v hv=>show Calls z2f 144 #[.pointer (some ⟨B,0,none⟩),v] W' fun e w'=>e= .returned (.int .i64 (-1))/\W'=w' from HW.out W' hb v hv);have HN3:Hid (R=if relT∈s.told then .error (5,0)else .ok (3,{s.pol with rel:=decide (zas s.rest 1=yesT)},relT::s.told)):=HN2.out;clear HN2 HW;by_cases hm:relT∈s.told
  ·have HR:Hid (R= .error (5,0)):=by show _=_;rw[HN3.out,if_pos hm]
   rw[decide_eq_true hm,if_pos hm]at HO;clear HN3 hm;revert hh;cases D1<;>cases D2<;>intro hh
   ·cases hh
   all_goals
    clear hh;go_enter z4i,z39;go_wp2_with(first|(go_at_call 142;(with_reducible refine HI1.out.mono ?_);rintro e w' ⟨rfl,rfl⟩)|(go_at_call 142;(with_reducible refine HI2.out.mono ?_);rintro e w' ⟨rfl,rfl⟩)|(go_at_call 144;(refine(HW2.out _ bel _ (zgy (ts:=[1]) (by simp) rfl rfl (by simp))).mono ?_);rintro e w' ⟨rfl,rfl⟩)|(go_at_call 145;(with_reducible refine(HO.out _ bel).mono ?_);rintro e W2 ⟨rfl,hp2,hb2,hq2⟩;clear hq2))
    go_ret3
    rw[HR.out];exact⟨rfl,⟨s,rfl,hp2⟩,Below.trans bel hb2⟩
  ·have HR:Hid (R= .ok (3,{s.pol with rel:=decide (zas s.rest 1=yesT)},relT::s.told)):=by show _=_;rw[HN3.out,if_neg hm]
   rw[decide_eq_false hm,if_neg hm]at HO;clear HN3 hm;have hfl:=zeb;revert hh;cases D1<;>cases D2<;>intro hh
   ·cases hh
   all_goals
    clear hh;go_enter z4i,z39;go_upto_region 10 with(first|(go_at_call 142;(with_reducible refine HI1.out.mono ?_);rintro e w' ⟨rfl,rfl⟩)|(go_at_call 142;(with_reducible refine HI2.out.mono ?_);rintro e w' ⟨rfl,rfl⟩)|(go_at_call 144;(refine(HW2.out _ bel _ (zgy (ts:=[1]) (by simp) rfl rfl (by simp))).mono ?_);rintro e w' ⟨rfl,rfl⟩)|(go_at_call 145;(with_reducible refine(HO.out _ bel).mono ?_);rintro e W2 ⟨rfl,hp2,hb2,hq2⟩;clear hq2;have HP2:=z2c hp2;have HB2:=z2c (Below.trans (show Below B W _ from bel) hb2);clear hp2 hb2))
    obtain⟨A,c,b1,o1,hc,rfl,hb1,hx⟩:=zi0 HP2.out (i:=1) hlen;have hx2:W2.cell? ⟨b1,o1+3+2,none⟩=some (.string ⟨(zas s.rest 1).toArray⟩):=hx 1 hlen;clear hx;have hyes:(⟨(zas s.rest 1).toArray⟩:ByteArray).toList=zas s.rest 1:=by rw[ByteArray.toList_eq]
    obtain⟨D,hD⟩: ∃D,decide (zas s.rest 1=yesT)=D:=⟨_,rfl⟩;have hbq:((⟨(zas s.rest 1).toArray⟩:ByteArray).toList==([121,101,115]:Bs))=D:=by rw[hyes,<-hD];show(zas s.rest 1==yesT)=_;rw[Bool.eq_iff_iff];simp
    have c6:=HP2.out.c6;have fz6:=HP2.out.fz 6;have hl2:=HP2.out.lt;rw[hD]at HR;generalize(⟨(zas s.rest 1).toArray⟩:ByteArray)=tx at*;have hc':W2.cell? ⟨B,11,none⟩=some (.slice (some ⟨b1,o1,none⟩) s.rest.length c):=hc;generalize s.rest.length=nl at*;have hL1:(1:Int)<nl:=by omega
    have c6':W2.cell? ⟨B,6,none⟩=some (.bool s.pol.rel):=c6;clear hyes hD hc c6;cases D;all_goals
     go_wp2_with fail
     go_ret3
     rw[HR.out];first
      |(have h9:=HP2.out.setOne (i:=6) (s':=⟨s.rest,{s.pol with rel:=true},relT::s.told⟩) (v:= .bool true) (.inl ⟨by omega,by omega⟩) c6' (fun j hj=>⟨rfl,rfl⟩) rfl rfl rfl rfl rfl;exact⟨rfl,h9.1,HB2.out.trans h9.2⟩)
      |(have h9:=HP2.out.setOne (i:=6) (s':=⟨s.rest,{s.pol with rel:=false},relT::s.told⟩) (v:= .bool false) (.inl ⟨by omega,by omega⟩) c6' (fun j hj=>⟨rfl,rfl⟩) rfl rfl rfl rfl rfl;exact⟨rfl,h9.1,HB2.out.trans h9.2⟩)
def addF (s:Ps) (f:Frc):Ps:=⟨s.rest,{s.pol with forces:=s.pol.forces++[f]},s.told⟩
theorem zsx (s:Ps) (f:Frc):rN (addF s f) 5=rN s 5+1/\rX (addF s f) 5=rX s 5++[sv f.tag,sv f.name,sv f.value]:=by
 constructor
 ·simp[rN,addF,fN]
 ·simp[rX,addF,fC,Frc.cells]
theorem zy5 (s:Ps) (f:Frc) (i:Nat) (_hi:i<7) (h5:i≠5):rN (addF s f) i=rN s i/\rX (addF s f) i=rX s i:=by
 unfold rN rX;split
 ·exact⟨rfl,rfl⟩
 ·match i,h5 with
  |0,_=>exact⟨rfl,rfl⟩
  |1,_=>exact⟨rfl,rfl⟩
  |2,_=>exact⟨rfl,rfl⟩
  |3,_=>exact⟨rfl,rfl⟩
  |4,_=>exact⟨rfl,rfl⟩
  |5,h=>exact absurd rfl h
  |i+6,_=>omega
theorem zmp (en B:Nat) (s:Ps) (W:World) (h:RPar en B s W) (hs:PsSm s):
  Calls z2f 58 #[.pointer (some ⟨B,0,none⟩),.string ⟨zbg.toArray⟩] W (zdz en B s W (sgR zbg s.rest s.pol s.told)):=by
 have hmx:=mxd;have HP:=z2c h;have hlt:=h.lt;have htold:s.told.length<=20000:=by have:=hs.told;omega
 have hrow5:=hs.rows 5;have HTx:Hid (∀i,(zas s.rest i).length<=10000):=fun i=>zmh (fun x hx=>(hs.txt x hx).1);obtain⟨kd,hkd⟩: ∃kd,(⟨zbg.toArray⟩:ByteArray)=kd:=⟨_,rfl⟩;have hkl:kd.toList=[102,111,114,99,101]:=by rw[<-hkd,ByteArray.toList_eq];rfl
 obtain⟨R,hR⟩: ∃R,sgR zbg s.rest s.pol s.told=R:=⟨_,rfl⟩;have HN:Hid (R=match zb3 s.rest [1,1,3]with
  |some i=> .error (2,i)
  |none=>if(zbg++[32]++zas s.rest 1++[32]++zas s.rest 2)∈s.told then .error (5,0)else .ok (5,(addF s ⟨zas s.rest 1,zas s.rest 2,zas s.rest 3⟩).pol,(zbg++[32]++zas s.rest 1++[32]++zas s.rest 2)::s.told)):=by show _=_;rw[<-hR];rfl
 have HW:=z2c (fun W' (hb:Below W.heap.size W W') v (hv:Rd W' v [1,1,3].length 1 ([1,1,3].map ivN))=>show Calls z2f 144 #[.pointer (some ⟨B,0,none⟩),v] W' _ from zhy en B s W' (h.grown hb) v [1,1,3] hv (by simp));have hwl:zb3 s.rest [1,1,3]=none->4<s.rest.length:=fun hw=>by have:=(zcw [] [1,1,3] 1 hw).1;simpa using this
 rw[hkd,hR];clear hR hkd h hs;obtain⟨X,hX⟩: ∃X,zb3 s.rest [1,1,3]=X:=⟨_,rfl⟩;rw[hX]at HN HW hwl;clear hX;cases X with
 |some i=>
  have HR:Hid (R= .error (2,i)):=HN.out;have HW2:=z2c (fun W' hb v hv=>show Calls z2f 144 #[.pointer (some ⟨B,0,none⟩),v] W' fun e w'=>e= .returned (.int .i64 (i:Int))/\W'=w' from HW.out W' hb v hv);have hi0:(0:Int)<=(i:Int):=by omega
  clear HN HW hwl HTx;go_enter z4i,z39;go_wp2_with(go_at_call 144;(refine(HW2.out _ bel _ (zgy (ts:=[1,1,3]) (by simp) rfl rfl (by simp))).mono ?_);rintro e w' ⟨rfl,rfl⟩)
  go_ret3
  rw[HR.out];exact⟨rfl,⟨s,rfl,HP.out.grown bel⟩,bel⟩
 |none=>
  have hlen:=hwl rfl;have HW2:=z2c (fun W' hb v hv=>show Calls z2f 144 #[.pointer (some ⟨B,0,none⟩),v] W' fun e w'=>e= .returned (.int .i64 (-1))/\W'=w' from HW.out W' hb v hv);have HN3:Hid (R=if(zbg++[32]++zas s.rest 1++[32]++zas s.rest 2)∈s.told then .error (5,0)else .ok (5,(addF s ⟨zas s.rest 1,zas s.rest 2,zas s.rest 3⟩).pol,(zbg++[32]++zas s.rest 1++[32]++zas s.rest 2)::s.told)):=HN.out;clear HN HW hwl;go_enter z4i,z39;go_upto_region 16 with(go_at_call 144;(refine(HW2.out _ bel _ (zgy (ts:=[1,1,3]) (by simp) rfl rfl (by simp))).mono ?_);rintro e w' ⟨rfl,rfl⟩)
  refine zae fun W1 hW1=> ?_;have hb1:Below W.heap.size W W1:=by rw[hW1];exact bel
  have HB1:=z2c hb1;have HP1:=z2c (HP.out.grown hb1);clear hW1 hb1 HW2 HP;obtain⟨A,c,b1,o1,hc,rfl,hbl,hx⟩:=zi0 HP1.out (i:=1) (by omega);have x1:=hx 1 (by omega);have x2:=hx 2 (by omega);have x3:=hx 3 (by omega);have hx1:W1.cell? ⟨b1,o1+3+2,none⟩=some (.string ⟨(zas s.rest 1).toArray⟩):=x1;have hx2:W1.cell? ⟨b1,o1+6+2,none⟩=some (.string ⟨(zas s.rest 2).toArray⟩):=x2;have hx3:W1.cell? ⟨b1,o1+9+2,none⟩=some (.string ⟨(zas s.rest 3).toArray⟩):=x3;obtain⟨tx,htx⟩: ∃t,zas s.rest 1=t:=⟨_,rfl⟩;obtain⟨ty,hty⟩: ∃t,zas s.rest 2=t:=⟨_,rfl⟩;obtain⟨tz,htz⟩: ∃t,zas s.rest 3=t:=⟨_,rfl⟩;have l1:tx.length<=10000:=by rw[<-htx];exact HTx.out 1
  have l2:ty.length<=10000:=by rw[<-hty];exact HTx.out 2
  rw[htx]at hx1 HN3;rw[hty]at hx2 HN3;rw[htz]at hx3 HN3;obtain⟨what,hwh⟩: ∃t,zbg++[32]++tx++[32]++ty=t:=⟨_,rfl⟩;have hwe:(⟨what.toArray⟩:ByteArray)=⟨#[102,111,114,99,101,32]⟩++⟨tx.toArray⟩++⟨#[32]⟩++⟨ty.toArray⟩:=by
   refine zgq ?_;rw[<-hwh];simp[zbg]
  rw[hwh]at HN3;have HO:=z2c (fun W' (hb:Below W1.heap.size W1 W')=>show Calls z2f 145 #[.pointer (some ⟨B,0,none⟩),.string (⟨#[102,111,114,99,101,32]⟩++⟨tx.toArray⟩++⟨#[32]⟩++⟨ty.toArray⟩)] W' _ from hwe ▸ zjx en B what s W' (HP1.out.grown hb) htold);have s1:(⟨tx.toArray⟩:ByteArray).size<=10000:=by show tx.toArray.size<=_;simpa using l1
  have s2:(⟨ty.toArray⟩:ByteArray).size<=10000:=by show ty.toArray.size<=_;simpa using l2
  have E1:Hid (sv tx= .string ⟨tx.toArray⟩):=rfl;have E2:Hid (sv ty= .string ⟨ty.toArray⟩):=rfl;have E3:Hid (sv tz= .string ⟨tz.toArray⟩):=rfl;generalize(⟨tx.toArray⟩:ByteArray)=bx at*;generalize(⟨ty.toArray⟩:ByteArray)=bY at*;generalize(⟨tz.toArray⟩:ByteArray)=bz at*;clear hx x1 x2 x3 htx hty htz hwh hwe HTx l1 l2;have hl1:=HP1.out.lt;generalize hnl:s.rest.length=nl at*;have n1:(1:Int)<nl:=by omega
  have n2:(2:Int)<nl:=by omega
  have n3:(3:Int)<nl:=by omega
  refine zak 23 [(0,true),(1,true),(2,true),(3,true),(4,true),(5,true),(6,true),(7,true),(8,true),(9,true),(10,true),(11,true),(12,true),(13,true),(14,true),(15,true),(16,true),(17,true),(18,true),(19,true),(20,true),(21,true),(22,false)] (fun V=>V.cell? ⟨B,11,none⟩=some (.slice (some ⟨b1,o1,none⟩) nl c)/\V.cell? ⟨b1,o1+3+2,none⟩=some (.string bx)/\V.cell? ⟨b1,o1+6+2,none⟩=some (.string bY)/\V.cell? ⟨b1,o1+9+2,none⟩=some (.string bz)) hmx (by kernel_rfl) (by kernel_rfl) (by kernel_rfl) (by decide) rfl (fun c a d v w h=>by obtain⟨x,y⟩:=(h:_/\_);cases d<;>exact⟨x,y⟩) (by kernel_rfl) (by exact⟨hc,hx1,hx2,hx3⟩) ?_;refine zaa (v:= .pointer (some ⟨B,0,none⟩)) 53 rfl rfl rfl (fun W hW=>by simp[execOp,go_sem]) ?_;simp only[Act.put,z2b,z2e,z2d];refine zaa (v:= .pointer (some ⟨B,0,none⟩)) 54 rfl rfl rfl (fun W hW=>by simp[execOp,go_sem]) ?_;simp only[Act.put,z2b,z2e,z2d];refine zaa (v:= .pointer (some ⟨B,11,none⟩)) 55 rfl rfl rfl (fun W hW=>by simp[execOp,go_sem]) ?_;simp only[Act.put,z2b,z2e,z2d];refine zaa (v:= .slice (some ⟨b1,o1,none⟩) nl c) 56 rfl rfl rfl (fun W hW=>by simp[execOp,go_sem,hW.1]) ?_;simp only[Act.put,z2b,z2e,z2d];refine zaa (v:= .pointer (some ⟨b1,o1+3,none⟩)) 57 rfl rfl rfl (fun W hW=>by simp[execOp,go_sem,n1]) ?_;simp only[Act.put,z2b,z2e,z2d];refine zaa (v:= .pointer (some ⟨b1,o1+3+2,none⟩)) 58 rfl rfl rfl (fun W hW=>by simp[execOp,go_sem]) ?_;simp only[Act.put,z2b,z2e,z2d];refine zaa (v:= .string bx) 59 rfl rfl rfl (fun W hW=>by simp[execOp,go_sem,hW.2.1]) ?_;simp only[Act.put,z2b,z2e,z2d];refine zaa (v:= .pointer (some ⟨B,0,none⟩)) 60 rfl rfl rfl (fun W hW=>by simp[execOp,go_sem]) ?_;simp only[Act.put,z2b,z2e,z2d];refine zaa (v:= .pointer (some ⟨B,0,none⟩)) 61 rfl rfl rfl (fun W hW=>by simp[execOp,go_sem]) ?_;simp only[Act.put,z2b,z2e,z2d];refine zaa (v:= .pointer (some ⟨B,11,none⟩)) 62 rfl rfl rfl (fun W hW=>by simp[execOp,go_sem]) ?_;simp only[Act.put,z2b,z2e,z2d];refine zaa (v:= .slice (some ⟨b1,o1,none⟩) nl c) 63 rfl rfl rfl (fun W hW=>by simp[execOp,go_sem,hW.1]) ?_;simp only[Act.put,z2b,z2e,z2d];refine zaa (v:= .pointer (some ⟨b1,o1+6,none⟩)) 64 rfl rfl rfl (fun W hW=>by simp[execOp,go_sem,n2]) ?_;simp only[Act.put,z2b,z2e,z2d];refine zaa (v:= .pointer (some ⟨b1,o1+6+2,none⟩)) 65 rfl rfl rfl (fun W hW=>by simp[execOp,go_sem]) ?_;simp only[Act.put,z2b,z2e,z2d];refine zaa (v:= .string bY) 66 rfl rfl rfl (fun W hW=>by simp[execOp,go_sem,hW.2.2.1]) ?_;simp only[Act.put,z2b,z2e,z2d];refine zaa (v:= .pointer (some ⟨B,0,none⟩)) 67 rfl rfl rfl (fun W hW=>by simp[execOp,go_sem]) ?_;simp only[Act.put,z2b,z2e,z2d];refine zaa (v:= .pointer (some ⟨B,0,none⟩)) 68 rfl rfl rfl (fun W hW=>by simp[execOp,go_sem]) ?_;simp only[Act.put,z2b,z2e,z2d];refine zaa (v:= .pointer (some ⟨B,11,none⟩)) 69 rfl rfl rfl (fun W hW=>by simp[execOp,go_sem]) ?_;simp only[Act.put,z2b,z2e,z2d];refine zaa (v:= .slice (some ⟨b1,o1,none⟩) nl c) 70 rfl rfl rfl (fun W hW=>by simp[execOp,go_sem,hW.1]) ?_;simp only[Act.put,z2b,z2e,z2d];refine zaa (v:= .pointer (some ⟨b1,o1+9,none⟩)) 71 rfl rfl rfl (fun W hW=>by simp[execOp,go_sem,n3]) ?_;simp only[Act.put,z2b,z2e,z2d];refine zaa (v:= .pointer (some ⟨b1,o1+9+2,none⟩)) 72 rfl rfl rfl (fun W hW=>by simp[execOp,go_sem]) ?_;simp only[Act.put,z2b,z2e,z2d];refine zaa (v:= .string bz) 73 rfl rfl rfl (fun W hW=>by simp[execOp,go_sem,hW.2.2.2]) ?_;simp only[Act.put,z2b,z2e,z2d];refine zaa (v:= .agg #[.string bx,.string bY,.string bz]) 74 rfl rfl rfl (fun W hW=>by simp[execOp,go_sem]) ?_;simp only[Act.put,z2b,z2e,z2d];refine zai rfl rfl fun Kc hKc=> ?_;unfold Oper.wp;simp[execOp,go_sem];apply hKc;have hb6: ∀x e,Below W1.heap.size W1 (W1.drew.alloc (.cells x e)):=fun x e=>bel;refine⟨⟨((hb6 _ _).cell (p:=⟨B,11,none⟩) hl1).trans hc,((hb6 _ _).cell (p:=⟨b1,_,none⟩) hbl).trans hx1,((hb6 _ _).cell (p:=⟨b1,_,none⟩) hbl).trans hx2,((hb6 _ _).cell (p:=⟨b1,_,none⟩) hbl).trans hx3⟩, ?_⟩;clear hb6;dsimp only[zbq,List.drop];go_upto_region 17 with fail
  refine zae fun V hV=> ?_;obtain⟨F,hF⟩: ∃F,W1.heap.size=F:=⟨_,rfl⟩;have hbV:Below W1.heap.size W1 V:=by rw[hV];exact bel
  have f0:V.cell? ⟨F,0,none⟩=some (.string bx):=by rw[hV,<-hF];simp[go_sem]
  have f1:V.cell? ⟨F,1,none⟩=some (.string bY):=by rw[hV,<-hF];simp[go_sem]
  have f2:V.cell? ⟨F,2,none⟩=some (.string bz):=by rw[hV,<-hF];simp[go_sem]
  have hFl:F<V.heap.size:=World.block_lt_of_cell? V _ f0;have hBF:B<F:=by rw[<-hF];exact hl1
  first|rw[hF]|skip
  have HBV:=z2c hbV;clear hV hbV hx1 hx2 hx3 n1 n2 n3 hc;by_cases hm:what∈s.told
  ·have HR:Hid (R= .error (5,0)):=by show _=_;rw[HN3.out,if_pos hm]
   rw[decide_eq_true hm,if_pos hm]at HO;clear HN3 hm;go_wp2_with(go_at_call 145;(with_reducible refine(HO.out _ HBV.out).mono ?_);rintro e W2 ⟨rfl,hp2,hb2,hq2⟩;clear hq2)
   go_ret3
   rw[HR.out];exact⟨rfl,⟨s,rfl,hp2⟩,((HB1.out.mono (z25 hlt)).trans (HBV.out.mono (z25 hl1))).trans hb2⟩
  ·have HR:Hid (R= .ok (5,(addF s ⟨tx,ty,tz⟩).pol,what::s.told)):=by show _=_;rw[HN3.out,if_neg hm]
   rw[decide_eq_false hm,if_neg hm]at HO;clear HN3 hm;go_upto_region 19 with(go_at_call 145;(with_reducible refine(HO.out _ HBV.out).mono ?_);rintro e W2 ⟨rfl,hp2,hb2,ht2,hs2⟩;have HP2:=z2c hp2;have HB2:=z2c hb2;have HK2:=z2c ht2;have HS2:=z2c hs2;clear hp2 hb2 ht2 hs2)
   have hnr: ¬(F=B\/ ∃v,V.cell? ⟨B,10,none⟩=some v/\v.ownBlock=some F):=by
    rintro(h|⟨v,hv,hb⟩)
    ·omega
    ·obtain⟨u,hu,hou⟩:=HP1.out.row 6 (by omega);have h9:V.cell? ⟨B,10,none⟩=some u:=(HBV.out.cell (p:=⟨B,10,none⟩) hl1).trans hu;rw[hv]at h9;cases h9;have:=(hou.lt F hb).2;omega
   have hFl2:F<W2.heap.size:=Nat.lt_of_lt_of_le hFl HK2.out.size;have g0:=(World.cell?_of_block (a:=⟨F,0,none⟩) (HK2.out.block F hFl hnr)).trans f0;have g1:=(World.cell?_of_block (a:=⟨F,1,none⟩) (HK2.out.block F hFl hnr)).trans f1;have g2:=(World.cell?_of_block (a:=⟨F,2,none⟩) (HK2.out.block F hFl hnr)).trans f2;have HBq:=z2c (((HB1.out.mono (z25 hlt)).trans (HBV.out.mono (z25 hl1))).trans HB2.out);obtain⟨v5,hv5,ho5⟩:=HP2.out.row 5 (by omega);have ho5':W2.ownsRow (B+1) 103 3 v5 (rN (zfq s what) 5) (rX (zfq s what) 5):=ho5;obtain⟨m,hm⟩: ∃m,rN (zfq s what) 5=m:=⟨_,rfl⟩;have hm9:m<=40000:=by rw[<-hm];show fN s.pol 5<=_;omega
   have HM:=z2c hm;rw[hm]at ho5';have HOv:=z2c ho5';obtain⟨A5,c5,rfl,_⟩:=zah ho5';have h25:W2.cell? ⟨B,5,none⟩=some (.slice A5 m c5):=hv5;have hz:=HP2.out.fz 5;have hl2:=HP2.out.lt;have hM5: ∀b,(Value.slice A5 m c5).ownBlock=some b->B+1<=b:=fun b hb=>(HOv.out.lt b hb).1;have HM5:=z2c hM5;have hdr:Below W2.heap.size W2 W2.drew:=bel;have hnF: ¬(Value.slice A5 m c5).ownBlock=some F:=by
    intro hb;obtain⟨u,hu,hou⟩:=HP1.out.row 5 (by omega);have h9:W2.cell? ⟨B,5,none⟩=some u:=(HS2.out 5 (by omega)).trans ((HBV.out.cell (p:=⟨B,5,none⟩) hl1).trans hu);rw[h25]at h9;cases h9;have:=(hou.lt F hb).2;omega
   clear hm ho5 ho5' hv5 hM5;refine zak 9 [(0,true),(1,true),(2,true),(3,true),(4,true),(5,true),(6,true),(7,false),(8,false)] (fun V=>V.cell? ⟨B,5,none⟩=some (.slice A5 m c5)/\V.cell? ⟨F,0,none⟩=some (.string bx)/\V.cell? ⟨F,1,none⟩=some (.string bY)/\V.cell? ⟨F,2,none⟩=some (.string bz)) hmx (by kernel_rfl) (by kernel_rfl) (by kernel_rfl) (by decide) rfl (fun c a d v w h=>by obtain⟨x,y⟩:=(h:_/\_);cases d<;>exact⟨x,y⟩) (by kernel_rfl) (by exact⟨h25,g0,g1,g2⟩) ?_;refine zaa (v:= .pointer (some ⟨B,0,none⟩)) 84 rfl rfl rfl (fun W hW=>by simp[execOp,go_sem]) ?_;simp only[Act.put,z2b,z2e,z2d];refine zaa (v:= .pointer (some ⟨B,0,none⟩)) 85 rfl rfl rfl (fun W hW=>by simp[execOp,go_sem]) ?_;simp only[Act.put,z2b,z2e,z2d];refine zaa (v:= .pointer (some ⟨B,0,none⟩)) 86 rfl rfl rfl (fun W hW=>by simp[execOp,go_sem]) ?_;simp only[Act.put,z2b,z2e,z2d];refine zaa (v:= .pointer (some ⟨B,0,none⟩)) 87 rfl rfl rfl (fun W hW=>by simp[execOp,go_sem]) ?_;simp only[Act.put,z2b,z2e,z2d];refine zaa (v:= .pointer (some ⟨B,5,none⟩)) 88 rfl rfl rfl (fun W hW=>by simp[execOp,go_sem]) ?_;simp only[Act.put,z2b,z2e,z2d];refine zaa (v:= .slice A5 m c5) 89 rfl rfl rfl (fun W hW=>by simp[execOp,go_sem,hW.1]) ?_;simp only[Act.put,z2b,z2e,z2d];refine zaa (v:= .agg #[.string bx,.string bY,.string bz]) 90 rfl rfl rfl (fun W hW=>by simp[execOp,go_sem,hW.2.1,hW.2.2.1,hW.2.2.2]) ?_;simp only[Act.put,z2b,z2e,z2d];refine zai rfl rfl fun Kc hKc=> ?_;unfold Oper.wp;simp[execOp,go_sem];apply hKc;have hb5:Below W2.heap.size W2 (W2.drew.alloc (.cells #[.string bx,.string bY,.string bz] 103)):=bel;refine⟨⟨(hb5.cell (p:=⟨B,5,none⟩) hl2).trans h25,(hb5.cell (p:=⟨F,0,none⟩) hFl2).trans g0,(hb5.cell (p:=⟨F,1,none⟩) hFl2).trans g1,(hb5.cell (p:=⟨F,2,none⟩) hFl2).trans g2⟩, ?_⟩;refine zai rfl rfl fun Kc hKc=> ?_;refine zj3 (n:=m) (size:=3) (xs:=rX (zfq s what) 5) (v:= .slice A5 m c5) _ _ 49 rfl sltF (B+1) rfl ((zge HOv.out hdr).alloc _) (by simp[go_sem]<;>omega) ⟨W2.heap.size,0,none⟩ 1 1 [.string bx,.string bY,.string bz] rfl (zaf (c:= #[.string bx,.string bY,.string bz]) (by simp[go_sem])) rfl (by simp[Value.oneCell']) (by unfold maxLen;omega) (by omega) ?_;intro v6 W6 ho6 hg6 hat6;obtain⟨A6,c6,rfl,_⟩:=zah ho6;have hgT:zab (fun b=>(Value.slice A5 m c5).ownBlock=some b) (W2.drew.alloc (.cells #[.string bx,.string bY,.string bz] 103)) W6:=⟨hg6.os,hg6.tape,hg6.output,hg6.size,fun k hk hn=>hg6.block k hk (fun e=>hn e.symm)⟩;have hT6:zab (fun b=>(Value.slice A5 m c5).ownBlock=some b) W2 W6:=(zab.of_below hb5).trans hgT;have hnM: ¬(Value.slice A5 m c5).ownBlock=some B:=fun e=>by have:=HM5.out _ e;omega
   have k6:=(World.cell?_of_block (a:=⟨B,5,none⟩) (hT6.block _ hl2 hnM)).trans h25;have kf:=(World.frozen?_of_block (a:=⟨B,5,none⟩) (hT6.block _ hl2 hnM)).trans hz;have q0:=(World.cell?_of_block (a:=⟨F,0,none⟩) (hT6.block _ hFl2 hnF)).trans g0;have q1:=(World.cell?_of_block (a:=⟨F,1,none⟩) (hT6.block _ hFl2 hnF)).trans g1;have q2:=(World.cell?_of_block (a:=⟨F,2,none⟩) (hT6.block _ hFl2 hnF)).trans g2;apply hKc;refine⟨⟨k6,q0,q1,q2⟩, ?_⟩;simp only[Act.put,z2b];have HT6:=z2c hT6;have HO6:=z2c ho6;have HA6:=z2c hat6;clear hg6 hgT hnM ho6 hat6 hb5 hT6 hdr q0 q1 q2;dsimp only[zbq,List.drop];go_wp2_with fail
   go_ret3
   rw[HR.out];have h9:=HP2.out.put (j:=5) (s':=addF (zfq s what) ⟨tx,ty,tz⟩) (by omega) h25 HT6.out (by rw[(zsx _ _).1,(zsx _ _).2,HM.out];simp only[E1.out,E2.out,E3.out];exact HO6.out) (HA6.out.imp (fun h=>h) (fun h=>⟨_,h,by simp[go_sem]⟩)) (fun i hi hij=>zy5 _ _ i hi hij) rfl rfl rfl rfl rfl;exact⟨rfl,h9.1,HBq.out.trans h9.2.1⟩
theorem zpy {D1 D2 D3:Bool} (h:(!D1&&(!D2&& !D3))=false):D1=true\/(D1=false/\D2=true)\/(D1=false/\D2=false/\D3=true):=by
 revert h;cases D1<;>cases D2<;>cases D3<;>simp
theorem z0f {l:List Lx} {i k:Nat} {t:Bs} (h:isR l i k t=true) (hi:i<l.length):l[i].kind=k:=by
 rw[z01 hi,Bool.and_eq_true,decide_eq_true_eq]at h;exact h.1
theorem zvi {l:List Lx} (h:zb3 l [1,2]=none):isR l 2 2 []=true:=by
 unfold zb3 zcf zcf at h;split at h
 ·split at h
  ·assumption
  ·cases h
 ·cases h
theorem zmo (en B:Nat) (s:Ps) (W:World) (h:RPar en B s W) (hs:PsSm s) (hnum: ∀x∈s.rest,x.kind=2->x.text.all digB=true/\x.text.length<=9):
  Calls z2f 58 #[.pointer (some ⟨B,0,none⟩),.string ⟨zbp.toArray⟩] W (zdz en B s W (sgR zbp s.rest s.pol s.told)):=by
 have hmx:=mxd;have HP:=z2c h;have hlt:=h.lt;have htold:s.told.length<=20000:=by have:=hs.told;omega
 have HTx:Hid (∀i,(zas s.rest i).length<=10000):=fun i=>zmh (fun x hx=>(hs.txt x hx).1);obtain⟨kd,hkd⟩: ∃kd,(⟨zbp.toArray⟩:ByteArray)=kd:=⟨_,rfl⟩;have hkl:kd.toList=[108,105,109,105,116]:=by rw[<-hkd,ByteArray.toList_eq];rfl
 obtain⟨R,hR⟩: ∃R,sgR zbp s.rest s.pol s.told=R:=⟨_,rfl⟩;obtain⟨D1,hD1⟩: ∃D,isR s.rest 1 1 zcc=D:=⟨_,rfl⟩;obtain⟨D2,hD2⟩: ∃D,isR s.rest 1 1 zdx=D:=⟨_,rfl⟩;obtain⟨D3,hD3⟩: ∃D,isR s.rest 1 1 valT=D:=⟨_,rfl⟩;have HN:Hid (R=if(!D1&&(!D2&& !D3))=true then .error (2,1)
  else match zb3 s.rest [1,2]with
   |some i=> .error (2,i)
   |none=>if(zbp++[32]++zas s.rest 1)∈s.told then .error (5,0)else if limB (setL (zas s.rest 1) (numT (zas s.rest 2)) s.pol)then .ok (4,setL (zas s.rest 1) (numT (zas s.rest 2)) s.pol,(zbp++[32]++zas s.rest 1)::s.told)else .error (2,2)):=by show _=_;rw[<-hR,<-hD1,<-hD2,<-hD3];rfl
 have HI1:=z2c (show Calls z2f 142 #[.pointer (some ⟨B,0,none⟩),.int .i64 1,.int .i64 1,.string ⟨#[100,101,112,116,104]⟩] W fun e w'=>e= .returned (.bool D1)/\W=w' from hD1 ▸ zdd en B s W h 1 1 zcc);have HI2:=z2c (show Calls z2f 142 #[.pointer (some ⟨B,0,none⟩),.int .i64 1,.int .i64 1,.string ⟨#[110,97,109,101]⟩] W fun e w'=>e= .returned (.bool D2)/\W=w' from hD2 ▸ zdd en B s W h 1 1 zdx);have HI3:=z2c (show Calls z2f 142 #[.pointer (some ⟨B,0,none⟩),.int .i64 1,.int .i64 1,.string ⟨#[118,97,108,117,101]⟩] W fun e w'=>e= .returned (.bool D3)/\W=w' from hD3 ▸ zdd en B s W h 1 1 valT);have HW:=z2c (fun W' (hb:Below W.heap.size W W') v (hv:Rd W' v [1,2].length 1 ([1,2].map ivN))=>show Calls z2f 144 #[.pointer (some ⟨B,0,none⟩),v] W' _ from zhy en B s W' (h.grown hb) v [1,2] hv (by simp));have hwl:zb3 s.rest [1,2]=none->3<s.rest.length:=fun hw=>by have:=(zcw [] [1,2] 1 hw).1;simpa using this
 have hnb:zb3 s.rest [1,2]=none->(zas s.rest 2).all digB=true/\(zas s.rest 2).length<=9:=fun hw=>by
  have h2:2<s.rest.length:=by have:=hwl hw;omega
  have hk:=z0f (zvi hw) h2;rw[<-zr0 h2];exact hnum _ (List.getElem_mem h2) hk
 rw[hkd,hR];clear hR hkd hD1 hD2 hD3 h hs hnum;cases hh:(!D1&&(!D2&& !D3))with
 |true=>
  have HR:Hid (R= .error (2,1)):=by show _=_;rw[HN.out,hh];rfl
  have hD:D1=false/\D2=false/\D3=false:=by revert hh;cases D1<;>cases D2<;>cases D3<;>simp
  obtain⟨rfl,rfl,rfl⟩:=hD;clear HN hh HW hwl HTx hnb;go_enter z4i,z39;go_wp2_with(first|(go_at_call 142;(with_reducible refine HI1.out.mono ?_);rintro e w' ⟨rfl,rfl⟩)|(go_at_call 142;(with_reducible refine HI2.out.mono ?_);rintro e w' ⟨rfl,rfl⟩)|(go_at_call 142;(with_reducible refine HI3.out.mono ?_);rintro e w' ⟨rfl,rfl⟩))
  go_ret3
  rw[HR.out];exact⟨rfl,⟨s,rfl,HP.out⟩,Below.refl _ _⟩
 |false=>
  have HN2:Hid (R=match zb3 s.rest [1,2]with
   |some i=> .error (2,i)
   |none=>if(zbp++[32]++zas s.rest 1)∈s.told then .error (5,0)else if limB (setL (zas s.rest 1) (numT (zas s.rest 2)) s.pol)then .ok (4,setL (zas s.rest 1) (numT (zas s.rest 2)) s.pol,(zbp++[32]++zas s.rest 1)::s.told)else .error (2,2)):=by show _=_;rw[HN.out,hh];rfl
  have hD:=zpy hh;clear HN hh;obtain⟨X,hX⟩: ∃X,zb3 s.rest [1,2]=X:=⟨_,rfl⟩;rw[hX]at HN2 HW hwl hnb;clear hX;cases X with
  |some i=>
   have HR:Hid (R= .error (2,i)):=HN2.out;have HW2:=z2c (fun W' hb v hv=>show Calls z2f 144 #[.pointer (some ⟨B,0,none⟩),v] W' fun e w'=>e= .returned (.int .i64 (i:Int))/\W'=w' from HW.out W' hb v hv);have hi0:(0:Int)<=(i:Int):=by omega
   clear HN2 HW hwl HTx hnb;rcases hD with rfl|⟨rfl,rfl⟩|⟨rfl,rfl,rfl⟩
   all_goals
    go_enter z4i,z39;go_wp2_with(first|(go_at_call 142;(with_reducible refine HI1.out.mono ?_);rintro e w' ⟨rfl,rfl⟩)|(go_at_call 142;(with_reducible refine HI2.out.mono ?_);rintro e w' ⟨rfl,rfl⟩)|(go_at_call 142;(with_reducible refine HI3.out.mono ?_);rintro e w' ⟨rfl,rfl⟩)|(go_at_call 144;(refine(HW2.out _ bel _ (zgy (ts:=[1,2]) (by simp) rfl rfl (by simp))).mono ?_);rintro e w' ⟨rfl,rfl⟩))
    go_ret3
    rw[HR.out];exact⟨rfl,⟨s,rfl,HP.out.grown bel⟩,bel⟩
  |none=>
   have hlen:=hwl rfl;obtain⟨hdg,hd9⟩:=hnb rfl;have HW2:=z2c (fun W' hb v hv=>show Calls z2f 144 #[.pointer (some ⟨B,0,none⟩),v] W' fun e w'=>e= .returned (.int .i64 (-1))/\W'=w' from HW.out W' hb v hv);have HN3:Hid (R=if(zbp++[32]++zas s.rest 1)∈s.told then .error (5,0)else if limB (setL (zas s.rest 1) (numT (zas s.rest 2)) s.pol)then .ok (4,setL (zas s.rest 1) (numT (zas s.rest 2)) s.pol,(zbp++[32]++zas s.rest 1)::s.told)else .error (2,2)):=HN2.out;have HNu:=z2c (fun W=>zqe (zas s.rest 2) W hdg hd9);clear HN2 HW hwl hnb hdg hd9;rcases hD with rfl|⟨rfl,rfl⟩|⟨rfl,rfl,rfl⟩
   all_goals
    go_enter z4i,z39;go_upto_region 26 with(first|(go_at_call 142;(with_reducible refine HI1.out.mono ?_);rintro e w' ⟨rfl,rfl⟩)|(go_at_call 142;(with_reducible refine HI2.out.mono ?_);rintro e w' ⟨rfl,rfl⟩)|(go_at_call 142;(with_reducible refine HI3.out.mono ?_);rintro e w' ⟨rfl,rfl⟩)|(go_at_call 144;(refine(HW2.out _ bel _ (zgy (ts:=[1,2]) (by simp) rfl rfl (by simp))).mono ?_);rintro e w' ⟨rfl,rfl⟩))
    refine zae fun W1 hW1=> ?_;have hb1:Below W.heap.size W W1:=by rw[hW1];exact bel
    have HB1:=z2c hb1;have HP1:=z2c (HP.out.grown hb1);clear hW1 hb1 HW2 HP HI1 HI2 HI3;obtain⟨A,c,b1,o1,hc,rfl,hbl,hx⟩:=zi0 HP1.out (i:=1) (by omega);have hx1:W1.cell? ⟨b1,o1+3+2,none⟩=some (.string ⟨(zas s.rest 1).toArray⟩):=hx 1 (by omega);obtain⟨tx,htx⟩: ∃t,zas s.rest 1=t:=⟨_,rfl⟩;obtain⟨ty,hty⟩: ∃t,zas s.rest 2=t:=⟨_,rfl⟩;have l1:tx.length<=10000:=by rw[<-htx];exact HTx.out 1
    have HTX1:=z2c htx;have HTX2:=z2c hty;rw[htx]at hx1 HN3;rw[hty]at HN3 HNu;obtain⟨what,hwh⟩: ∃t,zbp++[32]++tx=t:=⟨_,rfl⟩;have hwe:(⟨what.toArray⟩:ByteArray)=⟨#[108,105,109,105,116,32]⟩++⟨tx.toArray⟩:=by
     refine zgq ?_;rw[<-hwh];simp[zbp]
    rw[hwh]at HN3;have HO:=z2c (fun W' (hb:Below W1.heap.size W1 W')=>show Calls z2f 145 #[.pointer (some ⟨B,0,none⟩),.string (⟨#[108,105,109,105,116,32]⟩++⟨tx.toArray⟩)] W' _ from hwe ▸ zjx en B what s W' (HP1.out.grown hb) htold);have s1:(⟨tx.toArray⟩:ByteArray).size<=10000:=by show tx.toArray.size<=_;simpa using l1
    have htl:(⟨tx.toArray⟩:ByteArray).toList=tx:=by rw[ByteArray.toList_eq]
    obtain⟨bx,hbx⟩: ∃b:ByteArray,⟨tx.toArray⟩=b:=⟨_,rfl⟩;obtain⟨bY,hbY⟩: ∃b:ByteArray,⟨ty.toArray⟩=b:=⟨_,rfl⟩;have HBx:=z2c hbx;have HBY:=z2c hbY;rw[hbx]at hx1 s1 HO htl;rw[hbY]at HNu;clear hx htx hty hwh hwe HTx l1 hbx hbY;have hl1:=HP1.out.lt;have hnl1:(1:Int)<(s.rest.length:Int):=by omega
    by_cases hm:what∈s.told
    ·have HR:Hid (R= .error (5,0)):=by show _=_;rw[HN3.out,if_pos hm]
     rw[decide_eq_true hm,if_pos hm]at HO;clear HN3 hm;go_wp2_with(go_at_call 145;(with_reducible refine(HO.out _ bel).mono ?_);rintro e W2 ⟨rfl,hp2,hb2,hq2⟩;clear hq2)
     go_ret3
     rw[HR.out];exact⟨rfl,⟨s,rfl,hp2⟩,(HB1.out.mono (z25 hlt)).trans hb2⟩
    ·have HN4:Hid (R=if limB (setL tx (numT ty) s.pol)then .ok (4,setL tx (numT ty) s.pol,what::s.told)else .error (2,2)):=by show _=_;rw[HN3.out,if_neg hm]
     rw[decide_eq_false hm,if_neg hm]at HO;clear HN3 hm;go_upto_region 28 with(go_at_call 145;(with_reducible refine(HO.out _ bel).mono ?_);rintro e W2 ⟨rfl,hp2,hb2,hq2⟩;clear hq2;have HP2:=z2c hp2;have HB2:=z2c ((HB1.out.mono (z25 hlt)).trans hb2);clear hp2 hb2)
     clear hc hx1 hbl HO;obtain⟨A2,c2,b2,o2,hc2,rfl,hbl2,hx2⟩:=zi0 HP2.out (i:=1) (by show 1<s.rest.length;omega);have y1:W2.cell? ⟨b2,o2+3+2,none⟩=some (.string bx):=by have:=hx2 1 (by show 1<s.rest.length;omega);rw[show zas (zfq s what).rest 1=tx from HTX1.out,HBx.out]at this;exact this
     have y2:W2.cell? ⟨b2,o2+6+2,none⟩=some (.string bY):=by have:=hx2 2 (by show 2<s.rest.length;omega);rw[show zas (zfq s what).rest 2=ty from HTX2.out,HBY.out]at this;exact this
     have hc2':W2.cell? ⟨B,11,none⟩=some (.slice (some ⟨b2,o2,none⟩) s.rest.length c2):=hc2;have hnl2:(2:Int)<(s.rest.length:Int):=by omega
     clear hx2 hc2;have hl2:=HP2.out.lt;have z7:=HP2.out.fz 7;have z8:=HP2.out.fz 8;have z9:=HP2.out.fz 9;have k7:W2.cell? ⟨B,7,none⟩=some (.int .i64 s.pol.depth):=HP2.out.c7;have k8:W2.cell? ⟨B,8,none⟩=some (.int .i64 s.pol.name):=HP2.out.c8;have k9:W2.cell? ⟨B,9,none⟩=some (.int .i64 s.pol.value):=HP2.out.c9;generalize hnv:numT ty=nv at*;generalize hnlg:s.rest.length=nl at*;have Q:Hid ((tx=zcc/\setL tx nv s.pol={s.pol with depth:=nv})\/(¬tx=zcc/\tx=zdx/\setL tx nv s.pol={s.pol with name:=nv})\/(¬tx=zcc/\ ¬tx=zdx/\setL tx nv s.pol={s.pol with value:=nv})):=by
      show _\/_;unfold setL;by_cases h1:tx=zcc
      ·exact .inl ⟨h1,by rw[if_pos h1]⟩
      ·by_cases h2:tx=zdx
       ·exact .inr (.inl ⟨h1,h2,by rw[if_neg h1,if_pos h2]⟩)
       ·exact .inr (.inr ⟨h1,h2,by rw[if_neg h1,if_neg h2]⟩)
     rcases Q.out with⟨q1,q2⟩|⟨q0,q1,q2⟩|⟨q0,q1,q2⟩
     ·have t1:bx.toList=[100,101,112,116,104]:=htl.trans q1;rw[q2]at HN4;clear q1 q2 Q htl;have h9:=fun(X:World) (hb:Below W2.heap.size W2 X)=>(HP2.out.grown hb).setOne (i:=7) (s':=⟨s.rest,{s.pol with depth:=nv},what::s.told⟩) (v:= .int .i64 nv) (.inl ⟨by omega,by omega⟩) ((hb.cell (p:=⟨B,7,none⟩) hl2).trans k7) (fun j _=>psj (s:=zfq s what) (q:={s.pol with depth:=nv}) (by rcases j with _|_|_|_|_|j<;>exact⟨rfl,rfl⟩)) rfl rfl rfl rfl rfl;go_upto_region 35 with(go_at_call 146;(with_reducible refine(HNu.out _).mono ?_);rintro e w' ⟨bb,rfl,rfl⟩)
      refine zae fun W3 hW3=> ?_;have h8:=h9 W2 (Below.refl _ _);rw[<-hW3]at h8;obtain⟨h8,hb8⟩:=h8;have HP3:=z2c h8;have HB3:=z2c (HB2.out.trans hb8);obtain⟨v0,e0,o0⟩:=h8.row 0 (by omega);obtain⟨A0,cc0,rfl,_⟩:=zah o0;have e0:W3.cell? ⟨B,0,none⟩=_:=e0;obtain⟨v1,e1,o1⟩:=h8.row 1 (by omega);obtain⟨A1,cc1,rfl,_⟩:=zah o1;have e1:W3.cell? ⟨B,1,none⟩=_:=e1;obtain⟨v2,e2,o2⟩:=h8.row 2 (by omega);obtain⟨A2,cc2,rfl,_⟩:=zah o2;have e2:W3.cell? ⟨B,2,none⟩=_:=e2;obtain⟨v3,e3,o3⟩:=h8.row 3 (by omega);obtain⟨A3,cc3,rfl,_⟩:=zah o3;have e3:W3.cell? ⟨B,3,none⟩=_:=e3;obtain⟨v4,e4,o4⟩:=h8.row 4 (by omega);obtain⟨A4,cc4,rfl,_⟩:=zah o4;have e4:W3.cell? ⟨B,4,none⟩=_:=e4;obtain⟨v5,e5,o5⟩:=h8.row 5 (by omega);obtain⟨A5,cc5,rfl,_⟩:=zah o5;have e5:W3.cell? ⟨B,5,none⟩=_:=e5;have e6:=h8.c6;have e7:=h8.c7;have e8:=h8.c8;have e9:=h8.c9;have HLm:=z2c (fun v0 v1 v2 v3 v4 v5 W=>zfe v0 v1 v2 v3 v4 v5 {s.pol with depth:=nv} W);clear hW3 h9 hb8 h8 y1 y2 hc2' k7 k8 k9 z7 z8 z9 HB2 HP2 o0 o1 o2 o3 o4 o5 HNu;cases hlm:limB {s.pol with depth:=nv}with
      |true=>
       rw[hlm]at HN4 HLm;have HR:Hid (R= .ok (4,{s.pol with depth:=nv},what::s.told)):=HN4.out;go_wp2_with(go_at_call 147;(with_reducible refine(HLm.out _ _ _ _ _ _ _).mono ?_);rintro e W4 ⟨rfl,X4,hX4⟩;have hb4:Below W3.heap.size W3 W4:=(by rw[hX4];exact bel);clear hX4)
       go_ret3
       rw[HR.out];exact⟨rfl,HP3.out.grown hb4,HB3.out.trans (hb4.mono (z25 HP3.out.lt))⟩
      |false=>
       rw[hlm]at HN4 HLm;have HR:Hid (R= .error (2,2)):=HN4.out;go_wp2_with(go_at_call 147;(with_reducible refine(HLm.out _ _ _ _ _ _ _).mono ?_);rintro e W4 ⟨rfl,X4,hX4⟩;have hb4:Below W3.heap.size W3 W4:=(by rw[hX4];exact bel);clear hX4)
       go_ret3
       rw[HR.out];exact⟨rfl,⟨_,(by first|exact hnlg ▸ rfl|rfl),HP3.out.grown hb4⟩,HB3.out.trans (hb4.mono (z25 HP3.out.lt))⟩
     ·have t1:bx.toList=[110,97,109,101]:=htl.trans q1;rw[q2]at HN4;clear q1 q2 Q htl q0;have h9:=fun(X:World) (hb:Below W2.heap.size W2 X)=>(HP2.out.grown hb).setOne (i:=8) (s':=⟨s.rest,{s.pol with name:=nv},what::s.told⟩) (v:= .int .i64 nv) (.inl ⟨by omega,by omega⟩) ((hb.cell (p:=⟨B,8,none⟩) hl2).trans k8) (fun j _=>psj (s:=zfq s what) (q:={s.pol with name:=nv}) (by rcases j with _|_|_|_|_|j<;>exact⟨rfl,rfl⟩)) rfl rfl rfl rfl rfl;go_upto_region 35 with(go_at_call 146;(with_reducible refine(HNu.out _).mono ?_);rintro e w' ⟨bb,rfl,rfl⟩)
      refine zae fun W3 hW3=> ?_;have h8:=h9 W2 (Below.refl _ _);rw[<-hW3]at h8;obtain⟨h8,hb8⟩:=h8;have HP3:=z2c h8;have HB3:=z2c (HB2.out.trans hb8);obtain⟨v0,e0,o0⟩:=h8.row 0 (by omega);obtain⟨A0,cc0,rfl,_⟩:=zah o0;have e0:W3.cell? ⟨B,0,none⟩=_:=e0;obtain⟨v1,e1,o1⟩:=h8.row 1 (by omega);obtain⟨A1,cc1,rfl,_⟩:=zah o1;have e1:W3.cell? ⟨B,1,none⟩=_:=e1;obtain⟨v2,e2,o2⟩:=h8.row 2 (by omega);obtain⟨A2,cc2,rfl,_⟩:=zah o2;have e2:W3.cell? ⟨B,2,none⟩=_:=e2;obtain⟨v3,e3,o3⟩:=h8.row 3 (by omega);obtain⟨A3,cc3,rfl,_⟩:=zah o3;have e3:W3.cell? ⟨B,3,none⟩=_:=e3;obtain⟨v4,e4,o4⟩:=h8.row 4 (by omega);obtain⟨A4,cc4,rfl,_⟩:=zah o4;have e4:W3.cell? ⟨B,4,none⟩=_:=e4;obtain⟨v5,e5,o5⟩:=h8.row 5 (by omega);obtain⟨A5,cc5,rfl,_⟩:=zah o5;have e5:W3.cell? ⟨B,5,none⟩=_:=e5;have e6:=h8.c6;have e7:=h8.c7;have e8:=h8.c8;have e9:=h8.c9;have HLm:=z2c (fun v0 v1 v2 v3 v4 v5 W=>zfe v0 v1 v2 v3 v4 v5 {s.pol with name:=nv} W);clear hW3 h9 hb8 h8 y1 y2 hc2' k7 k8 k9 z7 z8 z9 HB2 HP2 o0 o1 o2 o3 o4 o5 HNu;cases hlm:limB {s.pol with name:=nv}with
      |true=>
       rw[hlm]at HN4 HLm;have HR:Hid (R= .ok (4,{s.pol with name:=nv},what::s.told)):=HN4.out;go_wp2_with(go_at_call 147;(with_reducible refine(HLm.out _ _ _ _ _ _ _).mono ?_);rintro e W4 ⟨rfl,X4,hX4⟩;have hb4:Below W3.heap.size W3 W4:=(by rw[hX4];exact bel);clear hX4)
       go_ret3
       rw[HR.out];exact⟨rfl,HP3.out.grown hb4,HB3.out.trans (hb4.mono (z25 HP3.out.lt))⟩
      |false=>
       rw[hlm]at HN4 HLm;have HR:Hid (R= .error (2,2)):=HN4.out;go_wp2_with(go_at_call 147;(with_reducible refine(HLm.out _ _ _ _ _ _ _).mono ?_);rintro e W4 ⟨rfl,X4,hX4⟩;have hb4:Below W3.heap.size W3 W4:=(by rw[hX4];exact bel);clear hX4)
       go_ret3
       rw[HR.out];exact⟨rfl,⟨_,(by first|exact hnlg ▸ rfl|rfl),HP3.out.grown hb4⟩,HB3.out.trans (hb4.mono (z25 HP3.out.lt))⟩
     ·have t1:(bx.toList==[100,101,112,116,104])=false:=by rw[beq_eq_false_iff_ne];exact fun e=>q0 (htl.symm.trans e)
      have t2:(bx.toList==[110,97,109,101])=false:=by rw[beq_eq_false_iff_ne];exact fun e=>q1 (htl.symm.trans e)
      rw[q2]at HN4;clear q1 q2 Q htl q0;have h9:=fun(X:World) (hb:Below W2.heap.size W2 X)=>(HP2.out.grown hb).setOne (i:=9) (s':=⟨s.rest,{s.pol with value:=nv},what::s.told⟩) (v:= .int .i64 nv) (.inl ⟨by omega,by omega⟩) ((hb.cell (p:=⟨B,9,none⟩) hl2).trans k9) (fun j _=>psj (s:=zfq s what) (q:={s.pol with value:=nv}) (by rcases j with _|_|_|_|_|j<;>exact⟨rfl,rfl⟩)) rfl rfl rfl rfl rfl;go_upto_region 35 with(go_at_call 146;(with_reducible refine(HNu.out _).mono ?_);rintro e w' ⟨bb,rfl,rfl⟩)
      refine zae fun W3 hW3=> ?_;have h8:=h9 W2 (Below.refl _ _);rw[<-hW3]at h8;obtain⟨h8,hb8⟩:=h8;have HP3:=z2c h8;have HB3:=z2c (HB2.out.trans hb8);obtain⟨v0,e0,o0⟩:=h8.row 0 (by omega);obtain⟨A0,cc0,rfl,_⟩:=zah o0;have e0:W3.cell? ⟨B,0,none⟩=_:=e0;obtain⟨v1,e1,o1⟩:=h8.row 1 (by omega);obtain⟨A1,cc1,rfl,_⟩:=zah o1;have e1:W3.cell? ⟨B,1,none⟩=_:=e1;obtain⟨v2,e2,o2⟩:=h8.row 2 (by omega);obtain⟨A2,cc2,rfl,_⟩:=zah o2;have e2:W3.cell? ⟨B,2,none⟩=_:=e2;obtain⟨v3,e3,o3⟩:=h8.row 3 (by omega);obtain⟨A3,cc3,rfl,_⟩:=zah o3;have e3:W3.cell? ⟨B,3,none⟩=_:=e3;obtain⟨v4,e4,o4⟩:=h8.row 4 (by omega);obtain⟨A4,cc4,rfl,_⟩:=zah o4;have e4:W3.cell? ⟨B,4,none⟩=_:=e4;obtain⟨v5,e5,o5⟩:=h8.row 5 (by omega);obtain⟨A5,cc5,rfl,_⟩:=zah o5;have e5:W3.cell? ⟨B,5,none⟩=_:=e5;have e6:=h8.c6;have e7:=h8.c7;have e8:=h8.c8;have e9:=h8.c9;have HLm:=z2c (fun v0 v1 v2 v3 v4 v5 W=>zfe v0 v1 v2 v3 v4 v5 {s.pol with value:=nv} W);clear hW3 h9 hb8 h8 y1 y2 hc2' k7 k8 k9 z7 z8 z9 HB2 HP2 o0 o1 o2 o3 o4 o5 HNu;cases hlm:limB {s.pol with value:=nv}with
      |true=>
       rw[hlm]at HN4 HLm;have HR:Hid (R= .ok (4,{s.pol with value:=nv},what::s.told)):=HN4.out;go_wp2_with(go_at_call 147;(with_reducible refine(HLm.out _ _ _ _ _ _ _).mono ?_);rintro e W4 ⟨rfl,X4,hX4⟩;have hb4:Below W3.heap.size W3 W4:=(by rw[hX4];exact bel);clear hX4)
       go_ret3
       rw[HR.out];exact⟨rfl,HP3.out.grown hb4,HB3.out.trans (hb4.mono (z25 HP3.out.lt))⟩
      |false=>
       rw[hlm]at HN4 HLm;have HR:Hid (R= .error (2,2)):=HN4.out;go_wp2_with(go_at_call 147;(with_reducible refine(HLm.out _ _ _ _ _ _ _).mono ?_);rintro e W4 ⟨rfl,X4,hX4⟩;have hb4:Below W3.heap.size W3 W4:=(by rw[hX4];exact bel);clear hX4)
       go_ret3
       rw[HR.out];exact⟨rfl,⟨_,(by first|exact hnlg ▸ rfl|rfl),HP3.out.grown hb4⟩,HB3.out.trans (hb4.mono (z25 HP3.out.lt))⟩
theorem ztl (s:ByteArray) (w:World) (hm:8192<s.size):Calls z2f 55 #[.string s] w (Ret (.tuple #[.slice none 0 0,.int .i64 0,.int .i64 3]) w):=by
 have h8:decide ((8192:Int)<s.size)=true:=by simp;omega
 clear hm;go_enter Tryz.func55,Tryz.ntmps55;go_wp2
 go_ret3
 exact Ret.of rfl bel
theorem RPar.start {W V:World} {en base:Nat} {A:Option Addr} {n c:Nat} {l:List Lx} {e:TypeId} (hn:n=l.length) (ho:W.ownsRow base 112 3 (.slice A n c) n (za6 l)) (hc:n<=c)
  (hV:V=W.alloc (.cells #[.slice none 0 0,.slice none 0 0,.slice none 0 0,.slice none 0 0,.slice none 0 0,.slice none 0 0,.bool false,.int .i64 64,.int .i64 32,.int .i64 1024,.slice none 0 0,.slice A n c,.int .i64 en] e)):
  RPar en W.heap.size ⟨l,pol0,[]⟩ V:=by
 subst hn;have hb:Below W.heap.size W V:=by rw[hV];exact bel
 have hr:Rx W (fun b=>W.heap.size<=b) (.slice A l.length c) l.length 3 (za6 l):=Rx.ofOwn ho (fun b hb=>by have:=(ho.lt b hb).2;omega);have hnil: ∀j,j<7->V.cell? ⟨W.heap.size,rC j,none⟩=some (.slice none 0 0):=fun j hj=>by
  rcases(by omega:j=0\/j=1\/j=2\/j=3\/j=4\/j=5\/j=6)with rfl|rfl|rfl|rfl|rfl|rfl|rfl<;>(rw[hV];simp[go_sem,rC])
 refine⟨⟨A,c,by rw[hV];simp[go_sem],hc,hr.below hb⟩,by rw[hV];simp[go_sem],fun j=>by rw[hV];simp[go_sem],fun j hj=>⟨_,hnil j hj, ?_⟩,fun i j v u b hi hj _ hv _ hb=> ?_,by rw[hV];simp[go_sem,pol0],by rw[hV];simp[go_sem,pol0],by rw[hV];simp[go_sem,pol0],by rw[hV];simp[go_sem,pol0]⟩
 ·rcases(by omega:j=0\/j=1\/j=2\/j=3\/j=4\/j=5\/j=6)with rfl|rfl|rfl|rfl|rfl|rfl|rfl<;>exact World.ownsRow_nil _ _ _ _
 ·rw[hnil i hi]at hv;cases hv;cases hb
theorem RPar.polV {en B:Nat} {s:Ps} {W:World} (h:RPar en B s W) {v0 v1 v2 v3 v4 v5:Value} (c0:W.cell? ⟨B,0,none⟩=some v0) (c1:W.cell? ⟨B,1,none⟩=some v1) (c2:W.cell? ⟨B,2,none⟩=some v2) (c3:W.cell? ⟨B,3,none⟩=some v3) (c4:W.cell? ⟨B,4,none⟩=some v4) (c5:W.cell? ⟨B,5,none⟩=some v5):
  PolV W (fun _=>False) (.agg #[v0,v1,v2,v3,v4,v5,.bool s.pol.rel,.int .i64 s.pol.depth,.int .i64 s.pol.name,.int .i64 s.pol.value]) s.pol:=by
 have key: ∀j v,j<6->W.cell? ⟨B,j,none⟩=some v->Rx W (fun _=>False) v (fN s.pol j) (fS j) (fC s.pol j):=fun j v hj hv=>by
  obtain⟨u,hu,ho⟩:=h.row j (by omega);have e1:rC j=j:=by unfold rC;rw[if_neg (by omega)]
  have e2:rS j=fS j:=by unfold rS;rw[if_neg (by omega)]
  have e3:rN s j=fN s.pol j:=by unfold rN;rw[if_neg (by omega)]
  have e4:rX s j=fC s.pol j:=by unfold rX;rw[if_neg (by omega)]
  rw[e1,hv]at hu;cases hu;rw[e2,e3,e4]at ho;exact Rx.ofOwn ho (fun _ _ hx=>hx)
 exact⟨v0,v1,v2,v3,v4,v5,rfl,key 0 v0 (by omega) c0,key 1 v1 (by omega) c1,key 2 v2 (by omega) c2,key 3 v3 (by omega) c3,key 4 v4 (by omega) c4,key 5 v5 (by omega) c5⟩
theorem ze7 (en B:Nat) (k:Bs) (hk:k∈ze2) (s:Ps) (W:World) (h:RPar en B s W) (hs:PsSm s):
  Calls z2f 56 #[.pointer (some ⟨B,0,none⟩),.string ⟨k.toArray⟩] W (zc3 en B s W (nmR k s.rest s.pol)):=
 zsq (P:=fun k=>Calls z2f 56 #[.pointer (some ⟨B,0,none⟩),.string ⟨k.toArray⟩] W (zc3 en B s W (nmR k s.rest s.pol))) (zqj en B s W h hs) (zqi en B s W h hs) (zqh en B s W h hs) (zqg en B s W h hs) (zqf en B s W h hs) k hk
theorem zgu (en B:Nat) (k:Bs) (hk:k∈zdt) (s:Ps) (W:World) (h:RPar en B s W) (hs:PsSm s) (hnum: ∀x∈s.rest,x.kind=2->x.text.all digB=true/\x.text.length<=9):
  Calls z2f 58 #[.pointer (some ⟨B,0,none⟩),.string ⟨k.toArray⟩] W (zdz en B s W (sgR k s.rest s.pol s.told)):=
 zns (P:=fun k=>Calls z2f 58 #[.pointer (some ⟨B,0,none⟩),.string ⟨k.toArray⟩] W (zdz en B s W (sgR k s.rest s.pol s.told))) (zp9 en B s W h hs) (zmp en B s W h hs) (zmo en B s W h hs hnum) k hk
theorem isR_lt {l:List Lx} {i k:Nat} {ts:Bs} (h:isR l i k ts=true):i<l.length:=by
 unfold isR at h;rcases Nat.lt_or_ge i l.length with h1|h1
 ·exact h1
 ·rw[List.drop_eq_nil_of_le h1]at h;cases h
theorem zow {k:Bs} {l:List Lx} {p q:Pol} {n:Nat} (h:nmR k l p= .ok (n,q)):1<=n/\n<=l.length:=by
 unfold nmR at h;split at h
 ·cases h
 ·split at h
  ·cases h
  ·next ws hw=>
   cases h;unfold zbo at hw;split at hw
   ·cases hw
   ·next h9=>
    cases hw;have h8:=isR_lt (eq_true_of_ne_false (fun e=>h9 (.inr e)));omega
theorem zwi {k:Bs} {l:List Lx} {p q:Pol} {told told':List Bs} {n:Nat} (h:sgR k l p told= .ok (n,q,told')):1<=n/\n<=l.length:=by
 unfold sgR at h;split at h
 ·split at h
  ·cases h
  ·split at h
   ·cases h
   ·next hw=>
    have h9:=(zcw [] [1] 1 hw).1;split at h<;>cases h;simp at h9;omega
 ·split at h
  ·split at h
   ·cases h
   ·next hw=>
    have h9:=(zcw [] [1,1,3] 1 hw).1;split at h<;>cases h;simp at h9;omega
  ·split at h
   ·cases h
   ·split at h
    ·cases h
    ·next hw=>
     have h9:=(zcw [] [1,2] 1 hw).1;split at h
     ·cases h
     ·split at h<;>cases h;simp at h9;omega
def rLen (B:Nat) (W:World):Nat:=match W.cell? ⟨B,11,none⟩with
 |some (.slice _ n _)=>n
 |_=>0
theorem RPar.len {en B:Nat} {s:Ps} {W:World} (h:RPar en B s W):rLen B W=s.rest.length:=by
 obtain⟨A,c,hc,_⟩:=h.rest;unfold rLen;rw[hc]
theorem z1y (l:List Lx) (n:Nat):za6 (l.drop n)=(za6 l).drop (n*3):=by
 induction n generalizing l with
 |zero=>simp
 |succ n ih=>
  cases l with
  |nil=>simp[za6]
  |cons x r=>
   rw[List.drop_succ_cons,ih r];have:za6 (x::r)=x.cells++za6 r:=rfl;rw[this,show(n+1)*3=x.cells.length+n*3 by simp[Lx.cells];omega,List.drop_append,List.drop_of_length_le (show x.cells.length<=x.cells.length+n*3 by omega),List.nil_append,Nat.add_sub_cancel_left]
theorem Rd.lxdrop {W:World} {b off N c n:Nat} {l:List Lx} (h:Rd W (.slice (some ⟨b,off,none⟩) N c) l.length 3 (za6 l)) (hN:N=l.length) (hn:n<=l.length) (hl:1<=l.length):Rd W (.slice (some ⟨b,off+n*3,none⟩) (N-n) (c-n)) (l.drop n).length 3 (za6 (l.drop n)):=by
 subst hN;obtain⟨_,h2,A',c',e,h4⟩:=h;cases e;refine⟨zj8 _,by rw[z2n];omega,_,_,by rw[z2n],fun h0=> ?_⟩;obtain⟨b2,off2,h5,hb,hc⟩:=h4 (by omega);cases h5;refine⟨b,off+n*3,rfl,hb,fun j u hu=> ?_⟩;rw[z1y,List.getElem?_drop]at hu;have h9:=hc (n*3+j) u hu;rw[show off+n*3+j=off+(n*3+j) by omega];exact h9
theorem RPar.cut {en B n:Nat} {s:Ps} {W:World} (h:RPar en B s W) (hn:n<=s.rest.length) (hl:1<=s.rest.length): ∃b o c,W.cell? ⟨B,11,none⟩=some (.slice (some ⟨b,o,none⟩) s.rest.length c)/\s.rest.length<=c/\
  (c=n->RPar en B ⟨s.rest.drop n,s.pol,s.told⟩ (W.setCell ⟨B,11,none⟩ (.slice (some ⟨b,o,none⟩) 0 0))/\Below B W (W.setCell ⟨B,11,none⟩ (.slice (some ⟨b,o,none⟩) 0 0)))/\
  (RPar en B ⟨s.rest.drop n,s.pol,s.told⟩ (W.setCell ⟨B,11,none⟩ (.slice (some ⟨b,o+n*3,none⟩) (s.rest.length-n) (c-n)))/\Below B W (W.setCell ⟨B,11,none⟩ (.slice (some ⟨b,o+n*3,none⟩) (s.rest.length-n) (c-n)))):=by
 obtain⟨A,c,hc,hcl,A',c',he,_,hr,hbad⟩:=h.rest;cases he;obtain⟨b,o,rfl,_⟩:=Rd.lxAt hr 0 (by omega);have hbl:=hbad (by omega) b o none rfl;refine⟨b,o,c,hc,hcl,fun hcn=> ?_, ?_⟩
 ·have hz:s.rest.drop n=[]:=List.drop_eq_nil_of_le (by omega);refine h.setOne (i:=11) (s':=⟨s.rest.drop n,s.pol,s.told⟩) (.inr rfl) hc (fun j _=>⟨rfl,rfl⟩) (show ∃A c,_/\_/\_ from ?_) rfl rfl rfl rfl;rw[hz];exact⟨some ⟨b,o,none⟩,0,rfl,Nat.le_refl _,some ⟨b,o,none⟩,0,rfl,⟨fun e=>(by cases e),Nat.le_refl _⟩,Rd.empty,fun h0=>absurd h0 (Nat.lt_irrefl 0)⟩
 ·refine h.setOne (i:=11) (s':=⟨s.rest.drop n,s.pol,s.told⟩) (.inr rfl) hc (fun j _=>⟨rfl,rfl⟩) (show ∃A c,_/\_/\_ from ?_) rfl rfl rfl rfl;have h9:=Rd.lxdrop hr rfl hn hl;exact⟨some ⟨b,o+n*3,none⟩,c-n,by rw[z2n],by rw[z2n];omega,some ⟨b,o+n*3,none⟩,c-n,by rw[z2n],⟨fun e=>(by cases e),by show(s.rest.drop n).length<=c-n;rw[z2n];omega⟩,h9,fun _ b' o' s' he=>(by cases he;exact hbl)⟩
theorem rres {W:World} {tmps:Array Value} {O:Nat} {a k:Int} {u0 u1 u2 u3 u4 u5 u6 u7 u8 u9:Value} (h2:tmps.getD 2 undef= .pointer (some ⟨O,0,none⟩)) (h3:tmps.getD 3 undef= .int .i64 a) (h4:tmps.getD 4 undef= .int .i64 k)
  (hO:OutC W O u0 u1 u2 u3 u4 u5 u6 u7 u8 u9):
  (results Tryz.f22 tmps).run z2f W= .ok (.tuple #[.agg #[u0,u1,u2,u3,u4,u5,u6,u7,u8,u9],.int .i64 a,.int .i64 k]) W:=by
 obtain⟨c0,c1,c2,c3,c4,c5,c6,c7,c8,c9,fz⟩:=hO;simp only[Array.getD_eq_getD_getElem?]at h2 h3 h4;simp[results,Tryz.results22,go_sem,h2,h3,h4,c0,c1,c2,c3,c4,c5,c6,c7,c8,c9]
end Go.Proofs.YtiikamobcmgekaaGreatDoor
