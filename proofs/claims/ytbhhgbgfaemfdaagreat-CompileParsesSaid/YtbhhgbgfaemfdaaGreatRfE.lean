/- The walks of the reference's parser: a statement of one thing: force, limit. (written by gen_rsingle.py) -/
import Derived.Test.YtbhhgbgfaemfdaaGreatRfC
import Derived.Test.YtbhhgbgfaemfdaaGreatPolU
namespace Go.Proofs.YtbhhgbgfaemfdaaGreat
set_option maxRecDepth 100000
set_option maxHeartbeats 4000000
open Go.RowKit
attribute [local go_sem] Oper.semAt_some
theorem rfigure_any (c:UInt8) (w:World) (h:digB c=true):Calls Tryz.prog 153 #[.int .u8 c.toNat] w fun e w'=>e= .returned (.int .i64 ((c.toNat-48:Nat):Int))/\w=w':=by
 have HD:=Lib.hid (h ▸ rdigit_any c w)
 have hc:=h
 unfold digB at hc
 simp only[decide_eq_true_eq]at hc
 have hc9:=UInt8.toNat_lt c
 have hw8:IntKind.u8.wrap ((c.toNat:Int)-48)=(c.toNat:Int)-48:=IntWalk.u8_in _ (by omega)
 have hw64:IntKind.i64.wrap ((c.toNat:Int)-48)=(c.toNat:Int)-48:=by rw[IntKind.wrap_i64];omega
 have hcs:((c.toNat-48:Nat):Int)=(c.toNat:Int)-48:=by omega
 rw[hcs]
 clear hcs
 clear h
 generalize c.toNat=k at*
 go_enter Tryz.func153,Tryz.ntmps153
 go_wp2_with(go_at_call 125;(with_reducible refine HD.out.mono ?_);rintro e w' ⟨rfl,rfl⟩)
 go_ret
 exact⟨by first|rfl|(simp;omega),rfl⟩
theorem rnumber_any (s:Bs) (w:World) (hal:s.all digB=true) (h9:s.length<=9):Calls Tryz.prog 136 #[.string ⟨s.toArray⟩,.int .i64 10,.int .i64 1000000000] w fun e w'=> ∃b,e= .returned (.tuple #[.int .i64 (numT s),.bool b])/\w=w':=by
 have hmx:Tryz.prog.follows .mixedOrders=true:=by kernel_rfl
 have HV:Hid (numT s=(valN s:Int)):=valN_num s hal
 by_cases hne:s=[]
 ·subst hne
  go_enter Tryz.func136,Tryz.ntmps136
  go_wp2_with fail
  go_ret2
  exact⟨false,rfl,rfl⟩
 obtain⟨S,hS⟩: ∃S:ByteArray,⟨s.toArray⟩=S:=⟨_,rfl⟩
 have hd0:S.data.toList=s:=by rw[<-hS]
 have hsz:S.size=s.length:=by rw[<-hS];rfl
 have hemp: ¬S.toList=[]:=by rw[ByteArray.toList_eq,hd0];exact hne
 have hemp2:S.toList.isEmpty=false:=by rw[ba_emp,hd0];simpa using hne
 have HZ:=Lib.hid hsz
 have HA:=Lib.hid hal
 have H0:=Lib.hid hd0
 have hS9:S.size<=9:=by omega
 have hmax:max (1000000000:Int) 0=1000000000:=by decide
 rw[hS]
 clear hsz hd0 hS hne hal
 go_enter Tryz.func136,Tryz.ntmps136
 go_wp2_with fail
 go_loopw [8,9] (fun nv i wr=> ∃k:Nat,k<=S.size/\i= .int .i64 (k:Nat)/\nv= .int .u64 (valN (s.take k):Nat)/\wr=w) (fun _ i _=>S.size-(intOf i).toNat)
 case atStart=>exact⟨0,by omega,rfl,by simp[valN],rfl⟩
 case round=>
  obtain⟨k,hk,rfl,rfl,rfl⟩:=hrel
  have hv9:valN (s.take k)<=999999999:=valN_small _ (by rw[List.all_eq_true];exact fun c hc=>List.all_eq_true.1 HA.out c (List.mem_of_mem_take hc)) (by rw[List.length_take];omega)
  by_cases hlt:k<S.size
  ·have hkl:k<s.length:=by rw[<-HZ.out];exact hlt
   have hat:=at_bsN S s H0.out k hlt
   have hdg:digB S[k]=true:=by rw[hat];exact List.all_eq_true.1 HA.out _ (List.getElem_mem hkl)
   have HD:=Lib.hid (hdg ▸ rdigit_any S[k] wr)
   have HF:=Lib.hid (rfigure_any S[k] wr hdg)
   have HS:Hid (valN (s.take (k+1))=valN (s.take k)*10+(S[k].toNat-48)):=by show _=_;rw[List.take_succ_eq_append_getElem hkl,valN_snoc,hat]
   have hc9:S[k].toNat-48<=9:=by
    have:=hdg
    unfold digB at this
    simp only[decide_eq_true_eq]at this
    omega
   generalize valN (s.take k)=n at*
   obtain⟨d,hd⟩: ∃d,S[k].toNat-48=d:=⟨_,rfl⟩
   rw[hd]at HF HS hc9
   have hm1:IntKind.u64.wrap ((n:Int)*10)=(n:Int)*10:=IntWalk.u64_in _ (by omega)
   have hm2:IntKind.u64.wrap ((n:Int)*10+(d:Int))=(n:Int)*10+(d:Int):=IntWalk.u64_in _ (by omega)
   have hm3:IntKind.u64.wrap (d:Int)=(d:Int):=IntWalk.u64_in _ (by omega)
   have hlt58:decide ((n:Int)<288230376151711744)=true:=by simp;omega
   clear hat hdg
   go_wp2_with(first|(go_at_call 125;(with_reducible refine HD.out.mono ?_);rintro e w' ⟨rfl,rfl⟩)|(go_at_call 153;(with_reducible refine HF.out.mono ?_);rintro e w' ⟨rfl,rfl⟩))
   go_roundw
   case rel=>exact⟨k+1,by omega,by go_num,by rw[HS.out];first|rfl|(simp;omega),by first|rfl|trivial⟩
   case measure=>simp[intOf];omega
  ·have hkn:s.take k=s:=List.take_of_length_le (by rw[<-HZ.out];omega)
   rw[hkn]at hv9 ⊢
   generalize valN s=n at*
   have c1:decide ((1000000000:Int)<n)=false:=by simp;omega
   have c2:decide ((288230376151711744:Int)<=n)=false:=by simp;omega
   have hw:IntKind.i64.wrap (n:Int)=(n:Int):=by rw[IntKind.wrap_i64];omega
   clear hkn
   go_wp2_with fail
   go_ret2
   exact⟨true,by rw[HV.out];first|rfl|simp,rfl⟩
def SingleEnd (en B:Nat) (s:Ps) (W:World) (r:Except (Nat × Nat) (Nat × Pol × List Bs)) (e:Ending) (w':World):Prop:=match r with
 | .error (c,i)=>e= .returned (.tuple #[.int .i64 0,.int .i64 c,.int .i64 i])/\(∃s',s'.rest=s.rest/\RPar en B s' w')/\Below B W w'
 | .ok (n,q,t)=>e= .returned (.tuple #[.int .i64 n,.int .i64 0,.int .i64 0])/\RPar en B ⟨s.rest,q,t⟩ w'/\Below B W w'
theorem textR_at {l:List Lx} {i:Nat} (h:i<l.length):l[i].text=textR l i:=by unfold textR;rw[List.drop_eq_getElem_cons h]
theorem lx_texts {en B:Nat} {s:Ps} {W:World} (h:RPar en B s W) {i:Nat} (hi:i<s.rest.length): ∃A c b o,W.cell? ⟨B,11,none⟩=some (.slice A s.rest.length c)/\A=some ⟨b,o,none⟩/\b<W.heap.size/\ ∀j,j<s.rest.length->W.cell? ⟨b,o+j*3+2,none⟩=some (.string ⟨(textR s.rest j).toArray⟩):=by
 obtain⟨A,c,hc,_,A',c',he,_,hrd,_⟩:=h.rest
 cases he
 obtain⟨b1,o1,e1,hb1,_⟩:=Rd.lxAt hrd i hi
 refine⟨A,c,b1,o1,hc,e1,hb1,fun j hj=> ?_⟩
 obtain⟨b2,o2,e2,_,_,_,x2⟩:=Rd.lxAt hrd j hj
 rw[e1]at e2
 cases e2
 rw[<-textR_at hj]
 exact x2
theorem rsingle_rel (en B:Nat) (s:Ps) (W:World) (h:RPar en B s W) (hs:PsSm s):
  Calls Tryz.prog 88 #[.pointer (some ⟨B,0,none⟩),.string ⟨relT.toArray⟩] W (SingleEnd en B s W (sgR relT s.rest s.pol s.told)):=by
 have hmx:Tryz.prog.follows .mixedOrders=true:=by kernel_rfl
 have HP:=Lib.hid h
 have hlt:=h.lt
 have htold:s.told.length<=20000:=by have:=hs.told;omega
 obtain⟨kd,hkd⟩: ∃kd,(⟨relT.toArray⟩:ByteArray)=kd:=⟨_,rfl⟩
 have hkl:kd.toList=[114,101,108,97,116,105,118,101]:=by rw[<-hkd,ByteArray.toList_eq];rfl
 obtain⟨R,hR⟩: ∃R,sgR relT s.rest s.pol s.told=R:=⟨_,rfl⟩
 obtain⟨D1,hD1⟩: ∃D,isR s.rest 1 1 yesT=D:=⟨_,rfl⟩
 obtain⟨D2,hD2⟩: ∃D,isR s.rest 1 1 noT=D:=⟨_,rfl⟩
 have HN:Hid (R=if(!D1&& !D2)=true then .error (2,1)
  else match wantsR s.rest [1]with
   |some i=> .error (2,i)
   |none=>if relT∈s.told then .error (5,0)else .ok (3,{s.pol with rel:=decide (textR s.rest 1=yesT)},relT::s.told)):=by show _=_;rw[<-hR,<-hD1,<-hD2];rfl
 have HI1:=Lib.hid (show Calls Tryz.prog 132 #[.pointer (some ⟨B,0,none⟩),.int .i64 1,.int .i64 1,.string ⟨#[121,101,115]⟩] W fun e w'=>e= .returned (.bool D1)/\W=w' from hD1 ▸ ris_any en B s W h 1 1 yesT)
 have HI2:=Lib.hid (show Calls Tryz.prog 132 #[.pointer (some ⟨B,0,none⟩),.int .i64 1,.int .i64 1,.string ⟨#[110,111]⟩] W fun e w'=>e= .returned (.bool D2)/\W=w' from hD2 ▸ ris_any en B s W h 1 1 noT)
 have hin:(D1||D2)=true->1<s.rest.length:=by
  intro hd
  rcases Bool.or_eq_true_iff.1 hd with h|h
  ·exact isR_len (hD1.trans h)
  ·exact isR_len (hD2.trans h)
 have HW:=Lib.hid (fun W' (hb:Below W.heap.size W W') v (hv:Rd W' v [1].length 1 ([1].map ivN))=>show Calls Tryz.prog 134 #[.pointer (some ⟨B,0,none⟩),v] W' _ from rwants_any en B s W' (h.grown hb) v [1] hv (by simp))
 have HO:=Lib.hid (fun W' (hb:Below W.heap.size W W')=>show Calls Tryz.prog 135 #[.pointer (some ⟨B,0,none⟩),.string kd] W' _ from hkd ▸ ronce_any en B relT s W' (h.grown hb) htold)
 rw[hkd,hR]
 clear hR hkd hD1 hD2 h hs
 by_cases hh:(D1||D2)=true
 rotate_left
 ·obtain⟨rfl,rfl⟩:=Bool.or_eq_false_iff.1 (Bool.eq_false_iff.2 hh)
  have HR:Hid (R= .error (2,1)):=HN.out
  clear HN hh hin HW HO
  go_enter Tryz.func88,Tryz.ntmps88
  go_wp2_with(first|(go_at_call 132;(with_reducible refine HI1.out.mono ?_);rintro e w' ⟨rfl,rfl⟩)|(go_at_call 132;(with_reducible refine HI2.out.mono ?_);rintro e w' ⟨rfl,rfl⟩))
  go_ret3
  rw[HR.out]
  exact⟨rfl,⟨s,rfl,HP.out⟩,Below.refl _ _⟩
 have hlen:=hin hh
 have HN2:Hid (R=match wantsR s.rest [1]with
   |some i=> .error (2,i)
   |none=>if relT∈s.told then .error (5,0)else .ok (3,{s.pol with rel:=decide (textR s.rest 1=yesT)},relT::s.told)):=by
  show _=_
  rw[HN.out,if_neg (by revert hh;cases D1<;>cases D2<;>simp)]
 clear HN hin
 obtain⟨X,hX⟩: ∃X,wantsR s.rest [1]=X:=⟨_,rfl⟩
 rw[hX]at HN2 HW
 clear hX
 cases X with
 |some i=>
  have HR:Hid (R= .error (2,i)):=HN2.out
  have HW2:=Lib.hid (fun W' hb v hv=>show Calls Tryz.prog 134 #[.pointer (some ⟨B,0,none⟩),v] W' fun e w'=>e= .returned (.int .i64 (i:Int))/\W'=w' from HW.out W' hb v hv)
  have hi0:(0:Int)<=(i:Int):=by omega
  clear HN2 HW HO
  revert hh
  cases D1<;>cases D2<;>intro hh
  ·cases hh
  all_goals
   clear hh
   go_enter Tryz.func88,Tryz.ntmps88
   go_wp2_with(first|(go_at_call 132;(with_reducible refine HI1.out.mono ?_);rintro e w' ⟨rfl,rfl⟩)|(go_at_call 132;(with_reducible refine HI2.out.mono ?_);rintro e w' ⟨rfl,rfl⟩)|(go_at_call 134;(refine(HW2.out _ bel _ (litI_rd (ts:=[1]) (by simp) rfl rfl (by simp))).mono ?_);rintro e w' ⟨rfl,rfl⟩))
   go_ret3
   rw[HR.out]
   exact⟨rfl,⟨s,rfl,HP.out.grown bel⟩,bel⟩
 |none=>
  have HW2:=Lib.hid (fun W' hb v hv=>show Calls Tryz.prog 134 #[.pointer (some ⟨B,0,none⟩),v] W' fun e w'=>e= .returned (.int .i64 (-1))/\W'=w' from HW.out W' hb v hv)
  have HN3:Hid (R=if relT∈s.told then .error (5,0)else .ok (3,{s.pol with rel:=decide (textR s.rest 1=yesT)},relT::s.told)):=HN2.out
  clear HN2 HW
  by_cases hm:relT∈s.told
  ·have HR:Hid (R= .error (5,0)):=by show _=_;rw[HN3.out,if_pos hm]
   rw[decide_eq_true hm,if_pos hm]at HO
   clear HN3 hm
   revert hh
   cases D1<;>cases D2<;>intro hh
   ·cases hh
   all_goals
    clear hh
    go_enter Tryz.func88,Tryz.ntmps88
    go_wp2_with(first|(go_at_call 132;(with_reducible refine HI1.out.mono ?_);rintro e w' ⟨rfl,rfl⟩)|(go_at_call 132;(with_reducible refine HI2.out.mono ?_);rintro e w' ⟨rfl,rfl⟩)|(go_at_call 134;(refine(HW2.out _ bel _ (litI_rd (ts:=[1]) (by simp) rfl rfl (by simp))).mono ?_);rintro e w' ⟨rfl,rfl⟩)|(go_at_call 135;(with_reducible refine(HO.out _ bel).mono ?_);rintro e W2 ⟨rfl,hp2,hb2,hq2⟩;clear hq2))
    go_ret3
    rw[HR.out]
    exact⟨rfl,⟨s,rfl,hp2⟩,Below.trans bel hb2⟩
  ·have HR:Hid (R= .ok (3,{s.pol with rel:=decide (textR s.rest 1=yesT)},relT::s.told)):=by show _=_;rw[HN3.out,if_neg hm]
   rw[decide_eq_false hm,if_neg hm]at HO
   clear HN3 hm
   have hfl:=field_text
   revert hh
   cases D1<;>cases D2<;>intro hh
   ·cases hh
   all_goals
    clear hh
    go_enter Tryz.func88,Tryz.ntmps88
    go_upto_region 10 with(first|(go_at_call 132;(with_reducible refine HI1.out.mono ?_);rintro e w' ⟨rfl,rfl⟩)|(go_at_call 132;(with_reducible refine HI2.out.mono ?_);rintro e w' ⟨rfl,rfl⟩)|(go_at_call 134;(refine(HW2.out _ bel _ (litI_rd (ts:=[1]) (by simp) rfl rfl (by simp))).mono ?_);rintro e w' ⟨rfl,rfl⟩)|(go_at_call 135;(with_reducible refine(HO.out _ bel).mono ?_);rintro e W2 ⟨rfl,hp2,hb2,hq2⟩;clear hq2;have HP2:=Lib.hid hp2;have HB2:=Lib.hid (Below.trans (show Below B W _ from bel) hb2);clear hp2 hb2))
    obtain⟨A,c,b1,o1,hc,rfl,hb1,hx⟩:=lx_texts HP2.out (i:=1) hlen
    have hx2:W2.cell? ⟨b1,o1+3+2,none⟩=some (.string ⟨(textR s.rest 1).toArray⟩):=hx 1 hlen
    clear hx
    have hyes:(⟨(textR s.rest 1).toArray⟩:ByteArray).toList=textR s.rest 1:=by rw[ByteArray.toList_eq]
    obtain⟨D,hD⟩: ∃D,decide (textR s.rest 1=yesT)=D:=⟨_,rfl⟩
    have hbq:((⟨(textR s.rest 1).toArray⟩:ByteArray).toList==([121,101,115]:Bs))=D:=by rw[hyes,<-hD];show(textR s.rest 1==yesT)=_;rw[Bool.eq_iff_iff];simp
    have c6:=HP2.out.c6
    have fz6:=HP2.out.fz 6
    have hl2:=HP2.out.lt
    rw[hD]at HR
    generalize(⟨(textR s.rest 1).toArray⟩:ByteArray)=tx at*
    have hc':W2.cell? ⟨B,11,none⟩=some (.slice (some ⟨b1,o1,none⟩) s.rest.length c):=hc
    generalize s.rest.length=nl at*
    have hL1:(1:Int)<nl:=by omega
    have c6':W2.cell? ⟨B,6,none⟩=some (.bool s.pol.rel):=c6
    clear hyes hD hc c6
    cases D
    all_goals
     go_wp2_with fail
     go_ret3
     rw[HR.out]
     first
      |(have h9:=HP2.out.setOne (i:=6) (s':=⟨s.rest,{s.pol with rel:=true},relT::s.told⟩) (v:= .bool true) (.inl ⟨by omega,by omega⟩) c6' (fun j hj=>⟨rfl,rfl⟩) rfl rfl rfl rfl rfl;exact⟨rfl,h9.1,HB2.out.trans h9.2⟩)
      |(have h9:=HP2.out.setOne (i:=6) (s':=⟨s.rest,{s.pol with rel:=false},relT::s.told⟩) (v:= .bool false) (.inl ⟨by omega,by omega⟩) c6' (fun j hj=>⟨rfl,rfl⟩) rfl rfl rfl rfl rfl;exact⟨rfl,h9.1,HB2.out.trans h9.2⟩)
def addF (s:Ps) (f:Frc):Ps:=⟨s.rest,{s.pol with forces:=s.pol.forces++[f]},s.told⟩
theorem addF_row (s:Ps) (f:Frc):rN (addF s f) 5=rN s 5+1/\rX (addF s f) 5=rX s 5++[sv f.tag,sv f.name,sv f.value]:=by
 constructor
 ·simp[rN,addF,fN]
 ·simp[rX,addF,fC,Frc.cells]
theorem addF_rest (s:Ps) (f:Frc) (i:Nat) (_hi:i<7) (h5:i≠5):rN (addF s f) i=rN s i/\rX (addF s f) i=rX s i:=by
 unfold rN rX
 split
 ·exact⟨rfl,rfl⟩
 ·match i,h5 with
  |0,_=>exact⟨rfl,rfl⟩
  |1,_=>exact⟨rfl,rfl⟩
  |2,_=>exact⟨rfl,rfl⟩
  |3,_=>exact⟨rfl,rfl⟩
  |4,_=>exact⟨rfl,rfl⟩
  |5,h=>exact absurd rfl h
  |i+6,_=>omega
theorem rsingle_force (en B:Nat) (s:Ps) (W:World) (h:RPar en B s W) (hs:PsSm s):
  Calls Tryz.prog 88 #[.pointer (some ⟨B,0,none⟩),.string ⟨forceT.toArray⟩] W (SingleEnd en B s W (sgR forceT s.rest s.pol s.told)):=by
 have hmx:Tryz.prog.follows .mixedOrders=true:=by kernel_rfl
 have HP:=Lib.hid h
 have hlt:=h.lt
 have htold:s.told.length<=20000:=by have:=hs.told;omega
 have hrow5:=hs.rows 5
 have HTx:Hid (∀i,(textR s.rest i).length<=10000):=fun i=>textR_le (fun x hx=>(hs.txt x hx).1)
 obtain⟨kd,hkd⟩: ∃kd,(⟨forceT.toArray⟩:ByteArray)=kd:=⟨_,rfl⟩
 have hkl:kd.toList=[102,111,114,99,101]:=by rw[<-hkd,ByteArray.toList_eq];rfl
 obtain⟨R,hR⟩: ∃R,sgR forceT s.rest s.pol s.told=R:=⟨_,rfl⟩
 have HN:Hid (R=match wantsR s.rest [1,1,3]with
  |some i=> .error (2,i)
  |none=>if(forceT++[32]++textR s.rest 1++[32]++textR s.rest 2)∈s.told then .error (5,0)else .ok (5,(addF s ⟨textR s.rest 1,textR s.rest 2,textR s.rest 3⟩).pol,(forceT++[32]++textR s.rest 1++[32]++textR s.rest 2)::s.told)):=by show _=_;rw[<-hR];rfl
 have HW:=Lib.hid (fun W' (hb:Below W.heap.size W W') v (hv:Rd W' v [1,1,3].length 1 ([1,1,3].map ivN))=>show Calls Tryz.prog 134 #[.pointer (some ⟨B,0,none⟩),v] W' _ from rwants_any en B s W' (h.grown hb) v [1,1,3] hv (by simp))
 have hwl:wantsR s.rest [1,1,3]=none->4<s.rest.length:=fun hw=>by have:=(wantsF_app [] [1,1,3] 1 hw).1;simpa using this
 rw[hkd,hR]
 clear hR hkd h hs
 obtain⟨X,hX⟩: ∃X,wantsR s.rest [1,1,3]=X:=⟨_,rfl⟩
 rw[hX]at HN HW hwl
 clear hX
 cases X with
 |some i=>
  have HR:Hid (R= .error (2,i)):=HN.out
  have HW2:=Lib.hid (fun W' hb v hv=>show Calls Tryz.prog 134 #[.pointer (some ⟨B,0,none⟩),v] W' fun e w'=>e= .returned (.int .i64 (i:Int))/\W'=w' from HW.out W' hb v hv)
  have hi0:(0:Int)<=(i:Int):=by omega
  clear HN HW hwl HTx
  go_enter Tryz.func88,Tryz.ntmps88
  go_wp2_with(go_at_call 134;(refine(HW2.out _ bel _ (litI_rd (ts:=[1,1,3]) (by simp) rfl rfl (by simp))).mono ?_);rintro e w' ⟨rfl,rfl⟩)
  go_ret3
  rw[HR.out]
  exact⟨rfl,⟨s,rfl,HP.out.grown bel⟩,bel⟩
 |none=>
  have hlen:=hwl rfl
  have HW2:=Lib.hid (fun W' hb v hv=>show Calls Tryz.prog 134 #[.pointer (some ⟨B,0,none⟩),v] W' fun e w'=>e= .returned (.int .i64 (-1))/\W'=w' from HW.out W' hb v hv)
  have HN3:Hid (R=if(forceT++[32]++textR s.rest 1++[32]++textR s.rest 2)∈s.told then .error (5,0)else .ok (5,(addF s ⟨textR s.rest 1,textR s.rest 2,textR s.rest 3⟩).pol,(forceT++[32]++textR s.rest 1++[32]++textR s.rest 2)::s.told)):=HN.out
  clear HN HW hwl
  go_enter Tryz.func88,Tryz.ntmps88
  go_upto_region 16 with(go_at_call 134;(refine(HW2.out _ bel _ (litI_rd (ts:=[1,1,3]) (by simp) rfl rfl (by simp))).mono ?_);rintro e w' ⟨rfl,rfl⟩)
  refine name_world fun W1 hW1=> ?_
  have hb1:Below W.heap.size W W1:=by rw[hW1];exact bel
  have HB1:=Lib.hid hb1
  have HP1:=Lib.hid (HP.out.grown hb1)
  clear hW1 hb1 HW2 HP
  obtain⟨A,c,b1,o1,hc,rfl,hbl,hx⟩:=lx_texts HP1.out (i:=1) (by omega)
  have x1:=hx 1 (by omega)
  have x2:=hx 2 (by omega)
  have x3:=hx 3 (by omega)
  have hx1:W1.cell? ⟨b1,o1+3+2,none⟩=some (.string ⟨(textR s.rest 1).toArray⟩):=x1
  have hx2:W1.cell? ⟨b1,o1+6+2,none⟩=some (.string ⟨(textR s.rest 2).toArray⟩):=x2
  have hx3:W1.cell? ⟨b1,o1+9+2,none⟩=some (.string ⟨(textR s.rest 3).toArray⟩):=x3
  obtain⟨tx,htx⟩: ∃t,textR s.rest 1=t:=⟨_,rfl⟩
  obtain⟨ty,hty⟩: ∃t,textR s.rest 2=t:=⟨_,rfl⟩
  obtain⟨tz,htz⟩: ∃t,textR s.rest 3=t:=⟨_,rfl⟩
  have l1:tx.length<=10000:=by rw[<-htx];exact HTx.out 1
  have l2:ty.length<=10000:=by rw[<-hty];exact HTx.out 2
  rw[htx]at hx1 HN3
  rw[hty]at hx2 HN3
  rw[htz]at hx3 HN3
  obtain⟨what,hwh⟩: ∃t,forceT++[32]++tx++[32]++ty=t:=⟨_,rfl⟩
  have hwe:(⟨what.toArray⟩:ByteArray)=⟨#[102,111,114,99,101,32]⟩++⟨tx.toArray⟩++⟨#[32]⟩++⟨ty.toArray⟩:=by
   refine ba_ext ?_
   rw[<-hwh]
   simp[forceT]
  rw[hwh]at HN3
  have HO:=Lib.hid (fun W' (hb:Below W1.heap.size W1 W')=>show Calls Tryz.prog 135 #[.pointer (some ⟨B,0,none⟩),.string (⟨#[102,111,114,99,101,32]⟩++⟨tx.toArray⟩++⟨#[32]⟩++⟨ty.toArray⟩)] W' _ from hwe ▸ ronce_any en B what s W' (HP1.out.grown hb) htold)
  have s1:(⟨tx.toArray⟩:ByteArray).size<=10000:=by show tx.toArray.size<=_;simpa using l1
  have s2:(⟨ty.toArray⟩:ByteArray).size<=10000:=by show ty.toArray.size<=_;simpa using l2
  have E1:Hid (sv tx= .string ⟨tx.toArray⟩):=rfl
  have E2:Hid (sv ty= .string ⟨ty.toArray⟩):=rfl
  have E3:Hid (sv tz= .string ⟨tz.toArray⟩):=rfl
  generalize(⟨tx.toArray⟩:ByteArray)=bx at*
  generalize(⟨ty.toArray⟩:ByteArray)=bY at*
  generalize(⟨tz.toArray⟩:ByteArray)=bz at*
  clear hx x1 x2 x3 htx hty htz hwh hwe HTx l1 l2
  have hl1:=HP1.out.lt
  generalize hnl:s.rest.length=nl at*
  have n1:(1:Int)<nl:=by omega
  have n2:(2:Int)<nl:=by omega
  have n3:(3:Int)<nl:=by omega
  refine wp_region_row 23 [(0,true),(1,true),(2,true),(3,true),(4,true),(5,true),(6,true),(7,true),(8,true),(9,true),(10,true),(11,true),(12,true),(13,true),(14,true),(15,true),(16,true),(17,true),(18,true),(19,true),(20,true),(21,true),(22,false)] (fun V=>V.cell? ⟨B,11,none⟩=some (.slice (some ⟨b1,o1,none⟩) nl c)/\V.cell? ⟨b1,o1+3+2,none⟩=some (.string bx)/\V.cell? ⟨b1,o1+6+2,none⟩=some (.string bY)/\V.cell? ⟨b1,o1+9+2,none⟩=some (.string bz)) hmx (by kernel_rfl) (by kernel_rfl) (by kernel_rfl) (by decide) rfl (fun c a d v w h=>by obtain⟨x,y⟩:=(h:_/\_);cases d<;>exact⟨x,y⟩) (by kernel_rfl) (by exact⟨hc,hx1,hx2,hx3⟩) ?_
  refine wpRow_readD (v:= .pointer (some ⟨B,0,none⟩)) 53 rfl rfl rfl (fun W hW=>by simp[execOp,go_sem]) ?_
  simp only[Act.put,List.setIfInBounds_toArray,List.set_cons_succ,List.set_cons_zero]
  refine wpRow_readD (v:= .pointer (some ⟨B,0,none⟩)) 54 rfl rfl rfl (fun W hW=>by simp[execOp,go_sem]) ?_
  simp only[Act.put,List.setIfInBounds_toArray,List.set_cons_succ,List.set_cons_zero]
  refine wpRow_readD (v:= .pointer (some ⟨B,11,none⟩)) 55 rfl rfl rfl (fun W hW=>by simp[execOp,go_sem]) ?_
  simp only[Act.put,List.setIfInBounds_toArray,List.set_cons_succ,List.set_cons_zero]
  refine wpRow_readD (v:= .slice (some ⟨b1,o1,none⟩) nl c) 56 rfl rfl rfl (fun W hW=>by simp[execOp,go_sem,hW.1]) ?_
  simp only[Act.put,List.setIfInBounds_toArray,List.set_cons_succ,List.set_cons_zero]
  refine wpRow_readD (v:= .pointer (some ⟨b1,o1+3,none⟩)) 57 rfl rfl rfl (fun W hW=>by simp[execOp,go_sem,n1]) ?_
  simp only[Act.put,List.setIfInBounds_toArray,List.set_cons_succ,List.set_cons_zero]
  refine wpRow_readD (v:= .pointer (some ⟨b1,o1+3+2,none⟩)) 58 rfl rfl rfl (fun W hW=>by simp[execOp,go_sem]) ?_
  simp only[Act.put,List.setIfInBounds_toArray,List.set_cons_succ,List.set_cons_zero]
  refine wpRow_readD (v:= .string bx) 59 rfl rfl rfl (fun W hW=>by simp[execOp,go_sem,hW.2.1]) ?_
  simp only[Act.put,List.setIfInBounds_toArray,List.set_cons_succ,List.set_cons_zero]
  refine wpRow_readD (v:= .pointer (some ⟨B,0,none⟩)) 60 rfl rfl rfl (fun W hW=>by simp[execOp,go_sem]) ?_
  simp only[Act.put,List.setIfInBounds_toArray,List.set_cons_succ,List.set_cons_zero]
  refine wpRow_readD (v:= .pointer (some ⟨B,0,none⟩)) 61 rfl rfl rfl (fun W hW=>by simp[execOp,go_sem]) ?_
  simp only[Act.put,List.setIfInBounds_toArray,List.set_cons_succ,List.set_cons_zero]
  refine wpRow_readD (v:= .pointer (some ⟨B,11,none⟩)) 62 rfl rfl rfl (fun W hW=>by simp[execOp,go_sem]) ?_
  simp only[Act.put,List.setIfInBounds_toArray,List.set_cons_succ,List.set_cons_zero]
  refine wpRow_readD (v:= .slice (some ⟨b1,o1,none⟩) nl c) 63 rfl rfl rfl (fun W hW=>by simp[execOp,go_sem,hW.1]) ?_
  simp only[Act.put,List.setIfInBounds_toArray,List.set_cons_succ,List.set_cons_zero]
  refine wpRow_readD (v:= .pointer (some ⟨b1,o1+6,none⟩)) 64 rfl rfl rfl (fun W hW=>by simp[execOp,go_sem,n2]) ?_
  simp only[Act.put,List.setIfInBounds_toArray,List.set_cons_succ,List.set_cons_zero]
  refine wpRow_readD (v:= .pointer (some ⟨b1,o1+6+2,none⟩)) 65 rfl rfl rfl (fun W hW=>by simp[execOp,go_sem]) ?_
  simp only[Act.put,List.setIfInBounds_toArray,List.set_cons_succ,List.set_cons_zero]
  refine wpRow_readD (v:= .string bY) 66 rfl rfl rfl (fun W hW=>by simp[execOp,go_sem,hW.2.2.1]) ?_
  simp only[Act.put,List.setIfInBounds_toArray,List.set_cons_succ,List.set_cons_zero]
  refine wpRow_readD (v:= .pointer (some ⟨B,0,none⟩)) 67 rfl rfl rfl (fun W hW=>by simp[execOp,go_sem]) ?_
  simp only[Act.put,List.setIfInBounds_toArray,List.set_cons_succ,List.set_cons_zero]
  refine wpRow_readD (v:= .pointer (some ⟨B,0,none⟩)) 68 rfl rfl rfl (fun W hW=>by simp[execOp,go_sem]) ?_
  simp only[Act.put,List.setIfInBounds_toArray,List.set_cons_succ,List.set_cons_zero]
  refine wpRow_readD (v:= .pointer (some ⟨B,11,none⟩)) 69 rfl rfl rfl (fun W hW=>by simp[execOp,go_sem]) ?_
  simp only[Act.put,List.setIfInBounds_toArray,List.set_cons_succ,List.set_cons_zero]
  refine wpRow_readD (v:= .slice (some ⟨b1,o1,none⟩) nl c) 70 rfl rfl rfl (fun W hW=>by simp[execOp,go_sem,hW.1]) ?_
  simp only[Act.put,List.setIfInBounds_toArray,List.set_cons_succ,List.set_cons_zero]
  refine wpRow_readD (v:= .pointer (some ⟨b1,o1+9,none⟩)) 71 rfl rfl rfl (fun W hW=>by simp[execOp,go_sem,n3]) ?_
  simp only[Act.put,List.setIfInBounds_toArray,List.set_cons_succ,List.set_cons_zero]
  refine wpRow_readD (v:= .pointer (some ⟨b1,o1+9+2,none⟩)) 72 rfl rfl rfl (fun W hW=>by simp[execOp,go_sem]) ?_
  simp only[Act.put,List.setIfInBounds_toArray,List.set_cons_succ,List.set_cons_zero]
  refine wpRow_readD (v:= .string bz) 73 rfl rfl rfl (fun W hW=>by simp[execOp,go_sem,hW.2.2.2]) ?_
  simp only[Act.put,List.setIfInBounds_toArray,List.set_cons_succ,List.set_cons_zero]
  refine wpRow_readD (v:= .agg #[.string bx,.string bY,.string bz]) 74 rfl rfl rfl (fun W hW=>by simp[execOp,go_sem]) ?_
  simp only[Act.put,List.setIfInBounds_toArray,List.set_cons_succ,List.set_cons_zero]
  refine wpRow_op rfl rfl fun Kc hKc=> ?_
  unfold Oper.wp
  simp[execOp,go_sem]
  apply hKc
  have hb6: ∀x e,Below W1.heap.size W1 (W1.drew.alloc (.cells x e)):=fun x e=>bel
  refine⟨⟨((hb6 _ _).cell (p:=⟨B,11,none⟩) hl1).trans hc,((hb6 _ _).cell (p:=⟨b1,_,none⟩) hbl).trans hx1,((hb6 _ _).cell (p:=⟨b1,_,none⟩) hbl).trans hx2,((hb6 _ _).cell (p:=⟨b1,_,none⟩) hbl).trans hx3⟩, ?_⟩
  clear hb6
  dsimp only[wpRow,List.drop]
  go_upto_region 17 with fail
  refine name_world fun V hV=> ?_
  obtain⟨F,hF⟩: ∃F,W1.heap.size=F:=⟨_,rfl⟩
  have hbV:Below W1.heap.size W1 V:=by rw[hV];exact bel
  have f0:V.cell? ⟨F,0,none⟩=some (.string bx):=by rw[hV,<-hF];simp[go_sem]
  have f1:V.cell? ⟨F,1,none⟩=some (.string bY):=by rw[hV,<-hF];simp[go_sem]
  have f2:V.cell? ⟨F,2,none⟩=some (.string bz):=by rw[hV,<-hF];simp[go_sem]
  have hFl:F<V.heap.size:=World.block_lt_of_cell? V _ f0
  have hBF:B<F:=by rw[<-hF];exact hl1
  first|rw[hF]|skip
  have HBV:=Lib.hid hbV
  clear hV hbV hx1 hx2 hx3 n1 n2 n3 hc
  by_cases hm:what∈s.told
  ·have HR:Hid (R= .error (5,0)):=by show _=_;rw[HN3.out,if_pos hm]
   rw[decide_eq_true hm,if_pos hm]at HO
   clear HN3 hm
   go_wp2_with(go_at_call 135;(with_reducible refine(HO.out _ HBV.out).mono ?_);rintro e W2 ⟨rfl,hp2,hb2,hq2⟩;clear hq2)
   go_ret3
   rw[HR.out]
   exact⟨rfl,⟨s,rfl,hp2⟩,((HB1.out.mono (Nat.le_of_lt hlt)).trans (HBV.out.mono (Nat.le_of_lt hl1))).trans hb2⟩
  ·have HR:Hid (R= .ok (5,(addF s ⟨tx,ty,tz⟩).pol,what::s.told)):=by show _=_;rw[HN3.out,if_neg hm]
   rw[decide_eq_false hm,if_neg hm]at HO
   clear HN3 hm
   go_upto_region 19 with(go_at_call 135;(with_reducible refine(HO.out _ HBV.out).mono ?_);rintro e W2 ⟨rfl,hp2,hb2,ht2,hs2⟩;have HP2:=Lib.hid hp2;have HB2:=Lib.hid hb2;have HK2:=Lib.hid ht2;have HS2:=Lib.hid hs2;clear hp2 hb2 ht2 hs2)
   have hnr: ¬(F=B\/ ∃v,V.cell? ⟨B,10,none⟩=some v/\v.ownBlock=some F):=by
    rintro(h|⟨v,hv,hb⟩)
    ·omega
    ·obtain⟨u,hu,hou⟩:=HP1.out.row 6 (by omega)
     have h9:V.cell? ⟨B,10,none⟩=some u:=(HBV.out.cell (p:=⟨B,10,none⟩) hl1).trans hu
     rw[hv]at h9
     cases h9
     have:=(hou.lt F hb).2
     omega
   have hFl2:F<W2.heap.size:=Nat.lt_of_lt_of_le hFl HK2.out.size
   have g0:=(World.cell?_of_block (a:=⟨F,0,none⟩) (HK2.out.block F hFl hnr)).trans f0
   have g1:=(World.cell?_of_block (a:=⟨F,1,none⟩) (HK2.out.block F hFl hnr)).trans f1
   have g2:=(World.cell?_of_block (a:=⟨F,2,none⟩) (HK2.out.block F hFl hnr)).trans f2
   have HBq:=Lib.hid (((HB1.out.mono (Nat.le_of_lt hlt)).trans (HBV.out.mono (Nat.le_of_lt hl1))).trans HB2.out)
   obtain⟨v5,hv5,ho5⟩:=HP2.out.row 5 (by omega)
   have ho5':W2.ownsRow (B+1) 67 3 v5 (rN (tellS s what) 5) (rX (tellS s what) 5):=ho5
   obtain⟨m,hm⟩: ∃m,rN (tellS s what) 5=m:=⟨_,rfl⟩
   have hm9:m<=40000:=by rw[<-hm];show fN s.pol 5<=_;omega
   have HM:=Lib.hid hm
   rw[hm]at ho5'
   have HOv:=Lib.hid ho5'
   obtain⟨A5,c5,rfl,_⟩:=own_cap ho5'
   have h25:W2.cell? ⟨B,5,none⟩=some (.slice A5 m c5):=hv5
   have hz:=HP2.out.fz 5
   have hl2:=HP2.out.lt
   have hM5: ∀b,(Value.slice A5 m c5).ownBlock=some b->B+1<=b:=fun b hb=>(HOv.out.lt b hb).1
   have HM5:=Lib.hid hM5
   have hdr:Below W2.heap.size W2 W2.drew:=bel
   have hnF: ¬(Value.slice A5 m c5).ownBlock=some F:=by
    intro hb
    obtain⟨u,hu,hou⟩:=HP1.out.row 5 (by omega)
    have h9:W2.cell? ⟨B,5,none⟩=some u:=(HS2.out 5 (by omega)).trans ((HBV.out.cell (p:=⟨B,5,none⟩) hl1).trans hu)
    rw[h25]at h9
    cases h9
    have:=(hou.lt F hb).2
    omega
   clear hm ho5 ho5' hv5 hM5
   refine wp_region_row 9 [(0,true),(1,true),(2,true),(3,true),(4,true),(5,true),(6,true),(7,false),(8,false)] (fun V=>V.cell? ⟨B,5,none⟩=some (.slice A5 m c5)/\V.cell? ⟨F,0,none⟩=some (.string bx)/\V.cell? ⟨F,1,none⟩=some (.string bY)/\V.cell? ⟨F,2,none⟩=some (.string bz)) hmx (by kernel_rfl) (by kernel_rfl) (by kernel_rfl) (by decide) rfl (fun c a d v w h=>by obtain⟨x,y⟩:=(h:_/\_);cases d<;>exact⟨x,y⟩) (by kernel_rfl) (by exact⟨h25,g0,g1,g2⟩) ?_
   refine wpRow_readD (v:= .pointer (some ⟨B,0,none⟩)) 84 rfl rfl rfl (fun W hW=>by simp[execOp,go_sem]) ?_
   simp only[Act.put,List.setIfInBounds_toArray,List.set_cons_succ,List.set_cons_zero]
   refine wpRow_readD (v:= .pointer (some ⟨B,0,none⟩)) 85 rfl rfl rfl (fun W hW=>by simp[execOp,go_sem]) ?_
   simp only[Act.put,List.setIfInBounds_toArray,List.set_cons_succ,List.set_cons_zero]
   refine wpRow_readD (v:= .pointer (some ⟨B,0,none⟩)) 86 rfl rfl rfl (fun W hW=>by simp[execOp,go_sem]) ?_
   simp only[Act.put,List.setIfInBounds_toArray,List.set_cons_succ,List.set_cons_zero]
   refine wpRow_readD (v:= .pointer (some ⟨B,0,none⟩)) 87 rfl rfl rfl (fun W hW=>by simp[execOp,go_sem]) ?_
   simp only[Act.put,List.setIfInBounds_toArray,List.set_cons_succ,List.set_cons_zero]
   refine wpRow_readD (v:= .pointer (some ⟨B,5,none⟩)) 88 rfl rfl rfl (fun W hW=>by simp[execOp,go_sem]) ?_
   simp only[Act.put,List.setIfInBounds_toArray,List.set_cons_succ,List.set_cons_zero]
   refine wpRow_readD (v:= .slice A5 m c5) 89 rfl rfl rfl (fun W hW=>by simp[execOp,go_sem,hW.1]) ?_
   simp only[Act.put,List.setIfInBounds_toArray,List.set_cons_succ,List.set_cons_zero]
   refine wpRow_readD (v:= .agg #[.string bx,.string bY,.string bz]) 90 rfl rfl rfl (fun W hW=>by simp[execOp,go_sem,hW.2.1,hW.2.2.1,hW.2.2.2]) ?_
   simp only[Act.put,List.setIfInBounds_toArray,List.set_cons_succ,List.set_cons_zero]
   refine wpRow_op rfl rfl fun Kc hKc=> ?_
   unfold Oper.wp
   simp[execOp,go_sem]
   apply hKc
   have hb5:Below W2.heap.size W2 (W2.drew.alloc (.cells #[.string bx,.string bY,.string bz] 67)):=bel
   refine⟨⟨(hb5.cell (p:=⟨B,5,none⟩) hl2).trans h25,(hb5.cell (p:=⟨F,0,none⟩) hFl2).trans g0,(hb5.cell (p:=⟨F,1,none⟩) hFl2).trans g1,(hb5.cell (p:=⟨F,2,none⟩) hFl2).trans g2⟩, ?_⟩
   refine wpRow_op rfl rfl fun Kc hKc=> ?_
   refine op_at (n:=m) (size:=3) (xs:=rX (tellS s what) 5) (v:= .slice A5 m c5) _ _ 38 rfl sltF (B+1) rfl ((own_keep HOv.out hdr).alloc _) (by simp[go_sem]<;>omega) ⟨W2.heap.size,0,none⟩ 1 1 [.string bx,.string bY,.string bz] rfl (new_cells (c:= #[.string bx,.string bY,.string bz]) (by simp[go_sem])) rfl (by simp[Value.oneCell']) (by unfold maxLen;omega) (by omega) ?_
   intro v6 W6 ho6 hg6 hat6
   obtain⟨A6,c6,rfl,_⟩:=own_cap ho6
   have hgT:Turned (fun b=>(Value.slice A5 m c5).ownBlock=some b) (W2.drew.alloc (.cells #[.string bx,.string bY,.string bz] 67)) W6:=⟨hg6.os,hg6.tape,hg6.output,hg6.size,fun k hk hn=>hg6.block k hk (fun e=>hn e.symm)⟩
   have hT6:Turned (fun b=>(Value.slice A5 m c5).ownBlock=some b) W2 W6:=(Turned.of_below hb5).trans hgT
   have hnM: ¬(Value.slice A5 m c5).ownBlock=some B:=fun e=>by have:=HM5.out _ e;omega
   have k6:=(World.cell?_of_block (a:=⟨B,5,none⟩) (hT6.block _ hl2 hnM)).trans h25
   have kf:=(World.frozen?_of_block (a:=⟨B,5,none⟩) (hT6.block _ hl2 hnM)).trans hz
   have q0:=(World.cell?_of_block (a:=⟨F,0,none⟩) (hT6.block _ hFl2 hnF)).trans g0
   have q1:=(World.cell?_of_block (a:=⟨F,1,none⟩) (hT6.block _ hFl2 hnF)).trans g1
   have q2:=(World.cell?_of_block (a:=⟨F,2,none⟩) (hT6.block _ hFl2 hnF)).trans g2
   apply hKc
   refine⟨⟨k6,q0,q1,q2⟩, ?_⟩
   simp only[Act.put,List.setIfInBounds_toArray]
   have HT6:=Lib.hid hT6
   have HO6:=Lib.hid ho6
   have HA6:=Lib.hid hat6
   clear hg6 hgT hnM ho6 hat6 hb5 hT6 hdr q0 q1 q2
   dsimp only[wpRow,List.drop]
   go_wp2_with fail
   go_ret3
   rw[HR.out]
   have h9:=HP2.out.put (j:=5) (s':=addF (tellS s what) ⟨tx,ty,tz⟩) (by omega) h25 HT6.out (by rw[(addF_row _ _).1,(addF_row _ _).2,HM.out];simp only[E1.out,E2.out,E3.out];exact HO6.out) (HA6.out.imp (fun h=>h) (fun h=>⟨_,h,by simp[go_sem]⟩)) (fun i hi hij=>addF_rest _ _ i hi hij) rfl rfl rfl rfl rfl
   exact⟨rfl,h9.1,HBq.out.trans h9.2.1⟩
end Go.Proofs.YtbhhgbgfaemfdaaGreat
