/- What is allowed, and was told first, is there, with its value as it is told: AttrsKept returns true. No condition: whatever the arguments. -/
import Derived.LaidMore
import Derived.Lay
import Derived.Test.YtccjfanpjojbnaaGreatDoorCards
import Derived.Test.YtccjfanpjojbnaaGreatDoorTie
import Derived.Test.YtccjfanpjojbnaaGreatDoorAttF
namespace Go.Proofs.YtccjfanpjojbnaaGreatDoor.attrsKept
open Lib renaming hid→aA
open List renaming flatMap_append→nL,length_append→aZ,take_length→kJ
open Nat renaming lt_of_lt_of_le→bQ
open Go.Proofs.Tryz renaming f3→zi,func3→Zw,ntmps3→xo,prog→aE,underlying9→dH
set_option maxRecDepth 100000
set_option maxHeartbeats 16000000
open Go.ChangeShapes Go.WideShapes Go.ChangeAt Go.RowKit
open Go.ChangeMaps (open_string shut_string)
theorem own:ownKnob aE.godebug=none:=by kernel_rfl
theorem laidOut:laidOutB aE=true:=by kernel_rfl
theorem walk (t tag:ByteArray) (v:Value) (l:List (Bs × Bs)) (w:World) (hU:U8 w) (hT:Tb w) (hX:Mx w) (_ht:t.size<=maxLen) (_hg:tag.size<=maxLen) (h:Rd w v l.length 2 (l.flatMap eA)) (hz: ∀a∈l,a.1.length<=maxLen/\a.2.length<=maxLen):Calls aE 3 #[.string t,.string tag,v] w (aH (.bool true) w):=by
 have hmx:=bX;obtain⟨A,c,rfl⟩: ∃A c,v= .slice A l.length c:=by obtain⟨_,_,A,c,rfl,_⟩:=h;exact⟨_,_,rfl⟩
 have HT:=aA (λW (hb:Below w.heap.size w W)=>And.intro (hU.below hb) (And.intro (Tb.below hT hb) (Mx.below hX hb)));have HAw:=aA (NX w hU hT hX);have HFw0:=λW (hb:Below w.heap.size w W)=>GD A l.length c l W (h.bel hb) hz;have HIn:=aA h;clear hU hT hX h hz;cases hf:uT l
 .rw[hf]at HFw0;have HFw:=aA HFw0;clear HFw0 hf HT HIn _ht _hg;go_enter Zw,xo;go_wp2_with(first|(go_at_call 6;(with_reducible refine HAw.out.mono ?_);rintro e Wa ⟨rfl,Xa,rfl⟩)|(go_at_call 7;(with_reducible refine zF (HFw.out _ aG) λXb=>?_)))
  go_ret;exact aH.of rfl aG
 obtain⟨hl30,hlz⟩:=GC hf;rw[hf]at HFw0;have HFw:=aA HFw0;have HZ:=aA hlz;clear HFw0 hf hlz;by_cases h0:9000<t.size
 .have b0:decide ((9000:Int)<t.size)=true:=by simp;omega
  clear h0 _ht _hg HT HIn HZ;go_enter Zw,xo;go_wp2_with(first|(go_at_call 6;(with_reducible refine HAw.out.mono ?_);rintro e Wa ⟨rfl,Xa,rfl⟩)|(go_at_call 7;(with_reducible refine zF (HFw.out _ aG) λXb=>?_)))
  go_ret;exact aH.of rfl aG
 have b0:decide ((9000:Int)<t.size)=false:=by simp;omega
 by_cases h1:200<tag.size
 .have b1:decide ((200:Int)<tag.size)=true:=by simp;omega
  clear h0 h1 _ht _hg HT HIn HZ;go_enter Zw,xo;go_wp2_with(first|(go_at_call 6;(with_reducible refine HAw.out.mono ?_);rintro e Wa ⟨rfl,Xa,rfl⟩)|(go_at_call 7;(with_reducible refine zF (HFw.out _ aG) λXb=>?_)))
  go_ret;exact aH.of rfl aG
 have b1:decide ((200:Int)<tag.size)=false:=by simp;omega
 have htg:tag.data.toList.length<=200:=by rw[cU];omega
 obtain⟨a,cc,P,G⟩:=GF t.data.toList;have HP:=aA (λW=>show Calls aE 8 #[.string t] W _ from G.run W);by_cases hc:cc=0;rotate_left
 .have HP1:=aA (λW=>(HP.out W).mono (R':=λe w'=>e= .returned (.tuple #[.pointer none,.int .i64 a,.int .i64 cc])/\Below W.heap.size W w') (λe w' h=>by
   obtain⟨h1,h2|h2⟩:=h
   .exact⟨h2.2,h1⟩
   .exact absurd h2.1 hc))
  have b9:((cc:Int) !=0)=true:=by simp;omega
  clear HP G h0 h1 _ht _hg HT HIn HZ;go_enter Zw,xo;go_wp2_with(first
   |(go_at_call 6;(with_reducible refine HAw.out.mono ?_);rintro e Wa ⟨rfl,Xa,hXa⟩;have hba:Below w.heap.size w Wa:=(by rw[hXa];exact aG);have HA0:=aA hba;clear hXa hba)
   |(go_at_call 7;(with_reducible refine(HFw.out _ HA0.out).mono ?_);rintro e Wb ⟨rfl,Xb,hXb⟩;have HA1:=aA (aP HA0.out (show Below Wa.heap.size Wa Wb from(by rw[hXb];exact aG)));clear hXb)
   |(go_at_call 8;(with_reducible refine(HP1.out _).mono ?_);rintro e W1 ⟨rfl,hb1⟩;have HB1:=aA (aP HA1.out hb1);clear hb1))
  go_ret;exact aH.of rfl HB1.out
 have hPk:qE t.data.toList= .ok P/\gZ P=true:=by
  rcases G.says with⟨_,_,h1,h2⟩|⟨h1,_⟩
  .exact⟨h1,h2⟩
  .exact absurd hc h1
 have hwr:=NS hPk.1;have hrp:=hPk.2;obtain⟨hf1,hf2,hf3,hf4⟩:=KW hrp;have hfo: ∀a∈cM P tag.data.toList,a.1.length<=65536:=λa ha=>by have:=EE hwr ha;omega
 have HP1:=aA (λW=>(HP.out W).mono (R':=λe w'=> ∃g,e= .returned (.tuple #[.pointer (some ⟨g,0,none⟩),.int .i64 0,.int .i64 0])/\Below W.heap.size W w'/\gB w' g P) (λe w' h=>by
   obtain⟨h1,h2|⟨_,g,h3,_,h5⟩⟩:=h
   .exact absurd hc h2.1
   .exact⟨g,h3,h1,h5⟩))
 clear HP G hc hPk;go_enter Zw,xo;go_upto_region 5 with(first
  |(go_at_call 6;(with_reducible refine HAw.out.mono ?_);rintro e Wa ⟨rfl,Xa,hXa⟩;have hba:Below w.heap.size w Wa:=(by rw[hXa];exact aG);have HA0:=aA hba;clear hXa hba)
  |(go_at_call 7;(with_reducible refine(HFw.out _ HA0.out).mono ?_);rintro e Wb ⟨rfl,Xb,hXb⟩;have HA1:=aA (aP HA0.out (show Below Wa.heap.size Wa Wb from(by rw[hXb];exact aG)));clear hXb))
 go_upto_region 8 with(go_at_call 8;(with_reducible refine(HP1.out _).mono ?_);rintro e W1 ⟨g,rfl,hb1,hr1⟩;have HB1:=aA (aP HA1.out hb1);have HR1:=aA hr1;clear hb1 hr1)
 clear HP1 HAw HA0 HA1 HFw;have HTW:=aA (λW (hb:Below W1.heap.size W1 W)=>HT.out W (aP HB1.out hb));have HFi:=aA (λW (hb:Below W1.heap.size W1 W)=>show Calls aE 9 #[.pointer (some ⟨g,0,none⟩),.string tag,.slice A l.length c] W (sR W (dB P tag.data.toList l))from
  CJ g P tag.data.toList A l.length c l W (HR1.out.below hb) hf1 hf2 (HTW.out W hb).1 (HTW.out W hb).2.1 (HTW.out W hb).2.2 om (HIn.out.bel (aP HB1.out hb)) (λa ha=>by have:=HZ.out a ha;omega) om hfo)
 have HFo:=aA (λW (hb:Below W1.heap.size W1 W)=>show Calls aE 10 #[.pointer (some ⟨g,0,none⟩),.string tag] W (sR W (cM P tag.data.toList))from FX g P tag.data.toList W (HR1.out.below hb) (by unfold maxLen;omega) hf2);have HVa:=aA (λ(a:Bs × Bs) (ha:a∈l) W (hb:Below W1.heap.size W1 W)=>show Calls aE 11 #[.pointer (some ⟨g,0,none⟩),.string tag,.string ⟨a.1.toArray⟩,.string ⟨a.2.toArray⟩] W (aH (sI (fK P tag.data.toList a.1 a.2)) W)from
  PU g P tag.data.toList a.1 a.2 W (HR1.out.below hb) hf1 (HTW.out W hb).1 (HTW.out W hb).2.1 (HTW.out W hb).2.2 om (by have:=HZ.out a ha;omega) (by have:=HZ.out a ha;omega))
 have HTg:=aA (λW (hb:Below W1.heap.size W1 W)=>show Calls aE 12 #[.pointer (some ⟨g,0,none⟩),.string tag] W (aH (.bool (eW P tag.data.toList)) W)from yT g P tag.data.toList W (HR1.out.below hb) (by unfold maxLen;omega));have hff:(cM P tag.data.toList).length<=200:=by unfold cM;rw[List.length_map];exact Nat.le_trans (List.length_filter_le _ _) hf2
 have HFA:Hid (dB P tag.data.toList l=if eW P tag.data.toList=true then cH P tag.data.toList (bT (cM P tag.data.toList)) l++cM P tag.data.toList else []):=rfl;generalize dB P tag.data.toList l=M at*;generalize cM P tag.data.toList=F at*;generalize tag.data.toList=tg at*;clear hf1 hf2 hf3 hf4 hfo hwr hrp h0 h1 _ht _hg htg HT HTW;go_upto_region 10 with(first
  |(go_at_call 9;(with_reducible refine(HFi.out _ (Below.refl _ _)).mono ?_);rintro e V1 ⟨A2,c2,rfl,hb2,hn2,hc2,hr2⟩;have HB2:=aA hb2;have HR2:=aA hr2;have HC2:=aA hc2;clear hb2 hn2 hr2 hc2)
  |(go_at_call 10;(with_reducible refine(HFo.out _ HB2.out).mono ?_);rintro e V2 ⟨A3,c3,rfl,hb3,hn3,hc3,hr3⟩;have HB3:=aA (aP HB2.out hb3);have HN3:=aA hn3;have HR3:=aA hr3;have HM3:=aA (HR2.out.bel hb3);clear hb3 hn3 hr3 hc3))
 clear HFi HFo HR2;go_wp2_with fail
 go_loopw [14,15] (λv i wr=> ∃k:Nat,k<=l.length/\i= .int .i64 k/\Hid (Below V2.heap.size V2 wr)/\Hid (wr.ownsRow V2.heap.size 34 2 v (cH P tg (bT F) (l.take k)).length ((cH P tg (bT F) (l.take k)).flatMap eA))) (λ_ i _=>l.length-(intOf i).toNat)
 case atStart=>exact⟨0,by omega,rfl,Below.refl _ _,World.ownsRow_nil _ _ _ _⟩
 case round=>
  obtain⟨k,hk,rfl,HBw,HO⟩:=hrel;have HB1w:=aA (aP HB3.out HBw.out);have HBww:=aA (aP HB1.out HB1w.out);by_cases hlt:k<l.length
  .obtain⟨b,off,rfl,hb,x0,x1⟩:=HIn.out.pr k hlt;have HVk:=aA (λW (hb:Below wr.heap.size wr W)=>HVa.out l[k] (List.getElem_mem hlt) W (aP HB1w.out hb));have HStep:=aA (WG (P:=P) (tag:=tg) (s:=bT F) hlt);have hKl:=uO P tg (l.take k) (bT F);rw[List.length_take]at hKl;have y0:=(HBww.out.cell (p:=⟨b,off+k*2,none⟩) hb).trans x0;have y1:=(HBww.out.cell (p:=⟨b,off+k*2+1,none⟩) hb).trans x1;have hbw:b<wr.heap.size:=bQ hb HBww.out.size;generalize cH P tg (bT F) (l.take k)=K at*;generalize l[k]=a at*;obtain⟨z1,z2⟩:=a;simp only at HVk HStep y0 y1;have HSv:Hid (sv z1= .string ⟨z1.toArray⟩):=rfl;have HNm:Hid (∀x:Bs,((⟨x.toArray⟩:ByteArray).toList==(⟨z1.toArray⟩:ByteArray).toList)=decide (x=z1)):=λx=>nD _ _;simp only[sv]at y0 y1;clear x0 x1 hb;generalize(⟨z1.toArray⟩:ByteArray)=s1 at*;generalize(⟨z2.toArray⟩:ByteArray)=s2 at*;obtain⟨Ak,ck,rfl,hck⟩:=dF HO.out;have HRk:=aA (Rd.own HO.out);obtain⟨ts,tb,hts⟩:=XS (fK P tg z1 z2);have HTs:=aA hts;rw[hts]at HVk;clear hts;go_upto_region 14 with fail
   refine dV kr kr  ?_;repeat(go_big_quiet_step(first|(go_at_call 11;with_reducible exact Calls.grow_of (HVk.out _ aG))))
   refine wpQuiet_nil ?_;rintro _ ⟨nq,rfl⟩;have HSt:=aA (Ja HStep.out HTs.out);clear HStep HTs HVk;go_wp2_with fail
   go_loopw [18,19] (λf j w2=> ∃(q:Nat) (Y:Gr),q<=K.length/\j= .int .i64 q/\w2=wr.grow Y/\f= .bool (kS z1 (K.take q))) (λ_ j _=>K.length-(intOf j).toNat)
   case atStart=>exact⟨0,_,by omega,rfl,rfl,rfl⟩
   case round=>
    obtain⟨q,Y,hq,rfl,rfl,rfl⟩:=hrel;by_cases hql:q<K.length
    .obtain⟨b2,off2,rfl,hb2,e0,_⟩:=(HRk.out.grow Y).pr q hql;have HNs:=aA (UP (x:=z1) hql);have hN:=HNm.out K[q].1;have hN2:((⟨K[q].1.toArray⟩:ByteArray).toList !=s1.toList)= !decide (K[q].1=z1):=by rw[bne,hN]
     simp only[sv]at e0;generalize K[q].1=n2 at*;generalize(⟨n2.toArray⟩:ByteArray)=s4 at*;have y2:=xV (X:=Y) y0;have hbw2:b<(wr.grow Y).heap.size:=bQ hbw (dG wr Y).size;clear y0 y1;obtain⟨WY,hWY⟩: ∃W,wr.grow Y=W:=⟨_,rfl⟩;rw[hWY]at e0 y2 hb2 hbw2 ⊢;have HWY:=aA hWY;clear hWY;generalize decide (n2=z1)=dq at*;generalize hfl:kS z1 (K.take q)=fl at*;cases fl
     .have HN2:Hid (kS z1 (K.take (q+1))=false):=HNs.out;clear HNs hfl;go_wp2_with fail
      refine dV kr kr  ?_;repeat(go_big_quiet_step(fail))
      refine wpQuiet_nil ?_;rintro _ ⟨nq,rfl⟩;go_wp2_with fail
      go_roundw
      case rel=>exact⟨q+1,_,by omega,by go_num,by rw[<-HWY.out];exact jV _ _ _,by rw[HN2.out]⟩
      case measure=>simp[intOf];omega
     .have HN2:Hid (kS z1 (K.take (q+1))= !dq):=HNs.out;clear HNs hfl;cases dq
      .go_wp2_with fail
       refine dV kr kr  ?_;repeat(go_big_quiet_step(fail))
       refine wpQuiet_nil ?_;rintro _ ⟨nq,rfl⟩;go_wp2_with fail
       go_roundw
       case rel=>exact⟨q+1,_,by omega,by go_num,by rw[<-HWY.out];exact jV _ _ _,by rw[HN2.out];rfl⟩
       case measure=>simp[intOf];omega
      .go_wp2_with fail
       refine dV kr kr  ?_;repeat(go_big_quiet_step(fail))
       refine wpQuiet_nil ?_;rintro _ ⟨nq,rfl⟩;go_wp2_with fail
       go_roundw
       case rel=>exact⟨q+1,_,by omega,by go_num,by rw[<-HWY.out];exact jV _ _ _,by rw[HN2.out];rfl⟩
       case measure=>simp[intOf];omega
    .have hqn:q=K.length:=by omega
     subst hqn;rw[kJ];generalize hfk:kS z1 K=fk at*;go_wp2_with fail
     go_loopw [18,20] (λf j w2=> ∃(q:Nat) (Y:Gr),q<=F.length/\j= .int .i64 q/\w2=wr.grow Y/\f= .bool (fk&&kS z1 (F.take q))) (λ_ j _=>F.length-(intOf j).toNat)
     case atStart=>exact⟨0,_,by omega,rfl,rfl,by rw[List.take_zero,show kS z1 []=true from rfl,Bool.and_true]⟩
     case round=>
      obtain⟨q,Y,hq,rfl,rfl,rfl⟩:=hrel;by_cases hql:q<F.length
      .obtain⟨b2,off2,rfl,hb2,e0,_⟩:=((HR3.out.bel HBw.out).grow Y).pr q hql;have HNs:=aA (show(fk&&kS z1 (F.take (q+1)))=((fk&&kS z1 (F.take q))&& !decide (F[q].1=z1))from by rw[UP hql,Bool.and_assoc]);have hN:=HNm.out F[q].1;have hN2:((⟨F[q].1.toArray⟩:ByteArray).toList !=s1.toList)= !decide (F[q].1=z1):=by rw[bne,hN]
       simp only[sv]at e0;generalize F[q].1=n2 at*;generalize(⟨n2.toArray⟩:ByteArray)=s4 at*;have y2:=xV (X:=Y) y0;have hbw2:b<(wr.grow Y).heap.size:=bQ hbw (dG wr Y).size;clear y0 y1;obtain⟨WY,hWY⟩: ∃W,wr.grow Y=W:=⟨_,rfl⟩;rw[hWY]at e0 y2 hb2 hbw2 ⊢;have HWY:=aA hWY;clear hWY;generalize decide (n2=z1)=dq at*;generalize hfl:(fk&&kS z1 (F.take q))=fl at*;cases fl
       .have HN2:Hid ((fk&&kS z1 (F.take (q+1)))=false):=HNs.out;clear HNs hfl;go_wp2_with fail
        refine dV kr kr  ?_;repeat(go_big_quiet_step(fail))
        refine wpQuiet_nil ?_;rintro _ ⟨nq,rfl⟩;go_wp2_with fail
        go_roundw
        case rel=>exact⟨q+1,_,by omega,by go_num,by rw[<-HWY.out];exact jV _ _ _,by rw[HN2.out]⟩
        case measure=>simp[intOf];omega
       .have HN2:Hid ((fk&&kS z1 (F.take (q+1)))= !dq):=HNs.out;clear HNs hfl;cases dq
        .go_wp2_with fail
         refine dV kr kr  ?_;repeat(go_big_quiet_step(fail))
         refine wpQuiet_nil ?_;rintro _ ⟨nq,rfl⟩;go_wp2_with fail
         go_roundw
         case rel=>exact⟨q+1,_,by omega,by go_num,by rw[<-HWY.out];exact jV _ _ _,by rw[HN2.out];rfl⟩
         case measure=>simp[intOf];omega
        .go_wp2_with fail
         refine dV kr kr  ?_;repeat(go_big_quiet_step(fail))
         refine wpQuiet_nil ?_;rintro _ ⟨nq,rfl⟩;go_wp2_with fail
         go_roundw
         case rel=>exact⟨q+1,_,by omega,by go_num,by rw[<-HWY.out];exact jV _ _ _,by rw[HN2.out];rfl⟩
         case measure=>simp[intOf];omega
      .have hqn:q=F.length:=by omega
       subst hqn;rw[kJ];generalize hfq:(fk&&kS z1 F)=fq at*;cases tb
       .have HS2:Hid (cH P tg (bT F) (l.take (k+1))=K):=by show _=_;rw[HSt.out];exact List.append_nil _
        clear HSt;go_wp2_with fail
        go_roundw
        case rel=>exact⟨k+1,by omega,by go_num,aP HBw.out (dG _ _),by show World.ownsRow _ _ _ _ _ _ _;rw[HS2.out];exact jT HO.out _⟩
        case measure=>simp[intOf];omega
       .cases fq
        .have HS2:Hid (cH P tg (bT F) (l.take (k+1))=K):=by show _=_;rw[HSt.out];exact List.append_nil _
         clear HSt;go_wp2_with fail
         go_roundw
         case rel=>exact⟨k+1,by omega,by go_num,aP HBw.out (dG _ _),by show World.ownsRow _ _ _ _ _ _ _;rw[HS2.out];exact jT HO.out _⟩
         case measure=>simp[intOf];omega
        .have HS2:Hid (cH P tg (bT F) (l.take (k+1))=K++[(z1,ts.data.toList)]):=by show _=_;rw[HSt.out];rfl
         have HSw:Hid (sv ts.data.toList= .string ts):=rfl;clear HSt;go_wp2_with(at_builtin;refine mJ rfl _ _ 22 rfl vR V2.heap.size rfl ((jT HO.out _).alloc _) (by have:=HBw.out.size;simp[World.grow];omega) ⟨_,0,none⟩ 1 1 [.string s1,.string ts] rfl rfl (eR (c:= #[.string s1,.string ts]) (by simp[go_sem])) (by simp[Value.oneCell']) (by unfold maxLen;omega) om ?_;intro v10 W10 ho10 hg10;have HO10:=aA ho10;have HB10:=sE hg10 ((jT HO.out _).alloc _) (rJ HBw.out ((aG:Below wr.heap.size wr _).mono HBw.out.size));clear ho10 hg10)
         go_roundw
         case rel=>exact⟨k+1,by omega,by go_num,HB10,by show World.ownsRow _ _ _ _ _ _ _;rw[HS2.out,aZ,nL,List.flatMap_singleton,show eA (z1,ts.data.toList)=[sv z1,sv ts.data.toList]from rfl,HSv.out,HSw.out];exact HO10.out⟩
         case measure=>simp[intOf];omega
  .have hkn:k=l.length:=by omega
   have HO9:=HO.out;rw[hkn,kJ]at HO9;have hKl:=uO P tg l (bT F);have HTe:=aA (HTg.out wr HB1w.out);have HMw:=aA (HM3.out.bel HBw.out);cases htg:eW P tg
   .have HM0:M=[]:=by rw[HFA.out,htg];rfl
    rw[htg]at HTe;subst HM0;clear HFA htg HO9 HO;go_wp2_with(go_at_call 12;(with_reducible refine HTe.out.mono ?_);rintro e W5 ⟨rfl,X5,rfl⟩)
    go_ret;exact aH.of rfl (aP HBww.out aG)
   .have HMe:Hid (M=cH P tg (bT F) l++F):=by show _=_;rw[HFA.out,htg];rfl
    rw[htg]at HTe;generalize cH P tg (bT F) l=K at*;obtain⟨Ak,ck,rfl,hck⟩:=dF HO9;have HK9:=aA HO9;have hF1:=HR3.out.1;have HRw:=aA (HR3.out.bel HBw.out);clear HFA htg HO9 HO hkn;have hsw:=HBw.out.size;go_wp2_with(first
     |(go_at_call 12;(with_reducible refine HTe.out.mono ?_);rintro e W5 ⟨rfl,X5,rfl⟩)
     |(at_builtin;refine GP rfl _ _ 22 rfl vR V2.heap.size rfl (jT HK9.out _) (by simp[World.grow];omega) F.length (F.flatMap eA) (xL HR3.out HN3.out (aP HBw.out (dG _ _))) hF1 (CS F) (by unfold maxLen;omega) om ?_;intro v11 W11 ho11 hg11;have HO11:=aA ho11;have HB11:=sE hg11 (jT HK9.out _) (aP HBw.out (dG _ _));obtain⟨A9,c9,rfl,hc9⟩:=dF ho11;have HSa:=aA (SX A2 A9 M.length (K.length+F.length) c2 c9 M (K++F) W11 (HM3.out.bel HB11.out) (by have h9:=Rd.own ho11;rw[aZ,nL];exact h9));clear ho11 hg11)
     |(go_at_call 13;(with_reducible refine HSa.out.mono ?_);rintro e W12 ⟨rfl,X12,rfl⟩))
    go_ret;exact aH.of (by show Value.bool (decide (M=K++F))=_;rw[HMe.out];simp) (aP HB1.out (aP HB3.out (aP HB11.out aG)))
theorem lifted (os:Os) (started:os.Started) (H:Type) (enc:TypeId × Value->H):
  ReturnsInHanded {} Tryz.checked os 3 .any (λw args=>(Rows.attrsKeptSpec.pre enc aE zi Rows.attrsKeptRow.domain false w args/\laidMetH aE Rows.attrsKeptRow.laid w)/\sizedMet enc aE zi (OpenSpec.ofChange Rows.attrsKeptSpec) false w args) (Rows.attrsKeptSpec.post enc aE zi false true false false):=by
 refine MV (C:=Tryz.checked) (X:=λw _=>laidMetH aE Rows.attrsKeptRow.laid w) (λ_ _ _ hh h=>h.of_heap hh) own started kr Zw
  (ChangeSpec.witness_shaped (enc:=enc) (C:=Tryz.checked) (os:=os) (X:=λw _=>laidMetH aE Rows.attrsKeptRow.laid w) false (World.laidAll aE os Rows.attrsKeptRow.laid) #[.string ⟨#[]⟩,.string ⟨#[]⟩,.slice none 0 0] 8 (World.laidAll_os _ _ _)
   (World.shaped_of_ZipB kr kr) kr kr kr
   (by rw[MakeChecks.laidMetH_plain _ _ _ kr];exact laidMet_laidAll _ kr kr)) ?_
 intro W base args ds gs before hval0 hW hL hsh;have hval: ∀(j:Nat) t v,zi.params[j]? =some t->args[j]? =some v->Value.okWide aE W .any base t v:=hval0;have hW':=hW;obtain⟨p,q,hA0,hV,rfl,hfz,hnd⟩:=hW;have hA:DataW.TrodAll enc aE W 0 (λ_=>true) true zi.params.toList args.toList ds p:=hA0;rw[Tryz.params3]at hA hval;obtain⟨v0,vs0,d0,ds0,p0,q0,hargs,rfl,rfl,h0,r0⟩:=trodAll_cons hA;obtain⟨v1,vs1,d1,ds1,p1,q1,rfl,rfl,rfl,h1,r1⟩:=trodAll_cons r0;obtain⟨v2,vs2,d2,ds2,p2,q2,rfl,rfl,rfl,h2,r2⟩:=trodAll_cons r1;obtain⟨rfl,rfl,rfl⟩:=trodAll_nil r2;obtain rfl:args= #[v0,v1,v2]:=by cases args;simp_all
 obtain⟨rfl,rfl⟩:=trodVars_none hV;obtain⟨s0,rfl,rfl,rfl,w0⟩:=open_string dH (hval 0 9 v0 rfl rfl) h0;obtain⟨s1,rfl,rfl,rfl,w1⟩:=open_string dH (hval 1 9 v1 rfl rfl) h1;obtain⟨a2,len2,cap2,rfl⟩:=okWide_slice Tryz.underlying22 (hval 2 22 v2 rfl rfl);have k2:=h2;have lt2: ∀x∈p2,x.block<W.heap.size:=by obtain⟨m,hm⟩:=k2;exact DataW.trod_lt m _ _ _ hm
 obtain⟨z2,e2,w2,m2⟩: ∃l:List (Bs × Bs),l.length=len2/\Rd W (.slice a2 len2 cap2) l.length 2 (l.flatMap eA)/\ ∀p∈l,p.1.length<=maxLen/\p.2.length<=maxLen:=by obtain⟨fuel,hf⟩:=h2;exact GO (by simpa[Value.cells]using hf)
 clear hA0 hval0;refine(walk s0 s1 (.slice a2 len2 cap2) z2 W (JO hL kr) (JR hL kr) (LX hsh) w0 w1 w2 m2).mono λe W' hend=> ?_;obtain⟨he,X,hX⟩:=hend;have aG:Below W.heap.size W W':=by rw[hX];exact dG W X
 subst he;exact⟨_,rfl,_,_,_,[],_,[],hW',trodAll_mk1 (shut_bool Tryz.underlying4 _),(trodAll_cons_mk (shut_string dH w0) (trodAll_cons_mk (shut_string dH w1) (trodAll_cons_mk (Below.trod laidOut kr (of_decide_eq_true kr) k2 aG lt2) trodAll_mk0))),rfl,aG.frame _,λh=>by cases h⟩
theorem over:Rows.attrsKeptRow.holds Tryz.pinned (OpenSpec.ofChange Rows.attrsKeptSpec):=
 OpenClaim.holds_of_wide 3 zi rfl rfl rfl rfl rfl rfl rfl ⟨rfl,rfl,rfl,rfl,rfl⟩ rfl rfl rfl rfl rfl kr Zw kr
  (of_decide_eq_true kr) (by unfold Func.isWrapper;rw[if_neg (of_decide_eq_false kr)];exact⟨rfl,rfl⟩)
  (λos started H enc _=>lifted os started H enc)
theorem proved:Rows.AttrsKeptCardSaid:=
 Claim7.holds_tied_plain_at .later [] [.data,.data,.data,.data,.pinned] true _ true over (λ_ h=>by cases h) kr (λ_ h=>by cases h) attrsKept_row_tie rfl ⟨rfl,rfl⟩ kr rfl
  (λf fn hf hfn=>by
   obtain rfl:f=3:=Option.some.inj ((show aE.funcNamed "cribble/cribblelaw19.AttrsKept" =some 3 by kernel_rfl).symm.trans hf) |>.symm
   obtain rfl:fn=zi:=(Option.some.inj (Zw.symm.trans hfn)).symm;exact⟨by kernel_rfl,λj t ht=>by
    rw[Tryz.params3]at ht;have hm:t∈[9,9,22]:=by simpa using Array.mem_of_getElem? ht
    have hall:([9,9,22].all λu=> !aE.wantsStandIn u)=true:=by kernel_rfl
    exact(show aE.wantsStandIn t=false by simpa using List.all_eq_true.1 hall t hm)⟩)
 kr 
end Go.Proofs.YtccjfanpjojbnaaGreatDoor.attrsKept
