/- What is filtered is filtered as it is; each attribute that is told is allowed, or forced, there once, and in the limits: AttrsSafe returns true. No condition: whatever the arguments. -/
import Derived.LaidMore
import Derived.Lay
import Derived.Test.YtccjfanpjojbnaaGreatDoorCards
import Derived.Test.YtccjfanpjojbnaaGreatDoorTie
import Derived.Test.YtccjfanpjojbnaaGreatDoorAttF
namespace Go.Proofs.YtccjfanpjojbnaaGreatDoor.attrsSafe
open Lib renaming hid→aA
open Nat renaming lt_of_lt_of_le→bQ
open Go.Proofs.Tryz renaming f5→zj,func5→Zx,ntmps5→xp,prog→aE,underlying9→dH
set_option maxRecDepth 100000
set_option maxHeartbeats 16000000
open Go.ChangeShapes Go.WideShapes Go.ChangeAt Go.RowKit
open Go.ChangeMaps (open_string shut_string)
theorem own:ownKnob aE.godebug=none:=by kernel_rfl
theorem laidOut:laidOutB aE=true:=by kernel_rfl
theorem filt_len (P:aO) (t:Bs) (l:List (Bs × Bs)):(dB P t l).length<=l.length+(cM P t).length:=by
 unfold dB;have:=uO P t l (bT (cM P t));split
 .rw[List.length_append];omega
 .exact Nat.zero_le _
def hasA (x:Bs × Bs) (L:List (Bs × Bs)):Bool:=L.any λb=>decide (b=x)
theorem has_step {x:Bs × Bs} {L:List (Bs × Bs)} {q:Nat} (h:q<L.length):hasA x (L.take (q+1))=(hasA x (L.take q)||decide (L[q]=x)):=by
 unfold hasA;rw[List.take_succ_eq_append_getElem h,List.any_append];simp
theorem has_mem {x:Bs × Bs} {L:List (Bs × Bs)}:hasA x L=decide (x∈L):=by
 unfold hasA;rw[Bool.eq_iff_iff];simp
theorem walk (t tag:ByteArray) (v:Value) (l:List (Bs × Bs)) (w:World) (hU:U8 w) (hT:Tb w) (hX:Mx w) (_ht:t.size<=maxLen) (_hg:tag.size<=maxLen) (h:Rd w v l.length 2 (l.flatMap eA)) (hz: ∀a∈l,a.1.length<=maxLen/\a.2.length<=maxLen):Calls aE 5 #[.string t,.string tag,v] w (aH (.bool true) w):=by
 have hmx:=bX;obtain⟨A,c,rfl⟩: ∃A c,v= .slice A l.length c:=by obtain⟨_,_,A,c,rfl,_⟩:=h;exact⟨_,_,rfl⟩
 have HT:=aA (λW (hb:Below w.heap.size w W)=>And.intro (hU.below hb) (And.intro (Tb.below hT hb) (Mx.below hX hb)));have HAw:=aA (NX w hU hT hX);have HFw0:=λW (hb:Below w.heap.size w W)=>GD A l.length c l W (h.bel hb) hz;have HIn:=aA h;clear hU hT hX h hz;cases hf:uT l
 .rw[hf]at HFw0;have HFw:=aA HFw0;clear HFw0 hf HT HIn _ht _hg;go_enter Zx,xp;go_wp2_with(first|(go_at_call 6;(with_reducible refine HAw.out.mono ?_);rintro e Wa ⟨rfl,Xa,rfl⟩)|(go_at_call 7;(with_reducible refine zF (HFw.out _ aG) λXb=>?_)))
  go_ret;exact aH.of rfl aG
 obtain⟨hl30,hlz⟩:=GC hf;rw[hf]at HFw0;have HFw:=aA HFw0;have HZ:=aA hlz;clear HFw0 hf hlz;by_cases h0:9000<t.size
 .have b0:decide ((9000:Int)<t.size)=true:=by simp;omega
  clear h0 _ht _hg HT HIn HZ;go_enter Zx,xp;go_wp2_with(first|(go_at_call 6;(with_reducible refine HAw.out.mono ?_);rintro e Wa ⟨rfl,Xa,rfl⟩)|(go_at_call 7;(with_reducible refine zF (HFw.out _ aG) λXb=>?_)))
  go_ret;exact aH.of rfl aG
 have b0:decide ((9000:Int)<t.size)=false:=by simp;omega
 by_cases h1:200<tag.size
 .have b1:decide ((200:Int)<tag.size)=true:=by simp;omega
  clear h0 h1 _ht _hg HT HIn HZ;go_enter Zx,xp;go_wp2_with(first|(go_at_call 6;(with_reducible refine HAw.out.mono ?_);rintro e Wa ⟨rfl,Xa,rfl⟩)|(go_at_call 7;(with_reducible refine zF (HFw.out _ aG) λXb=>?_)))
  go_ret;exact aH.of rfl aG
 have b1:decide ((200:Int)<tag.size)=false:=by simp;omega
 have htg:tag.data.toList.length<=200:=by rw[cU];omega
 obtain⟨a,cc,P,G⟩:=GF t.data.toList;have HP:=aA (λW=>show Calls aE 8 #[.string t] W _ from G.run W);by_cases hc:cc=0;rotate_left
 .have HP1:=aA (λW=>(HP.out W).mono (R':=λe w'=>e= .returned (.tuple #[.pointer none,.int .i64 a,.int .i64 cc])/\Below W.heap.size W w') (λe w' h=>by
   obtain⟨h1,h2|h2⟩:=h
   .exact⟨h2.2,h1⟩
   .exact absurd h2.1 hc))
  have b9:((cc:Int) !=0)=true:=by simp;omega
  clear HP G h0 h1 _ht _hg HT HIn HZ;go_enter Zx,xp;go_wp2_with(first
   |(go_at_call 6;(with_reducible refine HAw.out.mono ?_);rintro e Wa ⟨rfl,Xa,hXa⟩;have hba:Below w.heap.size w Wa:=(by rw[hXa];exact aG);have HA0:=aA hba;clear hXa hba)
   |(go_at_call 7;(with_reducible refine(HFw.out _ HA0.out).mono ?_);rintro e Wb ⟨rfl,Xb,hXb⟩;have HA1:=aA (aP HA0.out (show Below Wa.heap.size Wa Wb from(by rw[hXb];exact aG)));clear hXb)
   |(go_at_call 8;(with_reducible refine(HP1.out _).mono ?_);rintro e W1 ⟨rfl,hb1⟩;have HB1:=aA (aP HA1.out hb1);clear hb1))
  go_ret;exact aH.of rfl HB1.out
 have hPk:qE t.data.toList= .ok P/\gZ P=true:=by
  rcases G.says with⟨_,_,h1,h2⟩|⟨h1,_⟩
  .exact⟨h1,h2⟩
  .exact absurd hc h1
 have hwr:=NS hPk.1;have hrp:=hPk.2;obtain⟨hf1,hf2,hf3,hf4⟩:=KW hrp;have hfo: ∀a∈cM P tag.data.toList,a.1.length<=65536:=λa ha=>by have:=EE hwr ha;omega
 have HP1:=aA (λW=>(HP.out W).mono (R':=λe w'=> ∃g,e= .returned (.tuple #[.pointer (some ⟨g,0,none⟩),.int .i64 0,.int .i64 0])/\Below W.heap.size W w'/\gB w' g P) (λe w' h=>by
   obtain⟨h1,h2|⟨_,g,h3,_,h5⟩⟩:=h
   .exact absurd hc h2.1
   .exact⟨g,h3,h1,h5⟩))
 clear HP G hc hPk;go_enter Zx,xp;go_upto_region 5 with(first
  |(go_at_call 6;(with_reducible refine HAw.out.mono ?_);rintro e Wa ⟨rfl,Xa,hXa⟩;have hba:Below w.heap.size w Wa:=(by rw[hXa];exact aG);have HA0:=aA hba;clear hXa hba)
  |(go_at_call 7;(with_reducible refine(HFw.out _ HA0.out).mono ?_);rintro e Wb ⟨rfl,Xb,hXb⟩;have HA1:=aA (aP HA0.out (show Below Wa.heap.size Wa Wb from(by rw[hXb];exact aG)));clear hXb))
 go_upto_region 8 with(go_at_call 8;(with_reducible refine(HP1.out _).mono ?_);rintro e W1 ⟨g,rfl,hb1,hr1⟩;have HB1:=aA (aP HA1.out hb1);have HR1:=aA hr1;clear hb1 hr1)
 clear HP1 HAw HA0 HA1 HFw;have HTW:=aA (λW (hb:Below W1.heap.size W1 W)=>HT.out W (aP HB1.out hb));have HFi:=aA (λW (hb:Below W1.heap.size W1 W)=>show Calls aE 9 #[.pointer (some ⟨g,0,none⟩),.string tag,.slice A l.length c] W (sR W (dB P tag.data.toList l))from
  CJ g P tag.data.toList A l.length c l W (HR1.out.below hb) hf1 hf2 (HTW.out W hb).1 (HTW.out W hb).2.1 (HTW.out W hb).2.2 om (HIn.out.bel (aP HB1.out hb)) (λa ha=>by have:=HZ.out a ha;omega) om hfo)
 have HFo:=aA (λW (hb:Below W1.heap.size W1 W)=>show Calls aE 10 #[.pointer (some ⟨g,0,none⟩),.string tag] W (sR W (cM P tag.data.toList))from FX g P tag.data.toList W (HR1.out.below hb) (by unfold maxLen;omega) hf2);have HLm:=aA (λW (hb:Below W1.heap.size W1 W)=>show Calls aE 14 #[.pointer (some ⟨g,0,none⟩)] W (aH (.tuple #[.int .i64 P.depth,.int .i64 P.name,.int .i64 P.value]) W)from VP g P W (HR1.out.below hb));have HTg:=aA (λW (hb:Below W1.heap.size W1 W)=>show Calls aE 12 #[.pointer (some ⟨g,0,none⟩),.string tag] W (aH (.bool (eW P tag.data.toList)) W)from yT g P tag.data.toList W (HR1.out.below hb) (by unfold maxLen;omega));have HAt:=aA (λ(n:Bs) (hn:n.length<=65536) W (hb:Below W1.heap.size W1 W)=>show Calls aE 15 #[.pointer (some ⟨g,0,none⟩),.string tag,.string ⟨n.toArray⟩] W (aH (.bool (tO P tag.data.toList n)) W)from ZM g P tag.data.toList n W (HR1.out.below hb) (by unfold maxLen;omega) (by unfold maxLen;omega));have HUn:=aA (λ(n:Bs) W=>show Calls aE 16 #[.string ⟨n.toArray⟩] W (aH (.bool (kC n)) W)from DJ n W);have hEa: ∀a∈dB P tag.data.toList l,eW P tag.data.toList=true/\(a∈cM P tag.data.toList\/tO P tag.data.toList a.1=true)/\kC a.1=false/\(a.1.length:Int)<=P.name/\(a.2.length:Int)<=P.value:=λa ha=>Ma hwr ha;have hAp:=Mc hrp tag.data.toList l;have hff:(cM P tag.data.toList).length<=200:=by unfold cM;rw[List.length_map];exact Nat.le_trans (List.length_filter_le _ _) hf2
 have hML:(dB P tag.data.toList l).length<=1000:=by have:=filt_len P tag.data.toList l;omega
 have HFj:=aA (λW (hb:Below W1.heap.size W1 W) A c (h:Rd W (.slice A (dB P tag.data.toList l).length c) (dB P tag.data.toList l).length 2 ((dB P tag.data.toList l).flatMap eA))=>show Calls aE 9 #[.pointer (some ⟨g,0,none⟩),.string tag,.slice A (dB P tag.data.toList l).length c] W (sR W (dB P tag.data.toList l))from by
  have h9:=CJ g P tag.data.toList A (dB P tag.data.toList l).length c (dB P tag.data.toList l) W (HR1.out.below hb) hf1 hf2 (HTW.out W hb).1 (HTW.out W hb).2.1 (HTW.out W hb).2.2 om h (λa ha=>by have:=hEa a ha;omega) om hfo;rw[Lw]at h9;exact h9)
 have HEa:=aA hEa;have HAp:=aA hAp;generalize dB P tag.data.toList l=M at*;generalize cM P tag.data.toList=F at*;generalize tag.data.toList=tg at*;clear hwr hrp h0 h1 _ht _hg htg HT HTW hEa hAp hf1 hf2 hfo;generalize P.depth=nd at*;generalize P.name=nn at*;generalize P.value=nv at*;go_upto_region 11 with(first
  |(go_at_call 14;(with_reducible refine zG (HLm.out _ (Below.refl _ _)) λX0=>?_))
  |(go_at_call 9;(with_reducible refine(HFi.out _ aG).mono ?_);rintro e V1 ⟨A2,c2,rfl,hb2,hn2,hc2,hr2⟩;have HB2:=aA (aP (show Below W1.heap.size W1 _ from aG) hb2);have HR2:=aA hr2;clear hb2 hn2 hr2 hc2)
  |(go_at_call 10;(with_reducible refine(HFo.out _ HB2.out).mono ?_);rintro e V2 ⟨A3,c3,rfl,hb3,hn3,hc3,hr3⟩;have HB3:=aA (aP HB2.out hb3);have HR3:=aA hr3;have HM3:=aA (HR2.out.bel hb3);clear hb3 hn3 hr3 hc3))
 clear HFi HFo HR2 HLm;go_wp2_with fail
 go_loopw [17] (λi wr=> ∃k:Nat,k<=M.length/\i= .int .i64 k/\Hid (Below V2.heap.size V2 wr)) (λi _=>M.length-(intOf i).toNat)
 case atStart=>exact⟨0,by omega,rfl,Below.refl _ _⟩
 case round=>
  obtain⟨k,hk,rfl,HBw⟩:=hrel;have HB1w:=aA (aP HB3.out HBw.out);have HBww:=aA (aP HB1.out HB1w.out);by_cases hlt:k<M.length
  .obtain⟨b,off,rfl,hb,x0,x1⟩:=HM3.out.pr k hlt;obtain⟨ht1,ho1,hu1,hn1,hv1⟩:=HEa.out M[k] (List.getElem_mem hlt);have HNe:=aA (λq (hq:q<k)=>show(M[q]' om).1≠M[k].1 from List.pairwise_iff_getElem.1 HAp.out q k _ hlt hq);have HAk:=aA (λW (hb:Below wr.heap.size wr W)=>HAt.out M[k].1 om W (aP HB1w.out hb));have HUk:=HUn.out M[k].1;have HTk:=aA (λW (hb:Below wr.heap.size wr W)=>HTg.out W (aP HB1w.out hb));have y0:=(HBw.out.cell (p:=⟨b,off+k*2,none⟩) hb).trans x0;have y1:=(HBw.out.cell (p:=⟨b,off+k*2+1,none⟩) hb).trans x1;have hbw:b<wr.heap.size:=bQ hb HBw.out.size;have HRm:=aA (HM3.out.bel HBw.out);have HRf:=aA (HR3.out.bel HBw.out);generalize M[k]=a at*;obtain⟨z1,z2⟩:=a;simp only at hu1 hn1 hv1 HAk HUk HNe y0 y1 ho1;rw[hu1]at HUk;have HUk2:=aA HUk;simp only[ht1]at HTk;have HNm:Hid (∀x:Bs,((⟨x.toArray⟩:ByteArray).toList==(⟨z1.toArray⟩:ByteArray).toList)=decide (x=z1)):=λx=>nD _ _;have HEq:Hid (∀x:Bs × Bs,(((⟨x.1.toArray⟩:ByteArray).toList==(⟨z1.toArray⟩:ByteArray).toList)&&((⟨x.2.toArray⟩:ByteArray).toList==(⟨z2.toArray⟩:ByteArray).toList))=decide (x=(z1,z2))):=λx=>by rw[nD,nD,Bool.eq_iff_iff];simp[Prod.ext_iff]
   have b1:decide (nn<((⟨z1.toArray⟩:ByteArray).size:Int))=false:=by rw[decide_eq_false_iff_not];show ¬nn<((z1.length:Nat):Int);omega
   have b2:decide (nv<((⟨z2.toArray⟩:ByteArray).size:Int))=false:=by rw[decide_eq_false_iff_not];show ¬nv<((z2.length:Nat):Int);omega
   simp only[sv]at y0 y1;clear x0 x1 hb hu1 HUk ht1 hn1 hv1;generalize(⟨z1.toArray⟩:ByteArray)=s1 at*;generalize(⟨z2.toArray⟩:ByteArray)=s2 at*;go_upto_region 19 with fail
   refine dL λW3 hW3=> ?_;have HB3w:Hid (Below wr.heap.size wr W3):=by show Below _ _ _;rw[hW3];exact aG
   obtain⟨bx,hbx⟩: ∃b,wr.heap.size=b:=⟨_,rfl⟩;have q0:W3.cell? ⟨bx,0,none⟩=some (.string s1):=by rw[hW3,<-hbx];simp[go_sem]
   have q1:W3.cell? ⟨bx,1,none⟩=some (.string s2):=by rw[hW3,<-hbx];simp[go_sem]
   have hxl:bx<W3.heap.size:=by rw[hW3,<-hbx];simp
   have HRf3:=aA (HRf.out.bel HB3w.out);have HRm3:=aA (HRm.out.bel HB3w.out);rw[hbx];clear y0 y1 hbx hW3 HRf HRm;go_loopw [19,20] (λf j w2=> ∃(q:Nat) (Y:Gr),q<=F.length/\j= .int .i64 q/\w2=W3.grow Y/\f= .bool (hasA (z1,z2) (F.take q))) (λ_ j _=>F.length-(intOf j).toNat)
   case atStart=>exact⟨0,_,by omega,rfl,(kW W3).symm,rfl⟩
   case round=>
    obtain⟨q,Y,hq,rfl,rfl,rfl⟩:=hrel;have y2:=xV (X:=Y) q0;have y3:=xV (X:=Y) q1;have hbw2:bx<(W3.grow Y).heap.size:=bQ hxl (dG W3 Y).size;have HR4:=aA (HRf3.out.grow Y);have HR5:=aA (HRm3.out.grow Y);have HBY:=aA (aP HB3w.out (dG W3 Y));obtain⟨WY,hWY⟩: ∃W,W3.grow Y=W:=⟨_,rfl⟩;rw[hWY]at y2 y3 hbw2 HR4 HR5 HBY ⊢;have HWY:=aA hWY;clear hWY;by_cases hql:q<F.length
    .obtain⟨b2,off2,rfl,hb2,e0,e1⟩:=HR4.out.pr q hql;have HNs:=aA (has_step (x:=(z1,z2)) hql);have hN2:=HEq.out F[q];simp only[sv]at e0 e1;generalize F[q]=n2 at*;obtain⟨na,nb⟩:=n2;simp only at hN2 e0 e1;generalize(⟨na.toArray⟩:ByteArray)=s4 at*;generalize(⟨nb.toArray⟩:ByteArray)=s5 at*;generalize decide ((na,nb)=(z1,z2))=dq at*;generalize hfl:hasA (z1,z2) (F.take q)=fl at*;clear hfl;cases fl
     .have HN2:Hid (hasA (z1,z2) (F.take (q+1))=dq):=HNs.out;clear HNs;cases dq;all_goals
       go_wp2_with fail
       refine dV kr kr  ?_;repeat(go_big_quiet_step(fail))
       refine wpQuiet_nil ?_;rintro _ ⟨nq,rfl⟩;go_wp2_with fail
       go_roundw
       case rel=>exact⟨q+1,_,by omega,by go_num,by rw[<-HWY.out];exact jV _ _ _,by rw[HN2.out]⟩
       case measure=>simp[intOf];omega
     .have HN2:Hid (hasA (z1,z2) (F.take (q+1))=true):=HNs.out;clear HNs;go_wp2_with fail
      refine dV kr kr  ?_;repeat(go_big_quiet_step(fail))
      refine wpQuiet_nil ?_;rintro _ ⟨nq,rfl⟩;go_wp2_with fail
      go_roundw
      case rel=>exact⟨q+1,_,by omega,by go_num,by rw[<-HWY.out];exact jV _ _ _,by rw[HN2.out]⟩
      case measure=>simp[intOf];omega
    .have hqn:q=F.length:=by omega
     subst hqn;rw[List.take_length];have hmu:hasA (z1,z2) F=true\/tO P tg z1=true:=ho1.elim (λh=> .inl (has_mem.trans (decide_eq_true h))) .inr;generalize hasA (z1,z2) F=mu at*;clear HR4 HWY hq HEq ho1 hql;go_wp2_with fail
     go_loopw [21] (λj w2=> ∃(q:Nat) (Y:Gr),q<=k/\j= .int .i64 q/\w2=WY.grow Y) (λj _=>k-(intOf j).toNat)
     case atStart=>exact⟨0,_,by omega,rfl,(kW WY).symm⟩
     case round=>
      obtain⟨q,Y,hq,rfl,rfl⟩:=hrel;have y4:=xV (X:=Y) y2;have y5:=xV (X:=Y) y3;have hbw3:bx<(WY.grow Y).heap.size:=bQ hbw2 (dG WY Y).size;have HR6:=aA (HR5.out.grow Y);have HBZ:=aA (aP HBY.out (dG WY Y));obtain⟨WZ,hWZ⟩: ∃W,WY.grow Y=W:=⟨_,rfl⟩;rw[hWZ]at y4 y5 hbw3 HR6 HBZ ⊢;have HWZ:=aA hWZ;clear hWZ;by_cases hql:q<k
      .obtain⟨b2,off2,he,hb2,e0,_⟩:=HR6.out.pr q om;cases he;have hN:=HNm.out M[q].1;rw[decide_eq_false (HNe.out q hql)]at hN;simp only[sv]at e0;generalize M[q].1=n2 at*;generalize(⟨n2.toArray⟩:ByteArray)=s4 at*;clear y2 y3 q0 q1;go_wp2_with fail
       refine dV kr kr  ?_;repeat(go_big_quiet_step(fail))
       refine wpQuiet_nil ?_;rintro _ ⟨nq,rfl⟩;go_wp2_with fail
       go_roundw
       case rel=>exact⟨q+1,_,by omega,by go_num,by rw[<-HWZ.out];exact jV _ _ _⟩
       case measure=>simp[intOf];omega
      .have hqn:q=k:=by omega
       subst hqn;clear y2 y3 q0 q1 HR5 HR6 HNm HNe;cases mu
       .have ha1:tO P tg z1=true:=by simpa using hmu
        rw[ha1]at HAk;clear ha1 hmu;go_wp2_with(first
         |(go_at_call 15;(with_reducible refine(HAk.out _ HBZ.out).mono ?_);rintro e V6 ⟨rfl,Y6,hY6⟩;have hb6:Below WZ.heap.size WZ V6:=(by rw[hY6];exact aG);have HB6:=aA (aP HBZ.out hb6);have c60:=(hb6.cell (p:=⟨bx,0,none⟩) hbw3).trans y4;have c61:=(hb6.cell (p:=⟨bx,1,none⟩) hbw3).trans y5;have hx6:=bQ hbw3 hb6.size;clear hY6 hb6)
         |(go_at_call 16;(with_reducible refine(HUk2.out _).mono ?_);rintro e V7 ⟨rfl,Y7,hY7⟩;have hb7:Below V6.heap.size V6 V7:=(by rw[hY7];exact aG);have HB7:=aA (aP HB6.out hb7);have c70:=(hb7.cell (p:=⟨bx,0,none⟩) hx6).trans c60;have c71:=(hb7.cell (p:=⟨bx,1,none⟩) hx6).trans c61;clear hY7 hb7)
         |(go_at_call 12;(with_reducible refine zG (HTk.out _ HB7.out) λY8=>?_)))
        go_roundw
        case rel=>exact⟨q+1,by omega,by go_num,aP HBw.out (aP HB7.out aG)⟩
        case measure=>simp[intOf];omega
       .go_wp2_with(first
         |(go_at_call 16;(with_reducible refine(HUk2.out _).mono ?_);rintro e V7 ⟨rfl,Y7,hY7⟩;have hb7:Below WZ.heap.size WZ V7:=(by rw[hY7];exact aG);have HB7:=aA (aP HBZ.out hb7);have c70:=(hb7.cell (p:=⟨bx,0,none⟩) hbw3).trans y4;have c71:=(hb7.cell (p:=⟨bx,1,none⟩) hbw3).trans y5;clear hY7 hb7)
         |(go_at_call 12;(with_reducible refine zG (HTk.out _ HB7.out) λY8=>?_)))
        go_roundw
        case rel=>exact⟨q+1,by omega,by go_num,aP HBw.out (aP HB7.out aG)⟩
        case measure=>simp[intOf];omega
  .have hkn:k=M.length:=by omega
   have HRm:=aA (HM3.out.bel HBw.out);go_wp2_with(first
    |(go_at_call 9;(with_reducible refine(HFj.out _ (aP HB1w.out aG) _ _ HRm.out).mono ?_);rintro e V5 ⟨A5,c5,rfl,hb5,hn5,hc5,hr5⟩;have HB5:=aA (aP HBw.out (aP (show Below wr.heap.size wr _ from aG) hb5));have HSa:=aA (SX A5 A2 M.length M.length c5 c2 M M V5 hr5 (HM3.out.bel HB5.out));clear hb5 hn5 hr5 hc5)
    |(go_at_call 13;(with_reducible refine HSa.out.mono ?_);rintro e W12 ⟨rfl,X12,rfl⟩))
   go_ret;exact aH.of (by simp) (aP HB1.out (aP HB3.out (aP HB5.out aG)))
theorem lifted (os:Os) (started:os.Started) (H:Type) (enc:TypeId × Value->H):
  ReturnsInHanded {} Tryz.checked os 5 .any (λw args=>(Rows.attrsSafeSpec.pre enc aE zj Rows.attrsSafeRow.domain false w args/\laidMetH aE Rows.attrsSafeRow.laid w)/\sizedMet enc aE zj (OpenSpec.ofChange Rows.attrsSafeSpec) false w args) (Rows.attrsSafeSpec.post enc aE zj false true false false):=by
 refine MV (C:=Tryz.checked) (X:=λw _=>laidMetH aE Rows.attrsSafeRow.laid w) (λ_ _ _ hh h=>h.of_heap hh) own started kr Zx
  (ChangeSpec.witness_shaped (enc:=enc) (C:=Tryz.checked) (os:=os) (X:=λw _=>laidMetH aE Rows.attrsSafeRow.laid w) false (World.laidAll aE os Rows.attrsSafeRow.laid) #[.string ⟨#[]⟩,.string ⟨#[]⟩,.slice none 0 0] 8 (World.laidAll_os _ _ _)
   (World.shaped_of_ZipB kr kr) kr kr kr
   (by rw[MakeChecks.laidMetH_plain _ _ _ kr];exact laidMet_laidAll _ kr kr)) ?_
 intro W base args ds gs before hval0 hW hL hsh;have hval: ∀(j:Nat) t v,zj.params[j]? =some t->args[j]? =some v->Value.okWide aE W .any base t v:=hval0;have hW':=hW;obtain⟨p,q,hA0,hV,rfl,hfz,hnd⟩:=hW;have hA:DataW.TrodAll enc aE W 0 (λ_=>true) true zj.params.toList args.toList ds p:=hA0;rw[Tryz.params5]at hA hval;obtain⟨v0,vs0,d0,ds0,p0,q0,hargs,rfl,rfl,h0,r0⟩:=trodAll_cons hA;obtain⟨v1,vs1,d1,ds1,p1,q1,rfl,rfl,rfl,h1,r1⟩:=trodAll_cons r0;obtain⟨v2,vs2,d2,ds2,p2,q2,rfl,rfl,rfl,h2,r2⟩:=trodAll_cons r1;obtain⟨rfl,rfl,rfl⟩:=trodAll_nil r2;obtain rfl:args= #[v0,v1,v2]:=by cases args;simp_all
 obtain⟨rfl,rfl⟩:=trodVars_none hV;obtain⟨s0,rfl,rfl,rfl,w0⟩:=open_string dH (hval 0 9 v0 rfl rfl) h0;obtain⟨s1,rfl,rfl,rfl,w1⟩:=open_string dH (hval 1 9 v1 rfl rfl) h1;obtain⟨a2,len2,cap2,rfl⟩:=okWide_slice Tryz.underlying22 (hval 2 22 v2 rfl rfl);have k2:=h2;have lt2: ∀x∈p2,x.block<W.heap.size:=by obtain⟨m,hm⟩:=k2;exact DataW.trod_lt m _ _ _ hm
 obtain⟨z2,e2,w2,m2⟩: ∃l:List (Bs × Bs),l.length=len2/\Rd W (.slice a2 len2 cap2) l.length 2 (l.flatMap eA)/\ ∀p∈l,p.1.length<=maxLen/\p.2.length<=maxLen:=by obtain⟨fuel,hf⟩:=h2;exact GO (by simpa[Value.cells]using hf)
 clear hA0 hval0;refine(walk s0 s1 (.slice a2 len2 cap2) z2 W (JO hL kr) (JR hL kr) (LX hsh) w0 w1 w2 m2).mono λe W' hend=> ?_;obtain⟨he,X,hX⟩:=hend;have aG:Below W.heap.size W W':=by rw[hX];exact dG W X
 subst he;exact⟨_,rfl,_,_,_,[],_,[],hW',trodAll_mk1 (shut_bool Tryz.underlying4 _),(trodAll_cons_mk (shut_string dH w0) (trodAll_cons_mk (shut_string dH w1) (trodAll_cons_mk (Below.trod laidOut kr (of_decide_eq_true kr) k2 aG lt2) trodAll_mk0))),rfl,aG.frame _,λh=>by cases h⟩
theorem over:Rows.attrsSafeRow.holds Tryz.pinned (OpenSpec.ofChange Rows.attrsSafeSpec):=
 OpenClaim.holds_of_wide 5 zj rfl rfl rfl rfl rfl rfl rfl ⟨rfl,rfl,rfl,rfl,rfl⟩ rfl rfl rfl rfl rfl kr Zx kr
  (of_decide_eq_true kr) (by unfold Func.isWrapper;rw[if_neg (of_decide_eq_false kr)];exact⟨rfl,rfl⟩)
  (λos started H enc _=>lifted os started H enc)
theorem proved:Rows.AttrsSafeCardSaid:=
 Claim7.holds_tied_plain_at .later [] [.data,.data,.data,.data,.pinned] true _ true over (λ_ h=>by cases h) kr (λ_ h=>by cases h) attrsSafe_row_tie rfl ⟨rfl,rfl⟩ kr rfl
  (λf fn hf hfn=>by
   obtain rfl:f=5:=Option.some.inj ((show aE.funcNamed "cribble/cribblelaw19.AttrsSafe" =some 5 by kernel_rfl).symm.trans hf) |>.symm
   obtain rfl:fn=zj:=(Option.some.inj (Zx.symm.trans hfn)).symm;exact⟨by kernel_rfl,λj t ht=>by
    rw[Tryz.params5]at ht;have hm:t∈[9,9,22]:=by simpa using Array.mem_of_getElem? ht
    have hall:([9,9,22].all λu=> !aE.wantsStandIn u)=true:=by kernel_rfl
    exact(show aE.wantsStandIn t=false by simpa using List.all_eq_true.1 hall t hm)⟩)
 kr 
end Go.Proofs.YtccjfanpjojbnaaGreatDoor.attrsSafe
