import Derived.Sort.CutIn
import Derived.Test.YtccjfanpjojbnaaGreatDoorJDecD
import Derived.Test.YtccjfanpjojbnaaGreatDoorJValE
namespace Go.Proofs.YtccjfanpjojbnaaGreatDoor
open Go.Ending renaming outgrown→Xi,panicked→Xj,returned→aL
open Go.IntKind renaming i64→aC
open Lib renaming hid→aA
open List renaming append_assoc→cY,append_nil→bV,drop→eL,length_drop→bL,length_take→bZ,mem_of_mem_drop→jd
open Nat renaming lt_of_lt_of_le→bQ
open Tryz renaming prog→aE
open Go.Value renaming agg→aR,int→aB,slice→aF
set_option maxRecDepth 100000
set_option maxHeartbeats 16000000
open Go.RowKit Go.Shelf
theorem T1 (A:Option Addr) (n c:Nat) (w:World):Calls aE 231 #[aF A n c] w λe w'=>e=aL (.func (.func 252) #[] #[Value.pointer (some ⟨w.heap.size,0,none⟩)])/\w.alloc (.cells #[aF A n c] 175)=w':=by
 go_enter Tryz.func231,Tryz.ntmps231;go_wp2
 go_ret;exact⟨rfl,rfl⟩
theorem OA {l:List aK} (h: ∀x∈l,jY x) (i:Nat):(gO l i).natAbs<=9223372036854775:=by
 unfold gO;split
 .rename_i x hx;have hm:=h x (List.mem_of_getElem? hx);have h1:=hm.nlo;have h2:=hm.nhi;have:=QR x.num;omega
 .simp
theorem Kr {l:List aK} (h: ∀x∈l,jY x):OD (gL l):=by
 have h1:=OA h 1;have h3:=OA h 3;have h9:((gO l 1).tdiv 90).natAbs=(gO l 1).natAbs/90:=by rw[Int.natAbs_tdiv];rfl
 unfold gL;split
 .exact⟨by decide,by decide,by decide,by decide,by decide,by decide,λh=>by simp at h⟩
 .split
  .exact⟨by simp only;omega,by simp only;omega,by simp only;omega,by simp only;omega,by simp only;omega,by simp only;omega,λh=>by simp at h⟩
  .split
   .exact⟨by simp only;omega,by simp only;omega,by simp only;omega,by simp only;omega,by simp only;omega,by simp only;omega,λ_=>by simp only;omega⟩
   .split
    .exact⟨by simp only;omega,by simp only;omega,by simp only;omega,by simp only;omega,by simp only;omega,by simp only;omega,λh=>by simp at h⟩
    .exact⟨by decide,by decide,by decide,by decide,by decide,by decide,λh=>by simp at h⟩
theorem XF (x:aK) (l:List aK):kV (x::l).length (x::l)=if fL (x::l)then(gL (x::l),true)::kV (gR (x::l)).length (gR (x::l))else [(gL (x::l),false)]:=by
 have h:=EJ x l;show kV (l.length+1) (x::l)=_;simp only[kV];rw[XE l.length (gR (x::l)).length (gR (x::l)) h (Nat.le_refl _)]
theorem GA {l:List aK} (h:fL l=true):(cZ (gL l)).length<=l.length:=by
 simp only[fL,decide_eq_true_eq]at h;have:=congrArg List.length h;rw[bZ]at this;omega
theorem FZ (l:List aK):fL l=decide (l.take (min (cZ (gL l)).length l.length)=cZ (gL l)):=by
 unfold fL;rw[List.take_eq_take_min]
theorem pY {c:Code} {F:Fence} {n:Nat} {P:Program} {Q:Exit->Act->World->Prop} {a:Act} {w:World} (h: ∀W,w=W->c.wpIn F n P Q a W):c.wpIn F n P Q a w:=h w rfl
structure SB where
 st:St
 ok:Bool
def SB.of (p:St × Bool):SB:=⟨p.1,p.2⟩
def eH (l:List aK):List SB:=(kV l.length l).map SB.of
theorem MX:eH []=[]:=rfl
theorem CD {x:aK} {l:List aK} (h:fL (x::l)=true):eH (x::l)=⟨gL (x::l),true⟩::eH (gR (x::l)):=by
 unfold eH;rw[XF,if_pos h];rfl
theorem CE {x:aK} {l:List aK} (h:fL (x::l)=false):eH (x::l)=[⟨gL (x::l),false⟩]:=by
 unfold eH;rw[XF,if_neg (by simp[h])];rfl
theorem S9 (lb:Nat) (bw:Nat->Prop) (A:Option Addr) (c:Nat) (l:List aK) (W:World) (hl:Boxed W lb 175 (aF A l.length c)) (hbl: ¬bw lb) (hr:Rd W (aF A l.length c) l.length 4 (bC l))
  (hA:l≠[]-> ∀b off s,A=some ⟨b,off,s⟩->s=none/\b≠lb/\ ¬bw b) (hA0:A=none->l=[]) (hc:l.length<=c) (hp: ∀x∈l,jY x) (hn:l.length<=1000000000):
  yM aE 252 #[Value.pointer (some ⟨lb,0,none⟩)] (λx:SB=> #[x.st.val,Value.bool x.ok]) (λk=>k=lb) bw (eH l) W:=by
 intro ll J Jx hJ hY h0;have hmx:=bX;refine callsIn_of_wp Tryz.func252 rfl trivial ?_ rfl;simp only[Tryz.ntmps252,List.size_toArray,List.length_cons,List.length_nil,Nat.reduceAdd,Nat.reduceSub,Array.replicate_succ,Array.replicate_zero,List.push_toArray,List.append_toArray,List.nil_append,List.cons_append];obtain⟨xs,hxs⟩: ∃xs,eH l=xs:=⟨_,rfl⟩;have HXS:=aA hxs;rw[hxs]at hY ⊢;clear hxs;gi_wp2_with fail
 gi_loopw [6] (λ_ wr=> ∃(A':Option Addr) (c':Nat) (l':List aK) (pre:List SB),l'.length<=l.length/\Boxed wr lb 175 (aF A' l'.length c')/\Rd wr (aF A' l'.length c') l'.length 4 (bC l')/\
   Hid (l'≠[]-> ∀b off s,A'=some ⟨b,off,s⟩->s=none/\b≠lb/\ ¬bw b)/\Hid (A'=none->l'=[])/\l'.length<=c'/\Hid (∀x∈l',jY x)/\Hid (J pre wr)/\Hid (pre++eH l'=xs)) (λ_ wr=>FG wr lb)
 case atStart=>
  exact⟨A,c,l,[],Nat.le_refl _,hl,hr,hA,hA0,hc,hp,h0,HXS.out⟩
 case round=>
  clear hl hr hA hA0 hc hp h0;obtain⟨A',c',l',pre,hle,hl,hr,HA,HA0,hc,HP,HJ,HK⟩:=hrel;have g3:=hl.cell;have g4:=hl.frozen;have hlt2:=hl.lt;cases l' with
  |nil=>
   have HX:Hid (J xs wr):=by
    have:=HK.out;rw[MX,bV]at this;rw[<-this];exact HJ.out
   simp only[List.length_nil]at g3;gi_wp2_with fail
   refine bodyPost_end (results_none rfl _ _ _) rfl ?_;exact⟨⟨_,rfl⟩,.inl HX.out⟩
  |cons x r=>
   have hpos:(0:Int)<((x::r).length:Int):=by simp only[List.length_cons];omega
   obtain⟨b,off,rfl,hb,c0,c1,c2,c3⟩:=hr.css 0 (by simp);obtain⟨hsp,hblb,hbbw⟩:=HA.out (by simp) b off none rfl;have HR:=aA hr;have HL:=aA hl;have hn9:(x::r).length<=1000000000:=by omega
   have HS:=aA (Kr HP.out);have HAt:=aA (λ(i:Nat) W (hW:Below wr.heap.size wr W)=>Rv (some ⟨b,off,none⟩) (x::r).length c' (x::r) i W (by obtain⟨X,rfl⟩:=cV hW;exact hr.grow X) hn9 HP.out);have HG:Hid (gL (x::r)=if x.text=rD then⟨1,gO (x::r) 1,gO (x::r) 3⟩else if x.text=rX then⟨2,(gO (x::r) 1).tdiv 90,0⟩else if x.text=sA then⟨3,gO (x::r) 1,0⟩else⟨4,0,0⟩):=rfl;have hne0:(x::r).length≠0:=by simp
   simp only[List.getElem_cons_zero,Nat.zero_mul,Nat.add_zero,sv]at c0 c1 c2 c3;have hz: ∀t:Bs,((⟨x.text.toArray⟩:ByteArray).toList==t)=decide (x.text=t):=λt=>by rw[ByteArray.toList_eq,Bool.eq_iff_iff];simp
   have z1:=hz [116,114,97,110,115,108,97,116,101];have z2:=hz [114,111,116,97,116,101];have z3:=hz [115,99,97,108,101];clear hz hr hl;generalize hT:(⟨x.text.toArray⟩:ByteArray)=a1 at*;generalize(⟨x.unit.toArray⟩:ByteArray)=a2 at*;generalize x.num=nn at*;generalize x.kind=kk at*;generalize hlen:(x::r).length=N at*;have HLen:=aA hlen;clear hlen;have hy9: ∀i,(gO (x::r) i).natAbs<=9223372036854775:=OA HP.out;by_cases t1:x.text=rD
   .rw[show decide (x.text=[116,114,97,110,115,108,97,116,101])=true from decide_eq_true t1]at z1;rw[if_pos t1]at HG;clear t1 z2 z3 hT hy9;have HA1:=aA (λW (hW:Below wr.heap.size wr W)=>show Calls aE 253 #[aF (some ⟨b,off,none⟩) N c',aB aC 1] W (aH (aB aC (gO (x::r) 1)) W)from HAt.out 1 W hW);have HA3:=aA (λW (hW:Below wr.heap.size wr W)=>show Calls aE 253 #[aF (some ⟨b,off,none⟩) N c',aB aC 3] W (aH (aB aC (gO (x::r) 3)) W)from HAt.out 3 W hW);clear HAt;generalize gO (x::r) 1=y1 at*;generalize gO (x::r) 3=y3 at*;gi_upto_region 4 with fail
    refine pY λW4 hW4=> ?_;have HB4:Hid (Below wr.heap.size wr W4):=by show Below _ _ _;rw[<-hW4];exact aG
    have hs4:wr.heap.size<W4.heap.size:=by rw[<-hW4];simp
    have k0:W4.cell? ⟨wr.heap.size,0,none⟩=some (aB aC 4):=by rw[<-hW4];simp[go_sem]
    have k1:W4.cell? ⟨wr.heap.size,1,none⟩=some (aB aC 0):=by rw[<-hW4];simp[go_sem]
    have k2:W4.cell? ⟨wr.heap.size,2,none⟩=some (aB aC 0):=by rw[<-hW4];simp[go_sem]
    have f0:W4.frozen? ⟨wr.heap.size,0,none⟩=false:=by rw[<-hW4];simp[go_sem]
    have f1:W4.frozen? ⟨wr.heap.size,1,none⟩=false:=by rw[<-hW4];simp[go_sem]
    have f2:W4.frozen? ⟨wr.heap.size,2,none⟩=false:=by rw[<-hW4];simp[go_sem]
    have hl4:lb<W4.heap.size:=by omega
    have g5:=(HB4.out.cell hlt2).trans g3;clear hW4;refine DD 5 rfl kr kr  ?_;dsimp only[List.take,eL];repeat(gi_big_quiet_step (first|(gi_at_call 253;with_reducible exact CallsIn.grow_of (HA1.out _ (aP HB4.out (dG _ _))))|(gi_at_call 253;with_reducible exact CallsIn.grow_of (HA3.out _ (aP HB4.out (dG _ _))))))
    refine wpQuietIn_nil ?_;rintro _ ⟨nq,rfl⟩;gi_upto_region 9 with fail
    refine pY λW9 hW9=> ?_;have HB9:Hid (Below wr.heap.size wr W9):=by show Below _ _ _;rw[<-hW9];exact rJ HB4.out aG
    have m0:W9.cell? ⟨wr.heap.size,0,none⟩=some (aB aC (1)):=by rw[<-hW9];simp[go_sem,k0,hs4]
    have m1:W9.cell? ⟨wr.heap.size,1,none⟩=some (aB aC (y1)):=by rw[<-hW9];simp[go_sem,k1,hs4]
    have m2:W9.cell? ⟨wr.heap.size,2,none⟩=some (aB aC (y3)):=by rw[<-hW9];simp[go_sem,k2,hs4]
    clear hW9;clear HB4 hs4 k0 k1 k2 f0 f1 f2 hl4 g5 HA1 HA3;obtain⟨TS,hTS⟩: ∃TS,cZ (gL (x::r))=TS:=⟨_,rfl⟩;have HTo:=aA (λW=>show Calls aE 237 #[aR #[aB aC (1),aB aC (y1),aB aC (y3)]] W (lQ W TS.length 4 209 (bC TS))from by
     have e9:=HG.out;have h9:=AV ⟨1,y1,y3⟩ W (e9 ▸ HS.out);rw[show cZ ⟨1,y1,y3⟩=TS by rw[<-e9];exact hTS]at h9;exact h9)
    have htl:3<=TS.length/\TS.length<=5:=by rw[<-hTS];exact tX _
    have HFit:Hid (fL (x::r)=decide ((x::r).take (min TS.length N)=TS)):=by show _=_;rw[FZ,hTS,HLen.out]
    have HFl:Hid (fL (x::r)=true->TS.length<=N):=λh=>by have h9:=GA h;rw[hTS,HLen.out]at h9;exact h9
    have HRest:Hid (gR (x::r)=(x::r).drop TS.length):=by show _=_;unfold gR;rw[hTS]
    have HVy:Hid (fL (x::r)=true->eH (x::r)=⟨⟨1,y1,y3⟩,true⟩::eH (gR (x::r))):=λh=>by rw[CD h,HG.out]
    have HVn:Hid (fL (x::r)=false->eH (x::r)=[⟨⟨1,y1,y3⟩,false⟩]):=λh=>by rw[CE h,HG.out]
    clear hTS HG HS;generalize hms:min TS.length N=mn at*;have hmn:mn<=N/\mn<=TS.length:=by omega
    obtain⟨hmn1,hmn2⟩:=hmn;have HMs:=aA hms;clear hms;have s9:wr.heap.size<W9.heap.size:=World.block_lt_of_cell? W9 _ m0;have hl9:lb<W9.heap.size:=by omega
    have g9:=(HB9.out.cell hlt2).trans g3;refine tW 6 [(0,true),(3,true),(4,true),(1,false),(2,true),(5,true)] (λW=>Below W9.heap.size W9 W) hmx (by rintro⟨_,_,h⟩;have h2:(∃v,Xi=aL v)/\_:=h;obtain⟨⟨v,hv⟩,_⟩:=h2;cases hv) kr kr kr dc  rfl (λc a d v w h=>by have h2:_/\(∃v,Xj c=aL v)/\_:=h;obtain⟨_,⟨v,hv⟩,_⟩:=h2;cases hv) kr ((Below.refl _ _).drew) ?_;refine bN (v:= aR #[aB aC (1),aB aC (y1),aB aC (y3)]) rfl rfl (λW hW=>by have q0:=(hW.cell s9).trans m0;have q1:=(hW.cell s9).trans m1;have q2:=(hW.cell s9).trans m2;simp[execOp,go_sem,q0,q1,q2]) ?_;refine bN (v:= aF (some ⟨b,off,none⟩) N c') rfl rfl (λW hW=>by have q0:=(hW.cell hl9).trans g9;simp[execOp,go_sem,q0]) ?_;refine bN (v:= aB aC (N:Nat)) rfl rfl (λW _=>by simp[execOp,go_sem]) ?_;refine cC rfl rfl λKc hKc=> ?_;unfold Oper.wp;simp[execOp,go_sem];refine(HTo.out _).mono ?_;rintro e w' ⟨v3,X3,rfl,rfl,ho3⟩;obtain⟨gt,cap3,rfl⟩:=Go.Joins.ownsRow_form ho3 om;apply hKc;refine⟨aG, ?_⟩;refine bN (v:= aB aC (TS.length:Nat)) rfl rfl (λW _=>by simp[execOp,go_sem]) ?_;refine bN (v:= aB aC (mn:Nat)) rfl rfl (λW _=>by have:=HMs.out;simp[execOp,go_sem];omega) ?_;dsimp only[dD,eL];go_wp2_with fail
    gi_upto_region 10 with fail
    refine pY λW10 hW10=> ?_;have HB10:Hid (Below wr.heap.size wr W10):=by show Below _ _ _;rw[<-hW10];exact rJ HB9.out aG
    have HB9':Hid (Below W9.heap.size W9 W10):=by show Below _ _ _;rw[<-hW10];exact aG
    have s10:wr.heap.size<W10.heap.size:=bQ s9 HB9'.out.size;have hl10:lb<W10.heap.size:=by omega
    have n0:=(HB9'.out.cell s9).trans m0;have n1:=(HB9'.out.cell s9).trans m1;have n2:=(HB9'.out.cell s9).trans m2;have g10:=(HB10.out.cell hlt2).trans g3;have HRt:Hid (Rd W10 (aF (some ⟨b,off,none⟩) mn c') ((x::r).take mn).length 4 (bC ((x::r).take mn))):=by
     show Rd _ _ _ _ _;have hq1:=HR.out;rw[<-HLen.out]at hq1;have hq:=Rd.take4 hq1 mn (by rw[HLen.out];exact hmn1);have h8:((x::r).take mn).length=mn:=by rw[bZ,HLen.out];omega
     rw[h8]at hq ⊢;obtain⟨X,hX⟩:=cV HB10.out;rw[hX];exact hq.grow X
    have HEq:=aA (λW (hB:Below W10.heap.size W10 W) A2 n2 c2 (hb:Rd W (aF A2 n2 c2) TS.length 4 (bC TS))=>zZ (some ⟨b,off,none⟩) A2 mn n2 c' c2 ((x::r).take mn) TS W (by obtain⟨X,rfl⟩:=cV hB;exact HRt.out.grow X) hb);rw[<-HFit.out]at HEq;clear hW10 ho3 HB9 HB9' m0 m1 m2 s9 hl9 g9;have i1:(0:Int)<=(mn:Int)/\(mn:Int)<=c':=by omega
    refine tW 6 [(0,true),(1,true),(2,true),(3,true),(4,false),(5,false)] (λW=>Below W10.heap.size W10 W) hmx (by rintro⟨_,_,h⟩;have h2:(∃v,Xi=aL v)/\_:=h;obtain⟨⟨v,hv⟩,_⟩:=h2;cases hv) kr kr kr dc  rfl (λc a d v w h=>by have h2:_/\(∃v,Xj c=aL v)/\_:=h;obtain⟨_,⟨v,hv⟩,_⟩:=h2;cases hv) kr ((Below.refl _ _).drew) ?_;refine bN (v:= aF (some ⟨b,off,none⟩) N c') rfl rfl (λW hW=>by have q0:=(hW.cell hl10).trans g10;simp[execOp,go_sem,q0]) ?_;refine bN (v:= aB aC (mn:Nat)) rfl rfl (λW _=>by simp[execOp,go_sem]) ?_;refine bN (v:= aF (some ⟨b,off,none⟩) mn c') rfl rfl (λW _=>by simp[execOp,go_sem];omega) ?_;refine bN (v:= aR #[aB aC (1),aB aC (y1),aB aC (y3)]) rfl rfl (λW hW=>by have q0:=(hW.cell s10).trans n0;have q1:=(hW.cell s10).trans n1;have q2:=(hW.cell s10).trans n2;simp[execOp,go_sem,q0,q1,q2]) ?_;refine cC rfl rfl λKc hKc=> ?_;unfold Oper.wp;simp[execOp,go_sem];refine(HTo.out _).mono ?_;rintro e w' ⟨v4,X4,rfl,rfl,ho4⟩;obtain⟨gt4,cap4,rfl⟩:=Go.Joins.ownsRow_form ho4 om;apply hKc;refine⟨aG, ?_⟩;refine cC rfl rfl λKd hKd=> ?_;unfold Oper.wp;simp[execOp,go_sem];refine(HEq.out _ aG _ _ _ (Rd.own ho4)).mono ?_;rintro e w' ⟨rfl,X5,rfl⟩;apply hKd;refine⟨aG, ?_⟩;dsimp only[dD,eL];go_wp2_with fail
    gi_upto_region 11 with fail
    refine pY λW11 hW11=> ?_;have HB11:Hid (Below wr.heap.size wr W11):=by show Below _ _ _;rw[<-hW11];exact rJ HB10.out aG
    have HB12:Hid (Below W10.heap.size W10 W11):=by show Below _ _ _;rw[<-hW11];exact aG
    have p0:=(HB12.out.cell s10).trans n0;have p1:=(HB12.out.cell s10).trans n1;have p2:=(HB12.out.cell s10).trans n2;have HT11:Hid (aJ (λ_=>False) wr W11):=aJ.of_below HB11.out;have HJ11:=aA (hJ _ _ _ HJ.out (HT11.out.mono λ_ h=>h.elim));have HL11:=aA (HT11.out.boxed HL.out (λh=>h));clear hW11 ho4 HB10 HB12 n0 n1 n2 s10 hl10 g10 HRt HEq HTo HJ HB11;cases hfit:fL (x::r)
    .have HX:Hid (pre++[⟨⟨1,y1,y3⟩,false⟩]=xs):=by show _=_;rw[<-HK.out,HVn.out hfit]
     clear hfit HFit HFl HVy HVn HRest HK;gi_wp2_with fail
     refine pS (hY pre ⟨⟨1,y1,y3⟩,false⟩ _ ⟨[],by rw[bV];exact HX.out⟩ HJ11.out) rfl ?_;rintro e W3 (⟨rfl,hJ3,ht3⟩|⟨rfl,hJx⟩)
     .refine⟨_,rfl, ?_⟩;gi_wp2_with fail
      refine bodyPost_ret (results_none rfl _ _ _) rfl ?_;rw[HX.out]at hJ3;exact⟨⟨_,rfl⟩,.inl hJ3⟩
     .refine⟨_,rfl, ?_⟩;gi_wp2_with fail
      refine bodyPost_ret (results_none rfl _ _ _) rfl ?_;exact⟨⟨_,rfl⟩,.inr ⟨pre,_,⟨[],by rw[bV];exact HX.out⟩,hJx⟩⟩
    .have hmt:mn=TS.length:=by have h1:=HFl.out hfit;have h2:=HMs.out;omega
     have HX:Hid (pre++[⟨⟨1,y1,y3⟩,true⟩]++eH ((x::r).drop mn)=xs):=by show _=_;rw[<-HK.out,HVy.out hfit,HRest.out,hmt,cY];rfl
     have hm3:3<=mn:=by omega
     have hdk:((x::r).drop mn).length=N-mn:=by rw[bL,HLen.out]
     have hr4:=Rd.drop4 (show Rd wr (aF (some ⟨b,off,none⟩) N c') (x::r).length 4 (bC (x::r)) by rw[HLen.out];exact HR.out) mn (by rw[HLen.out];exact hmn1);obtain⟨Av,hAv⟩: ∃Av,(if c'=mn then some (⟨b,off,none⟩:Addr)else some ⟨b,off+mn*4,none⟩)=Av:=⟨_,rfl⟩;have HAv2:Hid (∀b' off' s,Av=some ⟨b',off',s⟩->s=none/\b'=b):=λb' off' s h=>by
      rw[<-hAv]at h;split at h<;>(cases h;exact⟨rfl,rfl⟩)
     have HAv3:Hid (Av≠none):=by
      show _≠_;rw[<-hAv];split<;>simp
     have hr5:Rd wr (aF Av ((x::r).drop mn).length (c'-mn)) ((x::r).drop mn).length 4 (bC ((x::r).drop mn)):=by
      by_cases hck:c'=mn
      .refine⟨oY aK.cells 4 (λ_=>rfl) _,by rw[hdk];have:=hr4.2.1;omega,_,_,rfl,λhn0=> ?_⟩;rw[hdk]at hn0;omega
      .rw[if_neg hck]at hAv;rw[<-hAv];exact hr4
     rw[hdk]at hr5;have HR4:=aA hr5;have HDK:=aA hdk;have HP4:Hid (∀y∈(x::r).drop mn,jY y):=λy hy=>HP.out y (jd hy);have hkc:mn<=c':=by omega
     clear hfit HFit HFl HVy HVn HRest HK hr5 hr4 hdk hmt htl HMs hmn2;gi_wp2_with fail
     refine pS (hY pre ⟨⟨1,y1,y3⟩,true⟩ _ ⟨_,HX.out⟩ HJ11.out) rfl ?_;rintro e W3 (⟨rfl,hJ3,ht3⟩|⟨rfl,hJx⟩)
     .refine⟨_,rfl, ?_⟩;have HL4:=aA (ht3.boxed HL11.out hbl);have t3:=HL4.out.cell;have t4:=HL4.out.frozen;have tlt:=HL4.out.lt;have HT3:=aA ht3;have HJ3:=aA hJ3;clear hJ3 ht3 g3 g4 p0 p1 p2 c0 c1 c2 c3;gi_wp2_with fail
      go_roundw
      case rel=>
       have hTl:aJ (λk=>k=lb) W3 (W3.setCell ⟨lb,0,none⟩ (aF Av (N-mn) (c'-mn))):=aJ.setCell (pv:=λk=>k=lb) (aJ.refl _ _) (Or.inr rfl) _;refine⟨Av,c'-mn,(x::r).drop mn,_,by rw[HDK.out];omega,by rw[HDK.out];exact HL4.out.set _, ?_, ?_,λh=>absurd h HAv3.out,by rw[HDK.out];omega,HP4.out,hJ _ _ _ HJ3.out hTl,HX.out⟩
       .rw[HDK.out];refine Rd.turned (pv:=bw) (Rd.turned (pv:=λ_=>False) HR4.out HT11.out ?_) HT3.out ?_ |>.turned hTl ?_
        all_goals(intro b' off' s h;obtain⟨rfl,rfl⟩:=HAv2.out _ _ _ h;first|assumption|exact hblb|exact λh=>h)
       .intro _ b' off' s h;obtain⟨rfl,rfl⟩:=HAv2.out _ _ _ h;exact⟨rfl,hblb,hbbw⟩
      case measure=>
       rw[tJ (HL4.out.set _),tJ HL.out];omega
     .refine⟨_,rfl, ?_⟩;gi_wp2_with fail
      refine bodyPost_ret (results_none rfl _ _ _) rfl ?_;exact⟨⟨_,rfl⟩,.inr ⟨pre,_,⟨_,HX.out⟩,hJx⟩⟩
   rw[if_neg t1]at HG;rw[show decide (x.text=[116,114,97,110,115,108,97,116,101])=false from decide_eq_false t1]at z1;by_cases t2:x.text=rX
   .rw[show decide (x.text=[114,111,116,97,116,101])=true from decide_eq_true t2]at z2;rw[if_pos t2]at HG;have hy:=hy9 1;clear t1 t2 z3 hT hy9;have HA1:=aA (λW (hW:Below wr.heap.size wr W)=>show Calls aE 253 #[aF (some ⟨b,off,none⟩) N c',aB aC 1] W (aH (aB aC (gO (x::r) 1)) W)from HAt.out 1 W hW);clear HAt;generalize gO (x::r) 1=y1 at*;have hq:wrap64 (y1.tdiv 90)=y1.tdiv 90:=IntWalk.wrap64_in _ (by have e9:(y1.tdiv 90).natAbs=y1.natAbs/90:=(by rw[Int.natAbs_tdiv];rfl);omega);gi_upto_region 9 with(gi_at_call 253;(with_reducible refine(GJ (HA1.out _ aG)).mono ?_);rintro e w' ⟨rfl,X1,rfl⟩)
    refine pY λW9 hW9=> ?_;have HB9:Hid (Below wr.heap.size wr W9):=by show Below _ _ _;rw[<-hW9];exact aG
    have m0:W9.cell? ⟨wr.heap.size,0,none⟩=some (aB aC (2)):=by rw[<-hW9];simp[go_sem]
    have m1:W9.cell? ⟨wr.heap.size,1,none⟩=some (aB aC (y1.tdiv 90)):=by rw[<-hW9];simp[go_sem]
    have m2:W9.cell? ⟨wr.heap.size,2,none⟩=some (aB aC (0)):=by rw[<-hW9];simp[go_sem]
    clear hW9;clear HA1;obtain⟨TS,hTS⟩: ∃TS,cZ (gL (x::r))=TS:=⟨_,rfl⟩;have HTo:=aA (λW=>show Calls aE 237 #[aR #[aB aC (2),aB aC (y1.tdiv 90),aB aC (0)]] W (lQ W TS.length 4 209 (bC TS))from by
     have e9:=HG.out;have h9:=AV ⟨2,y1.tdiv 90,0⟩ W (e9 ▸ HS.out);rw[show cZ ⟨2,y1.tdiv 90,0⟩=TS by rw[<-e9];exact hTS]at h9;exact h9)
    have htl:3<=TS.length/\TS.length<=5:=by rw[<-hTS];exact tX _
    have HFit:Hid (fL (x::r)=decide ((x::r).take (min TS.length N)=TS)):=by show _=_;rw[FZ,hTS,HLen.out]
    have HFl:Hid (fL (x::r)=true->TS.length<=N):=λh=>by have h9:=GA h;rw[hTS,HLen.out]at h9;exact h9
    have HRest:Hid (gR (x::r)=(x::r).drop TS.length):=by show _=_;unfold gR;rw[hTS]
    have HVy:Hid (fL (x::r)=true->eH (x::r)=⟨⟨2,y1.tdiv 90,0⟩,true⟩::eH (gR (x::r))):=λh=>by rw[CD h,HG.out]
    have HVn:Hid (fL (x::r)=false->eH (x::r)=[⟨⟨2,y1.tdiv 90,0⟩,false⟩]):=λh=>by rw[CE h,HG.out]
    clear hTS HG HS;generalize hms:min TS.length N=mn at*;have hmn:mn<=N/\mn<=TS.length:=by omega
    obtain⟨hmn1,hmn2⟩:=hmn;have HMs:=aA hms;clear hms;have s9:wr.heap.size<W9.heap.size:=World.block_lt_of_cell? W9 _ m0;have hl9:lb<W9.heap.size:=by omega
    have g9:=(HB9.out.cell hlt2).trans g3;refine tW 6 [(0,true),(3,true),(4,true),(1,false),(2,true),(5,true)] (λW=>Below W9.heap.size W9 W) hmx (by rintro⟨_,_,h⟩;have h2:(∃v,Xi=aL v)/\_:=h;obtain⟨⟨v,hv⟩,_⟩:=h2;cases hv) kr kr kr dc  rfl (λc a d v w h=>by have h2:_/\(∃v,Xj c=aL v)/\_:=h;obtain⟨_,⟨v,hv⟩,_⟩:=h2;cases hv) kr ((Below.refl _ _).drew) ?_;refine bN (v:= aR #[aB aC (2),aB aC (y1.tdiv 90),aB aC (0)]) rfl rfl (λW hW=>by have q0:=(hW.cell s9).trans m0;have q1:=(hW.cell s9).trans m1;have q2:=(hW.cell s9).trans m2;simp[execOp,go_sem,q0,q1,q2]) ?_;refine bN (v:= aF (some ⟨b,off,none⟩) N c') rfl rfl (λW hW=>by have q0:=(hW.cell hl9).trans g9;simp[execOp,go_sem,q0]) ?_;refine bN (v:= aB aC (N:Nat)) rfl rfl (λW _=>by simp[execOp,go_sem]) ?_;refine cC rfl rfl λKc hKc=> ?_;unfold Oper.wp;simp[execOp,go_sem];refine(HTo.out _).mono ?_;rintro e w' ⟨v3,X3,rfl,rfl,ho3⟩;obtain⟨gt,cap3,rfl⟩:=Go.Joins.ownsRow_form ho3 om;apply hKc;refine⟨aG, ?_⟩;refine bN (v:= aB aC (TS.length:Nat)) rfl rfl (λW _=>by simp[execOp,go_sem]) ?_;refine bN (v:= aB aC (mn:Nat)) rfl rfl (λW _=>by have:=HMs.out;simp[execOp,go_sem];omega) ?_;dsimp only[dD,eL];go_wp2_with fail
    gi_upto_region 10 with fail
    refine pY λW10 hW10=> ?_;have HB10:Hid (Below wr.heap.size wr W10):=by show Below _ _ _;rw[<-hW10];exact rJ HB9.out aG
    have HB9':Hid (Below W9.heap.size W9 W10):=by show Below _ _ _;rw[<-hW10];exact aG
    have s10:wr.heap.size<W10.heap.size:=bQ s9 HB9'.out.size;have hl10:lb<W10.heap.size:=by omega
    have n0:=(HB9'.out.cell s9).trans m0;have n1:=(HB9'.out.cell s9).trans m1;have n2:=(HB9'.out.cell s9).trans m2;have g10:=(HB10.out.cell hlt2).trans g3;have HRt:Hid (Rd W10 (aF (some ⟨b,off,none⟩) mn c') ((x::r).take mn).length 4 (bC ((x::r).take mn))):=by
     show Rd _ _ _ _ _;have hq1:=HR.out;rw[<-HLen.out]at hq1;have hq:=Rd.take4 hq1 mn (by rw[HLen.out];exact hmn1);have h8:((x::r).take mn).length=mn:=by rw[bZ,HLen.out];omega
     rw[h8]at hq ⊢;obtain⟨X,hX⟩:=cV HB10.out;rw[hX];exact hq.grow X
    have HEq:=aA (λW (hB:Below W10.heap.size W10 W) A2 n2 c2 (hb:Rd W (aF A2 n2 c2) TS.length 4 (bC TS))=>zZ (some ⟨b,off,none⟩) A2 mn n2 c' c2 ((x::r).take mn) TS W (by obtain⟨X,rfl⟩:=cV hB;exact HRt.out.grow X) hb);rw[<-HFit.out]at HEq;clear hW10 ho3 HB9 HB9' m0 m1 m2 s9 hl9 g9;have i1:(0:Int)<=(mn:Int)/\(mn:Int)<=c':=by omega
    refine tW 6 [(0,true),(1,true),(2,true),(3,true),(4,false),(5,false)] (λW=>Below W10.heap.size W10 W) hmx (by rintro⟨_,_,h⟩;have h2:(∃v,Xi=aL v)/\_:=h;obtain⟨⟨v,hv⟩,_⟩:=h2;cases hv) kr kr kr dc  rfl (λc a d v w h=>by have h2:_/\(∃v,Xj c=aL v)/\_:=h;obtain⟨_,⟨v,hv⟩,_⟩:=h2;cases hv) kr ((Below.refl _ _).drew) ?_;refine bN (v:= aF (some ⟨b,off,none⟩) N c') rfl rfl (λW hW=>by have q0:=(hW.cell hl10).trans g10;simp[execOp,go_sem,q0]) ?_;refine bN (v:= aB aC (mn:Nat)) rfl rfl (λW _=>by simp[execOp,go_sem]) ?_;refine bN (v:= aF (some ⟨b,off,none⟩) mn c') rfl rfl (λW _=>by simp[execOp,go_sem];omega) ?_;refine bN (v:= aR #[aB aC (2),aB aC (y1.tdiv 90),aB aC (0)]) rfl rfl (λW hW=>by have q0:=(hW.cell s10).trans n0;have q1:=(hW.cell s10).trans n1;have q2:=(hW.cell s10).trans n2;simp[execOp,go_sem,q0,q1,q2]) ?_;refine cC rfl rfl λKc hKc=> ?_;unfold Oper.wp;simp[execOp,go_sem];refine(HTo.out _).mono ?_;rintro e w' ⟨v4,X4,rfl,rfl,ho4⟩;obtain⟨gt4,cap4,rfl⟩:=Go.Joins.ownsRow_form ho4 om;apply hKc;refine⟨aG, ?_⟩;refine cC rfl rfl λKd hKd=> ?_;unfold Oper.wp;simp[execOp,go_sem];refine(HEq.out _ aG _ _ _ (Rd.own ho4)).mono ?_;rintro e w' ⟨rfl,X5,rfl⟩;apply hKd;refine⟨aG, ?_⟩;dsimp only[dD,eL];go_wp2_with fail
    gi_upto_region 11 with fail
    refine pY λW11 hW11=> ?_;have HB11:Hid (Below wr.heap.size wr W11):=by show Below _ _ _;rw[<-hW11];exact rJ HB10.out aG
    have HB12:Hid (Below W10.heap.size W10 W11):=by show Below _ _ _;rw[<-hW11];exact aG
    have p0:=(HB12.out.cell s10).trans n0;have p1:=(HB12.out.cell s10).trans n1;have p2:=(HB12.out.cell s10).trans n2;have HT11:Hid (aJ (λ_=>False) wr W11):=aJ.of_below HB11.out;have HJ11:=aA (hJ _ _ _ HJ.out (HT11.out.mono λ_ h=>h.elim));have HL11:=aA (HT11.out.boxed HL.out (λh=>h));clear hW11 ho4 HB10 HB12 n0 n1 n2 s10 hl10 g10 HRt HEq HTo HJ HB11;cases hfit:fL (x::r)
    .have HX:Hid (pre++[⟨⟨2,y1.tdiv 90,0⟩,false⟩]=xs):=by show _=_;rw[<-HK.out,HVn.out hfit]
     clear hfit HFit HFl HVy HVn HRest HK;gi_wp2_with fail
     refine pS (hY pre ⟨⟨2,y1.tdiv 90,0⟩,false⟩ _ ⟨[],by rw[bV];exact HX.out⟩ HJ11.out) rfl ?_;rintro e W3 (⟨rfl,hJ3,ht3⟩|⟨rfl,hJx⟩)
     .refine⟨_,rfl, ?_⟩;gi_wp2_with fail
      refine bodyPost_ret (results_none rfl _ _ _) rfl ?_;rw[HX.out]at hJ3;exact⟨⟨_,rfl⟩,.inl hJ3⟩
     .refine⟨_,rfl, ?_⟩;gi_wp2_with fail
      refine bodyPost_ret (results_none rfl _ _ _) rfl ?_;exact⟨⟨_,rfl⟩,.inr ⟨pre,_,⟨[],by rw[bV];exact HX.out⟩,hJx⟩⟩
    .have hmt:mn=TS.length:=by have h1:=HFl.out hfit;have h2:=HMs.out;omega
     have HX:Hid (pre++[⟨⟨2,y1.tdiv 90,0⟩,true⟩]++eH ((x::r).drop mn)=xs):=by show _=_;rw[<-HK.out,HVy.out hfit,HRest.out,hmt,cY];rfl
     have hm3:3<=mn:=by omega
     have hdk:((x::r).drop mn).length=N-mn:=by rw[bL,HLen.out]
     have hr4:=Rd.drop4 (show Rd wr (aF (some ⟨b,off,none⟩) N c') (x::r).length 4 (bC (x::r)) by rw[HLen.out];exact HR.out) mn (by rw[HLen.out];exact hmn1);obtain⟨Av,hAv⟩: ∃Av,(if c'=mn then some (⟨b,off,none⟩:Addr)else some ⟨b,off+mn*4,none⟩)=Av:=⟨_,rfl⟩;have HAv2:Hid (∀b' off' s,Av=some ⟨b',off',s⟩->s=none/\b'=b):=λb' off' s h=>by
      rw[<-hAv]at h;split at h<;>(cases h;exact⟨rfl,rfl⟩)
     have HAv3:Hid (Av≠none):=by
      show _≠_;rw[<-hAv];split<;>simp
     have hr5:Rd wr (aF Av ((x::r).drop mn).length (c'-mn)) ((x::r).drop mn).length 4 (bC ((x::r).drop mn)):=by
      by_cases hck:c'=mn
      .refine⟨oY aK.cells 4 (λ_=>rfl) _,by rw[hdk];have:=hr4.2.1;omega,_,_,rfl,λhn0=> ?_⟩;rw[hdk]at hn0;omega
      .rw[if_neg hck]at hAv;rw[<-hAv];exact hr4
     rw[hdk]at hr5;have HR4:=aA hr5;have HDK:=aA hdk;have HP4:Hid (∀y∈(x::r).drop mn,jY y):=λy hy=>HP.out y (jd hy);have hkc:mn<=c':=by omega
     clear hfit HFit HFl HVy HVn HRest HK hr5 hr4 hdk hmt htl HMs hmn2;gi_wp2_with fail
     refine pS (hY pre ⟨⟨2,y1.tdiv 90,0⟩,true⟩ _ ⟨_,HX.out⟩ HJ11.out) rfl ?_;rintro e W3 (⟨rfl,hJ3,ht3⟩|⟨rfl,hJx⟩)
     .refine⟨_,rfl, ?_⟩;have HL4:=aA (ht3.boxed HL11.out hbl);have t3:=HL4.out.cell;have t4:=HL4.out.frozen;have tlt:=HL4.out.lt;have HT3:=aA ht3;have HJ3:=aA hJ3;clear hJ3 ht3 g3 g4 p0 p1 p2 c0 c1 c2 c3;gi_wp2_with fail
      go_roundw
      case rel=>
       have hTl:aJ (λk=>k=lb) W3 (W3.setCell ⟨lb,0,none⟩ (aF Av (N-mn) (c'-mn))):=aJ.setCell (pv:=λk=>k=lb) (aJ.refl _ _) (Or.inr rfl) _;refine⟨Av,c'-mn,(x::r).drop mn,_,by rw[HDK.out];omega,by rw[HDK.out];exact HL4.out.set _, ?_, ?_,λh=>absurd h HAv3.out,by rw[HDK.out];omega,HP4.out,hJ _ _ _ HJ3.out hTl,HX.out⟩
       .rw[HDK.out];refine Rd.turned (pv:=bw) (Rd.turned (pv:=λ_=>False) HR4.out HT11.out ?_) HT3.out ?_ |>.turned hTl ?_
        all_goals(intro b' off' s h;obtain⟨rfl,rfl⟩:=HAv2.out _ _ _ h;first|assumption|exact hblb|exact λh=>h)
       .intro _ b' off' s h;obtain⟨rfl,rfl⟩:=HAv2.out _ _ _ h;exact⟨rfl,hblb,hbbw⟩
      case measure=>
       rw[tJ (HL4.out.set _),tJ HL.out];omega
     .refine⟨_,rfl, ?_⟩;gi_wp2_with fail
      refine bodyPost_ret (results_none rfl _ _ _) rfl ?_;exact⟨⟨_,rfl⟩,.inr ⟨pre,_,⟨_,HX.out⟩,hJx⟩⟩
   rw[if_neg t2]at HG;rw[show decide (x.text=[114,111,116,97,116,101])=false from decide_eq_false t2]at z2;by_cases t3:x.text=sA
   .rw[show decide (x.text=[115,99,97,108,101])=true from decide_eq_true t3]at z3;rw[if_pos t3]at HG;clear t1 t2 t3 hT hy9;have HA1:=aA (λW (hW:Below wr.heap.size wr W)=>show Calls aE 253 #[aF (some ⟨b,off,none⟩) N c',aB aC 1] W (aH (aB aC (gO (x::r) 1)) W)from HAt.out 1 W hW);clear HAt;generalize gO (x::r) 1=y1 at*;gi_upto_region 9 with(gi_at_call 253;(with_reducible refine(GJ (HA1.out _ aG)).mono ?_);rintro e w' ⟨rfl,X1,rfl⟩)
    refine pY λW9 hW9=> ?_;have HB9:Hid (Below wr.heap.size wr W9):=by show Below _ _ _;rw[<-hW9];exact aG
    have m0:W9.cell? ⟨wr.heap.size,0,none⟩=some (aB aC (3)):=by rw[<-hW9];simp[go_sem]
    have m1:W9.cell? ⟨wr.heap.size,1,none⟩=some (aB aC (y1)):=by rw[<-hW9];simp[go_sem]
    have m2:W9.cell? ⟨wr.heap.size,2,none⟩=some (aB aC (0)):=by rw[<-hW9];simp[go_sem]
    clear hW9;clear HA1;obtain⟨TS,hTS⟩: ∃TS,cZ (gL (x::r))=TS:=⟨_,rfl⟩;have HTo:=aA (λW=>show Calls aE 237 #[aR #[aB aC (3),aB aC (y1),aB aC (0)]] W (lQ W TS.length 4 209 (bC TS))from by
     have e9:=HG.out;have h9:=AV ⟨3,y1,0⟩ W (e9 ▸ HS.out);rw[show cZ ⟨3,y1,0⟩=TS by rw[<-e9];exact hTS]at h9;exact h9)
    have htl:3<=TS.length/\TS.length<=5:=by rw[<-hTS];exact tX _
    have HFit:Hid (fL (x::r)=decide ((x::r).take (min TS.length N)=TS)):=by show _=_;rw[FZ,hTS,HLen.out]
    have HFl:Hid (fL (x::r)=true->TS.length<=N):=λh=>by have h9:=GA h;rw[hTS,HLen.out]at h9;exact h9
    have HRest:Hid (gR (x::r)=(x::r).drop TS.length):=by show _=_;unfold gR;rw[hTS]
    have HVy:Hid (fL (x::r)=true->eH (x::r)=⟨⟨3,y1,0⟩,true⟩::eH (gR (x::r))):=λh=>by rw[CD h,HG.out]
    have HVn:Hid (fL (x::r)=false->eH (x::r)=[⟨⟨3,y1,0⟩,false⟩]):=λh=>by rw[CE h,HG.out]
    clear hTS HG HS;generalize hms:min TS.length N=mn at*;have hmn:mn<=N/\mn<=TS.length:=by omega
    obtain⟨hmn1,hmn2⟩:=hmn;have HMs:=aA hms;clear hms;have s9:wr.heap.size<W9.heap.size:=World.block_lt_of_cell? W9 _ m0;have hl9:lb<W9.heap.size:=by omega
    have g9:=(HB9.out.cell hlt2).trans g3;refine tW 6 [(0,true),(3,true),(4,true),(1,false),(2,true),(5,true)] (λW=>Below W9.heap.size W9 W) hmx (by rintro⟨_,_,h⟩;have h2:(∃v,Xi=aL v)/\_:=h;obtain⟨⟨v,hv⟩,_⟩:=h2;cases hv) kr kr kr dc  rfl (λc a d v w h=>by have h2:_/\(∃v,Xj c=aL v)/\_:=h;obtain⟨_,⟨v,hv⟩,_⟩:=h2;cases hv) kr ((Below.refl _ _).drew) ?_;refine bN (v:= aR #[aB aC (3),aB aC (y1),aB aC (0)]) rfl rfl (λW hW=>by have q0:=(hW.cell s9).trans m0;have q1:=(hW.cell s9).trans m1;have q2:=(hW.cell s9).trans m2;simp[execOp,go_sem,q0,q1,q2]) ?_;refine bN (v:= aF (some ⟨b,off,none⟩) N c') rfl rfl (λW hW=>by have q0:=(hW.cell hl9).trans g9;simp[execOp,go_sem,q0]) ?_;refine bN (v:= aB aC (N:Nat)) rfl rfl (λW _=>by simp[execOp,go_sem]) ?_;refine cC rfl rfl λKc hKc=> ?_;unfold Oper.wp;simp[execOp,go_sem];refine(HTo.out _).mono ?_;rintro e w' ⟨v3,X3,rfl,rfl,ho3⟩;obtain⟨gt,cap3,rfl⟩:=Go.Joins.ownsRow_form ho3 om;apply hKc;refine⟨aG, ?_⟩;refine bN (v:= aB aC (TS.length:Nat)) rfl rfl (λW _=>by simp[execOp,go_sem]) ?_;refine bN (v:= aB aC (mn:Nat)) rfl rfl (λW _=>by have:=HMs.out;simp[execOp,go_sem];omega) ?_;dsimp only[dD,eL];go_wp2_with fail
    gi_upto_region 10 with fail
    refine pY λW10 hW10=> ?_;have HB10:Hid (Below wr.heap.size wr W10):=by show Below _ _ _;rw[<-hW10];exact rJ HB9.out aG
    have HB9':Hid (Below W9.heap.size W9 W10):=by show Below _ _ _;rw[<-hW10];exact aG
    have s10:wr.heap.size<W10.heap.size:=bQ s9 HB9'.out.size;have hl10:lb<W10.heap.size:=by omega
    have n0:=(HB9'.out.cell s9).trans m0;have n1:=(HB9'.out.cell s9).trans m1;have n2:=(HB9'.out.cell s9).trans m2;have g10:=(HB10.out.cell hlt2).trans g3;have HRt:Hid (Rd W10 (aF (some ⟨b,off,none⟩) mn c') ((x::r).take mn).length 4 (bC ((x::r).take mn))):=by
     show Rd _ _ _ _ _;have hq1:=HR.out;rw[<-HLen.out]at hq1;have hq:=Rd.take4 hq1 mn (by rw[HLen.out];exact hmn1);have h8:((x::r).take mn).length=mn:=by rw[bZ,HLen.out];omega
     rw[h8]at hq ⊢;obtain⟨X,hX⟩:=cV HB10.out;rw[hX];exact hq.grow X
    have HEq:=aA (λW (hB:Below W10.heap.size W10 W) A2 n2 c2 (hb:Rd W (aF A2 n2 c2) TS.length 4 (bC TS))=>zZ (some ⟨b,off,none⟩) A2 mn n2 c' c2 ((x::r).take mn) TS W (by obtain⟨X,rfl⟩:=cV hB;exact HRt.out.grow X) hb);rw[<-HFit.out]at HEq;clear hW10 ho3 HB9 HB9' m0 m1 m2 s9 hl9 g9;have i1:(0:Int)<=(mn:Int)/\(mn:Int)<=c':=by omega
    refine tW 6 [(0,true),(1,true),(2,true),(3,true),(4,false),(5,false)] (λW=>Below W10.heap.size W10 W) hmx (by rintro⟨_,_,h⟩;have h2:(∃v,Xi=aL v)/\_:=h;obtain⟨⟨v,hv⟩,_⟩:=h2;cases hv) kr kr kr dc  rfl (λc a d v w h=>by have h2:_/\(∃v,Xj c=aL v)/\_:=h;obtain⟨_,⟨v,hv⟩,_⟩:=h2;cases hv) kr ((Below.refl _ _).drew) ?_;refine bN (v:= aF (some ⟨b,off,none⟩) N c') rfl rfl (λW hW=>by have q0:=(hW.cell hl10).trans g10;simp[execOp,go_sem,q0]) ?_;refine bN (v:= aB aC (mn:Nat)) rfl rfl (λW _=>by simp[execOp,go_sem]) ?_;refine bN (v:= aF (some ⟨b,off,none⟩) mn c') rfl rfl (λW _=>by simp[execOp,go_sem];omega) ?_;refine bN (v:= aR #[aB aC (3),aB aC (y1),aB aC (0)]) rfl rfl (λW hW=>by have q0:=(hW.cell s10).trans n0;have q1:=(hW.cell s10).trans n1;have q2:=(hW.cell s10).trans n2;simp[execOp,go_sem,q0,q1,q2]) ?_;refine cC rfl rfl λKc hKc=> ?_;unfold Oper.wp;simp[execOp,go_sem];refine(HTo.out _).mono ?_;rintro e w' ⟨v4,X4,rfl,rfl,ho4⟩;obtain⟨gt4,cap4,rfl⟩:=Go.Joins.ownsRow_form ho4 om;apply hKc;refine⟨aG, ?_⟩;refine cC rfl rfl λKd hKd=> ?_;unfold Oper.wp;simp[execOp,go_sem];refine(HEq.out _ aG _ _ _ (Rd.own ho4)).mono ?_;rintro e w' ⟨rfl,X5,rfl⟩;apply hKd;refine⟨aG, ?_⟩;dsimp only[dD,eL];go_wp2_with fail
    gi_upto_region 11 with fail
    refine pY λW11 hW11=> ?_;have HB11:Hid (Below wr.heap.size wr W11):=by show Below _ _ _;rw[<-hW11];exact rJ HB10.out aG
    have HB12:Hid (Below W10.heap.size W10 W11):=by show Below _ _ _;rw[<-hW11];exact aG
    have p0:=(HB12.out.cell s10).trans n0;have p1:=(HB12.out.cell s10).trans n1;have p2:=(HB12.out.cell s10).trans n2;have HT11:Hid (aJ (λ_=>False) wr W11):=aJ.of_below HB11.out;have HJ11:=aA (hJ _ _ _ HJ.out (HT11.out.mono λ_ h=>h.elim));have HL11:=aA (HT11.out.boxed HL.out (λh=>h));clear hW11 ho4 HB10 HB12 n0 n1 n2 s10 hl10 g10 HRt HEq HTo HJ HB11;cases hfit:fL (x::r)
    .have HX:Hid (pre++[⟨⟨3,y1,0⟩,false⟩]=xs):=by show _=_;rw[<-HK.out,HVn.out hfit]
     clear hfit HFit HFl HVy HVn HRest HK;gi_wp2_with fail
     refine pS (hY pre ⟨⟨3,y1,0⟩,false⟩ _ ⟨[],by rw[bV];exact HX.out⟩ HJ11.out) rfl ?_;rintro e W3 (⟨rfl,hJ3,ht3⟩|⟨rfl,hJx⟩)
     .refine⟨_,rfl, ?_⟩;gi_wp2_with fail
      refine bodyPost_ret (results_none rfl _ _ _) rfl ?_;rw[HX.out]at hJ3;exact⟨⟨_,rfl⟩,.inl hJ3⟩
     .refine⟨_,rfl, ?_⟩;gi_wp2_with fail
      refine bodyPost_ret (results_none rfl _ _ _) rfl ?_;exact⟨⟨_,rfl⟩,.inr ⟨pre,_,⟨[],by rw[bV];exact HX.out⟩,hJx⟩⟩
    .have hmt:mn=TS.length:=by have h1:=HFl.out hfit;have h2:=HMs.out;omega
     have HX:Hid (pre++[⟨⟨3,y1,0⟩,true⟩]++eH ((x::r).drop mn)=xs):=by show _=_;rw[<-HK.out,HVy.out hfit,HRest.out,hmt,cY];rfl
     have hm3:3<=mn:=by omega
     have hdk:((x::r).drop mn).length=N-mn:=by rw[bL,HLen.out]
     have hr4:=Rd.drop4 (show Rd wr (aF (some ⟨b,off,none⟩) N c') (x::r).length 4 (bC (x::r)) by rw[HLen.out];exact HR.out) mn (by rw[HLen.out];exact hmn1);obtain⟨Av,hAv⟩: ∃Av,(if c'=mn then some (⟨b,off,none⟩:Addr)else some ⟨b,off+mn*4,none⟩)=Av:=⟨_,rfl⟩;have HAv2:Hid (∀b' off' s,Av=some ⟨b',off',s⟩->s=none/\b'=b):=λb' off' s h=>by
      rw[<-hAv]at h;split at h<;>(cases h;exact⟨rfl,rfl⟩)
     have HAv3:Hid (Av≠none):=by
      show _≠_;rw[<-hAv];split<;>simp
     have hr5:Rd wr (aF Av ((x::r).drop mn).length (c'-mn)) ((x::r).drop mn).length 4 (bC ((x::r).drop mn)):=by
      by_cases hck:c'=mn
      .refine⟨oY aK.cells 4 (λ_=>rfl) _,by rw[hdk];have:=hr4.2.1;omega,_,_,rfl,λhn0=> ?_⟩;rw[hdk]at hn0;omega
      .rw[if_neg hck]at hAv;rw[<-hAv];exact hr4
     rw[hdk]at hr5;have HR4:=aA hr5;have HDK:=aA hdk;have HP4:Hid (∀y∈(x::r).drop mn,jY y):=λy hy=>HP.out y (jd hy);have hkc:mn<=c':=by omega
     clear hfit HFit HFl HVy HVn HRest HK hr5 hr4 hdk hmt htl HMs hmn2;gi_wp2_with fail
     refine pS (hY pre ⟨⟨3,y1,0⟩,true⟩ _ ⟨_,HX.out⟩ HJ11.out) rfl ?_;rintro e W3 (⟨rfl,hJ3,ht3⟩|⟨rfl,hJx⟩)
     .refine⟨_,rfl, ?_⟩;have HL4:=aA (ht3.boxed HL11.out hbl);have t3:=HL4.out.cell;have t4:=HL4.out.frozen;have tlt:=HL4.out.lt;have HT3:=aA ht3;have HJ3:=aA hJ3;clear hJ3 ht3 g3 g4 p0 p1 p2 c0 c1 c2 c3;gi_wp2_with fail
      go_roundw
      case rel=>
       have hTl:aJ (λk=>k=lb) W3 (W3.setCell ⟨lb,0,none⟩ (aF Av (N-mn) (c'-mn))):=aJ.setCell (pv:=λk=>k=lb) (aJ.refl _ _) (Or.inr rfl) _;refine⟨Av,c'-mn,(x::r).drop mn,_,by rw[HDK.out];omega,by rw[HDK.out];exact HL4.out.set _, ?_, ?_,λh=>absurd h HAv3.out,by rw[HDK.out];omega,HP4.out,hJ _ _ _ HJ3.out hTl,HX.out⟩
       .rw[HDK.out];refine Rd.turned (pv:=bw) (Rd.turned (pv:=λ_=>False) HR4.out HT11.out ?_) HT3.out ?_ |>.turned hTl ?_
        all_goals(intro b' off' s h;obtain⟨rfl,rfl⟩:=HAv2.out _ _ _ h;first|assumption|exact hblb|exact λh=>h)
       .intro _ b' off' s h;obtain⟨rfl,rfl⟩:=HAv2.out _ _ _ h;exact⟨rfl,hblb,hbbw⟩
      case measure=>
       rw[tJ (HL4.out.set _),tJ HL.out];omega
     .refine⟨_,rfl, ?_⟩;gi_wp2_with fail
      refine bodyPost_ret (results_none rfl _ _ _) rfl ?_;exact⟨⟨_,rfl⟩,.inr ⟨pre,_,⟨_,HX.out⟩,hJx⟩⟩
   rw[if_neg t3]at HG;rw[show decide (x.text=[115,99,97,108,101])=false from decide_eq_false t3]at z3;clear t1 t2 t3 hT hy9 HAt;gi_upto_region 9 with fail
   refine pY λW9 hW9=> ?_;have HB9:Hid (Below wr.heap.size wr W9):=by show Below _ _ _;rw[<-hW9];exact aG
   have m0:W9.cell? ⟨wr.heap.size,0,none⟩=some (aB aC (4)):=by rw[<-hW9];simp[go_sem]
   have m1:W9.cell? ⟨wr.heap.size,1,none⟩=some (aB aC (0)):=by rw[<-hW9];simp[go_sem]
   have m2:W9.cell? ⟨wr.heap.size,2,none⟩=some (aB aC (0)):=by rw[<-hW9];simp[go_sem]
   clear hW9;obtain⟨TS,hTS⟩: ∃TS,cZ (gL (x::r))=TS:=⟨_,rfl⟩;have HTo:=aA (λW=>show Calls aE 237 #[aR #[aB aC (4),aB aC (0),aB aC (0)]] W (lQ W TS.length 4 209 (bC TS))from by
    have e9:=HG.out;have h9:=AV ⟨4,0,0⟩ W (e9 ▸ HS.out);rw[show cZ ⟨4,0,0⟩=TS by rw[<-e9];exact hTS]at h9;exact h9)
   have htl:3<=TS.length/\TS.length<=5:=by rw[<-hTS];exact tX _
   have HFit:Hid (fL (x::r)=decide ((x::r).take (min TS.length N)=TS)):=by show _=_;rw[FZ,hTS,HLen.out]
   have HFl:Hid (fL (x::r)=true->TS.length<=N):=λh=>by have h9:=GA h;rw[hTS,HLen.out]at h9;exact h9
   have HRest:Hid (gR (x::r)=(x::r).drop TS.length):=by show _=_;unfold gR;rw[hTS]
   have HVy:Hid (fL (x::r)=true->eH (x::r)=⟨⟨4,0,0⟩,true⟩::eH (gR (x::r))):=λh=>by rw[CD h,HG.out]
   have HVn:Hid (fL (x::r)=false->eH (x::r)=[⟨⟨4,0,0⟩,false⟩]):=λh=>by rw[CE h,HG.out]
   clear hTS HG HS;generalize hms:min TS.length N=mn at*;have hmn:mn<=N/\mn<=TS.length:=by omega
   obtain⟨hmn1,hmn2⟩:=hmn;have HMs:=aA hms;clear hms;have s9:wr.heap.size<W9.heap.size:=World.block_lt_of_cell? W9 _ m0;have hl9:lb<W9.heap.size:=by omega
   have g9:=(HB9.out.cell hlt2).trans g3;refine tW 6 [(0,true),(3,true),(4,true),(1,false),(2,true),(5,true)] (λW=>Below W9.heap.size W9 W) hmx (by rintro⟨_,_,h⟩;have h2:(∃v,Xi=aL v)/\_:=h;obtain⟨⟨v,hv⟩,_⟩:=h2;cases hv) kr kr kr dc  rfl (λc a d v w h=>by have h2:_/\(∃v,Xj c=aL v)/\_:=h;obtain⟨_,⟨v,hv⟩,_⟩:=h2;cases hv) kr ((Below.refl _ _).drew) ?_;refine bN (v:= aR #[aB aC (4),aB aC (0),aB aC (0)]) rfl rfl (λW hW=>by have q0:=(hW.cell s9).trans m0;have q1:=(hW.cell s9).trans m1;have q2:=(hW.cell s9).trans m2;simp[execOp,go_sem,q0,q1,q2]) ?_;refine bN (v:= aF (some ⟨b,off,none⟩) N c') rfl rfl (λW hW=>by have q0:=(hW.cell hl9).trans g9;simp[execOp,go_sem,q0]) ?_;refine bN (v:= aB aC (N:Nat)) rfl rfl (λW _=>by simp[execOp,go_sem]) ?_;refine cC rfl rfl λKc hKc=> ?_;unfold Oper.wp;simp[execOp,go_sem];refine(HTo.out _).mono ?_;rintro e w' ⟨v3,X3,rfl,rfl,ho3⟩;obtain⟨gt,cap3,rfl⟩:=Go.Joins.ownsRow_form ho3 om;apply hKc;refine⟨aG, ?_⟩;refine bN (v:= aB aC (TS.length:Nat)) rfl rfl (λW _=>by simp[execOp,go_sem]) ?_;refine bN (v:= aB aC (mn:Nat)) rfl rfl (λW _=>by have:=HMs.out;simp[execOp,go_sem];omega) ?_;dsimp only[dD,eL];go_wp2_with fail
   gi_upto_region 10 with fail
   refine pY λW10 hW10=> ?_;have HB10:Hid (Below wr.heap.size wr W10):=by show Below _ _ _;rw[<-hW10];exact rJ HB9.out aG
   have HB9':Hid (Below W9.heap.size W9 W10):=by show Below _ _ _;rw[<-hW10];exact aG
   have s10:wr.heap.size<W10.heap.size:=bQ s9 HB9'.out.size;have hl10:lb<W10.heap.size:=by omega
   have n0:=(HB9'.out.cell s9).trans m0;have n1:=(HB9'.out.cell s9).trans m1;have n2:=(HB9'.out.cell s9).trans m2;have g10:=(HB10.out.cell hlt2).trans g3;have HRt:Hid (Rd W10 (aF (some ⟨b,off,none⟩) mn c') ((x::r).take mn).length 4 (bC ((x::r).take mn))):=by
    show Rd _ _ _ _ _;have hq1:=HR.out;rw[<-HLen.out]at hq1;have hq:=Rd.take4 hq1 mn (by rw[HLen.out];exact hmn1);have h8:((x::r).take mn).length=mn:=by rw[bZ,HLen.out];omega
    rw[h8]at hq ⊢;obtain⟨X,hX⟩:=cV HB10.out;rw[hX];exact hq.grow X
   have HEq:=aA (λW (hB:Below W10.heap.size W10 W) A2 n2 c2 (hb:Rd W (aF A2 n2 c2) TS.length 4 (bC TS))=>zZ (some ⟨b,off,none⟩) A2 mn n2 c' c2 ((x::r).take mn) TS W (by obtain⟨X,rfl⟩:=cV hB;exact HRt.out.grow X) hb);rw[<-HFit.out]at HEq;clear hW10 ho3 HB9 HB9' m0 m1 m2 s9 hl9 g9;have i1:(0:Int)<=(mn:Int)/\(mn:Int)<=c':=by omega
   refine tW 6 [(0,true),(1,true),(2,true),(3,true),(4,false),(5,false)] (λW=>Below W10.heap.size W10 W) hmx (by rintro⟨_,_,h⟩;have h2:(∃v,Xi=aL v)/\_:=h;obtain⟨⟨v,hv⟩,_⟩:=h2;cases hv) kr kr kr dc  rfl (λc a d v w h=>by have h2:_/\(∃v,Xj c=aL v)/\_:=h;obtain⟨_,⟨v,hv⟩,_⟩:=h2;cases hv) kr ((Below.refl _ _).drew) ?_;refine bN (v:= aF (some ⟨b,off,none⟩) N c') rfl rfl (λW hW=>by have q0:=(hW.cell hl10).trans g10;simp[execOp,go_sem,q0]) ?_;refine bN (v:= aB aC (mn:Nat)) rfl rfl (λW _=>by simp[execOp,go_sem]) ?_;refine bN (v:= aF (some ⟨b,off,none⟩) mn c') rfl rfl (λW _=>by simp[execOp,go_sem];omega) ?_;refine bN (v:= aR #[aB aC (4),aB aC (0),aB aC (0)]) rfl rfl (λW hW=>by have q0:=(hW.cell s10).trans n0;have q1:=(hW.cell s10).trans n1;have q2:=(hW.cell s10).trans n2;simp[execOp,go_sem,q0,q1,q2]) ?_;refine cC rfl rfl λKc hKc=> ?_;unfold Oper.wp;simp[execOp,go_sem];refine(HTo.out _).mono ?_;rintro e w' ⟨v4,X4,rfl,rfl,ho4⟩;obtain⟨gt4,cap4,rfl⟩:=Go.Joins.ownsRow_form ho4 om;apply hKc;refine⟨aG, ?_⟩;refine cC rfl rfl λKd hKd=> ?_;unfold Oper.wp;simp[execOp,go_sem];refine(HEq.out _ aG _ _ _ (Rd.own ho4)).mono ?_;rintro e w' ⟨rfl,X5,rfl⟩;apply hKd;refine⟨aG, ?_⟩;dsimp only[dD,eL];go_wp2_with fail
   gi_upto_region 11 with fail
   refine pY λW11 hW11=> ?_;have HB11:Hid (Below wr.heap.size wr W11):=by show Below _ _ _;rw[<-hW11];exact rJ HB10.out aG
   have HB12:Hid (Below W10.heap.size W10 W11):=by show Below _ _ _;rw[<-hW11];exact aG
   have p0:=(HB12.out.cell s10).trans n0;have p1:=(HB12.out.cell s10).trans n1;have p2:=(HB12.out.cell s10).trans n2;have HT11:Hid (aJ (λ_=>False) wr W11):=aJ.of_below HB11.out;have HJ11:=aA (hJ _ _ _ HJ.out (HT11.out.mono λ_ h=>h.elim));have HL11:=aA (HT11.out.boxed HL.out (λh=>h));clear hW11 ho4 HB10 HB12 n0 n1 n2 s10 hl10 g10 HRt HEq HTo HJ HB11;cases hfit:fL (x::r)
   .have HX:Hid (pre++[⟨⟨4,0,0⟩,false⟩]=xs):=by show _=_;rw[<-HK.out,HVn.out hfit]
    clear hfit HFit HFl HVy HVn HRest HK;gi_wp2_with fail
    refine pS (hY pre ⟨⟨4,0,0⟩,false⟩ _ ⟨[],by rw[bV];exact HX.out⟩ HJ11.out) rfl ?_;rintro e W3 (⟨rfl,hJ3,ht3⟩|⟨rfl,hJx⟩)
    .refine⟨_,rfl, ?_⟩;gi_wp2_with fail
     refine bodyPost_ret (results_none rfl _ _ _) rfl ?_;rw[HX.out]at hJ3;exact⟨⟨_,rfl⟩,.inl hJ3⟩
    .refine⟨_,rfl, ?_⟩;gi_wp2_with fail
     refine bodyPost_ret (results_none rfl _ _ _) rfl ?_;exact⟨⟨_,rfl⟩,.inr ⟨pre,_,⟨[],by rw[bV];exact HX.out⟩,hJx⟩⟩
   .have hmt:mn=TS.length:=by have h1:=HFl.out hfit;have h2:=HMs.out;omega
    have HX:Hid (pre++[⟨⟨4,0,0⟩,true⟩]++eH ((x::r).drop mn)=xs):=by show _=_;rw[<-HK.out,HVy.out hfit,HRest.out,hmt,cY];rfl
    have hm3:3<=mn:=by omega
    have hdk:((x::r).drop mn).length=N-mn:=by rw[bL,HLen.out]
    have hr4:=Rd.drop4 (show Rd wr (aF (some ⟨b,off,none⟩) N c') (x::r).length 4 (bC (x::r)) by rw[HLen.out];exact HR.out) mn (by rw[HLen.out];exact hmn1);obtain⟨Av,hAv⟩: ∃Av,(if c'=mn then some (⟨b,off,none⟩:Addr)else some ⟨b,off+mn*4,none⟩)=Av:=⟨_,rfl⟩;have HAv2:Hid (∀b' off' s,Av=some ⟨b',off',s⟩->s=none/\b'=b):=λb' off' s h=>by
     rw[<-hAv]at h;split at h<;>(cases h;exact⟨rfl,rfl⟩)
    have HAv3:Hid (Av≠none):=by
     show _≠_;rw[<-hAv];split<;>simp
    have hr5:Rd wr (aF Av ((x::r).drop mn).length (c'-mn)) ((x::r).drop mn).length 4 (bC ((x::r).drop mn)):=by
     by_cases hck:c'=mn
     .refine⟨oY aK.cells 4 (λ_=>rfl) _,by rw[hdk];have:=hr4.2.1;omega,_,_,rfl,λhn0=> ?_⟩;rw[hdk]at hn0;omega
     .rw[if_neg hck]at hAv;rw[<-hAv];exact hr4
    rw[hdk]at hr5;have HR4:=aA hr5;have HDK:=aA hdk;have HP4:Hid (∀y∈(x::r).drop mn,jY y):=λy hy=>HP.out y (jd hy);have hkc:mn<=c':=by omega
    clear hfit HFit HFl HVy HVn HRest HK hr5 hr4 hdk hmt htl HMs hmn2;gi_wp2_with fail
    refine pS (hY pre ⟨⟨4,0,0⟩,true⟩ _ ⟨_,HX.out⟩ HJ11.out) rfl ?_;rintro e W3 (⟨rfl,hJ3,ht3⟩|⟨rfl,hJx⟩)
    .refine⟨_,rfl, ?_⟩;have HL4:=aA (ht3.boxed HL11.out hbl);have t3:=HL4.out.cell;have t4:=HL4.out.frozen;have tlt:=HL4.out.lt;have HT3:=aA ht3;have HJ3:=aA hJ3;clear hJ3 ht3 g3 g4 p0 p1 p2 c0 c1 c2 c3;gi_wp2_with fail
     go_roundw
     case rel=>
      have hTl:aJ (λk=>k=lb) W3 (W3.setCell ⟨lb,0,none⟩ (aF Av (N-mn) (c'-mn))):=aJ.setCell (pv:=λk=>k=lb) (aJ.refl _ _) (Or.inr rfl) _;refine⟨Av,c'-mn,(x::r).drop mn,_,by rw[HDK.out];omega,by rw[HDK.out];exact HL4.out.set _, ?_, ?_,λh=>absurd h HAv3.out,by rw[HDK.out];omega,HP4.out,hJ _ _ _ HJ3.out hTl,HX.out⟩
      .rw[HDK.out];refine Rd.turned (pv:=bw) (Rd.turned (pv:=λ_=>False) HR4.out HT11.out ?_) HT3.out ?_ |>.turned hTl ?_
       all_goals(intro b' off' s h;obtain⟨rfl,rfl⟩:=HAv2.out _ _ _ h;first|assumption|exact hblb|exact λh=>h)
      .intro _ b' off' s h;obtain⟨rfl,rfl⟩:=HAv2.out _ _ _ h;exact⟨rfl,hblb,hbbw⟩
     case measure=>
      rw[tJ (HL4.out.set _),tJ HL.out];omega
    .refine⟨_,rfl, ?_⟩;gi_wp2_with fail
     refine bodyPost_ret (results_none rfl _ _ _) rfl ?_;exact⟨⟨_,rfl⟩,.inr ⟨pre,_,⟨_,HX.out⟩,hJx⟩⟩
