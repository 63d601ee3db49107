import Derived.Test.YtccjfanpjojbnaaGreatDoorAttD
import Derived.Test.YtccjfanpjojbnaaGreatDoorRG
import Derived.Test.YtccjfanpjojbnaaGreatDoorCmpK
namespace Go.Proofs.YtccjfanpjojbnaaGreatDoor
open Lib renaming hid→aA
open List renaming all_eq_true→dO,take_of_length_le→fI,take_succ_eq_append_getElem→jG
open Nat renaming lt_of_lt_of_le→bQ
open Go.Proofs.Tryz renaming prog→aE,underlying9→dH
set_option maxRecDepth 100000
set_option maxHeartbeats 6400000
open Go.RowKit
def B7 (_s:Bs) (a c:Nat) (P:aO) (W:World) (e:Ending) (w':World):Prop:=Below W.heap.size W w'/\((c≠0/\e= .returned (.tuple #[.pointer none,.int .i64 a,.int .i64 c]))\/(c=0/\ ∃g,e= .returned (.tuple #[.pointer (some ⟨g,0,none⟩),.int .i64 0,.int .i64 0])/\W.heap.size<=g/\gB w' g P))
structure Tm (s:Bs) (a c:Nat) (P:aO):Prop where
 run: ∀W,Calls aE 8 #[.string ⟨s.toArray⟩] W (B7 s a c P W)
 says:(c=0/\a=0/\qE s= .ok P/\gZ P=true)\/(c≠0/\a<=s.length/\qE s= .error ⟨a,c⟩)
theorem GF (s:Bs): ∃a c P,Tm s a c P:=by
 have hmx:=bX;obtain⟨a,c,P,G⟩:=Dy s;have HP:=aA (λW=>show Calls aE 18 #[.string ⟨s.toArray⟩] W _ from G.run W);have hlen:(⟨s.toArray⟩:ByteArray).size=s.length:=by show s.toArray.size=_;simp
 by_cases hc:c=0;rotate_left
 .refine⟨a,c,P,λW=> ?_, ?_⟩
  .have b1:((c:Int) !=0)=true:=by simp;omega
   clear hlen;generalize(⟨s.toArray⟩:ByteArray)=x at*;go_enter Tryz.func8,Tryz.ntmps8;go_wp2_with(go_at_call 18;(with_reducible refine(HP.out _).mono ?_);rintro e W1 ⟨hb1,v1,rfl,hv1⟩;have HB1:=aA hb1;have HV1:=aA hv1;obtain⟨u0,u1,u2,u3,u4,u5,rfl,⟨A0,k0,rfl,_⟩,⟨A1,k1,rfl,_⟩,⟨A2,k2,rfl,_⟩,⟨A3,k3,rfl,_⟩,⟨A4,k4,rfl,_⟩,⟨A5,k5,rfl,_⟩⟩:=hv1;clear hb1)
   go_ret3
   exact⟨HB1.out.trans ((aG:Below W1.heap.size W1 _).mono HB1.out.size),.inl ⟨hc,rfl⟩⟩
  .rcases G.says with⟨h1,_⟩|⟨h1,h2,h3,h4⟩
   .exact absurd h1 hc
   .exact .inr ⟨h1,h3,by unfold qE;rw[h4]⟩
 .obtain⟨hP,ha⟩:jS s= .ok P/\a=0:=by
   rcases G.says with⟨_,h1,h2⟩|⟨h1,_⟩
   .exact⟨h2,h1⟩
   .exact absurd hc h1
  have hr:gZ P=true:=LG hP;have hbk:sS P 1048576:=G.bk.mono om;have HN:=aA (λW v (hv:jN W (λ_=>False) v P)=>Fr v P W hv (λW' hb=>Bi v P W' (hv.below hb) hbk.sm hbk.tx));have hq:pX P=mO P:=by unfold pX;rw[if_pos hr]
  obtain⟨R,hR⟩: ∃R,pX P=R:=⟨_,rfl⟩;have hcr:qE s=if R=0 then .ok P else .error ⟨s.length,R⟩:=by rw[<-hR];exact Pj hP
  have key: ∀W,Calls aE 8 #[.string ⟨s.toArray⟩] W (B7 s s.length R P W):=by
   intro W;have HR:=aA hR;clear hcr hq hbk hr hP hR G ha;rw[<-hlen];clear hlen;generalize(⟨s.toArray⟩:ByteArray)=x at*;subst hc;go_enter Tryz.func8,Tryz.ntmps8;go_upto_region 2 with(go_at_call 18;(with_reducible refine(HP.out _).mono ?_);rintro e W1 ⟨hb1,v1,rfl,hv1⟩;have HB1:=aA hb1;have HV1:=aA hv1;obtain⟨u0,u1,u2,u3,u4,u5,rfl,⟨A0,k0,rfl,_⟩,⟨A1,k1,rfl,_⟩,⟨A2,k2,rfl,_⟩,⟨A3,k3,rfl,_⟩,⟨A4,k4,rfl,_⟩,⟨A5,k5,rfl,_⟩⟩:=hv1;clear hb1)
   refine dL λV1 hV1=> ?_;obtain⟨B,hB⟩: ∃B,W1.heap.size=B:=⟨_,rfl⟩;have hw1:Below W1.heap.size W1 V1:=by rw[hV1];exact aG
   have c0:V1.cell? ⟨B,0,none⟩=some (.slice A0 (fN P 0) k0):=by rw[hV1,<-hB];simp[go_sem]
   have c1:V1.cell? ⟨B,1,none⟩=some (.slice A1 (fN P 1) k1):=by rw[hV1,<-hB];simp[go_sem]
   have c2:V1.cell? ⟨B,2,none⟩=some (.slice A2 (fN P 2) k2):=by rw[hV1,<-hB];simp[go_sem]
   have c3:V1.cell? ⟨B,3,none⟩=some (.slice A3 (fN P 3) k3):=by rw[hV1,<-hB];simp[go_sem]
   have c4:V1.cell? ⟨B,4,none⟩=some (.slice A4 (fN P 4) k4):=by rw[hV1,<-hB];simp[go_sem]
   have c5:V1.cell? ⟨B,5,none⟩=some (.slice A5 (fN P 5) k5):=by rw[hV1,<-hB];simp[go_sem]
   have c6:V1.cell? ⟨B,6,none⟩=some (.bool P.rel):=by rw[hV1,<-hB];simp[go_sem]
   have c7:V1.cell? ⟨B,7,none⟩=some (.int .i64 P.depth):=by rw[hV1,<-hB];simp[go_sem]
   have c8:V1.cell? ⟨B,8,none⟩=some (.int .i64 P.name):=by rw[hV1,<-hB];simp[go_sem]
   have c9:V1.cell? ⟨B,9,none⟩=some (.int .i64 P.value):=by rw[hV1,<-hB];simp[go_sem]
   have HV:=aA ((HV1.out.below hw1).mono (bad':=λ_=>False) (λ_ _ h=>h.elim));have HA:=aA (HB1.out.trans (hw1.mono HB1.out.size));have hBl:B<V1.heap.size:=World.block_lt_of_cell? V1 _ c0;have HN1:=aA (HN.out V1 _ HV.out);have hgW:=HA.out.size;rw[hB];clear hV1 hw1 HB1 HV1 HN HV;by_cases hz:R=0
   .have b1:((R:Int) !=0)=false:=by rw[hz];rfl
    have HN2:=aA (HN1.out.mono (R':=λe w'=> ∃g,e= .returned (.tuple #[.pointer (some ⟨g,0,none⟩),.int .i64 0])/\Below V1.heap.size V1 w'/\V1.heap.size<=g/\gB w' g P) (λe w' h=>by
     obtain⟨h1,h2⟩:=h;rcases h2 with⟨h2,_⟩|⟨_,g,h3,h4,h5⟩
     .exact absurd (HR.out.trans hz) h2
     .exact⟨g,h3,h1,h4,h5⟩))
    clear HN1;go_wp2_with(go_at_call 19;(with_reducible refine(HN2.out).mono ?_);rintro e W2 ⟨g,rfl,hb2,hg2,hr2⟩;have HB2:=aA hb2;have HG2:=aA hg2;have HR2:=aA hr2;clear hb2 hg2 hr2)
    go_ret3
    exact⟨HA.out.trans (HB2.out.mono hgW),.inr ⟨hz,g,rfl,Nat.le_trans hgW HG2.out,HR2.out⟩⟩
   .have b1:((R:Int) !=0)=true:=by simp;omega
    have HN2:=aA (HN1.out.mono (R':=λe w'=>e= .returned (.tuple #[.pointer none,.int .i64 R])/\Below V1.heap.size V1 w') (λe w' h=>by
     obtain⟨h1,h2⟩:=h;rcases h2 with⟨_,h2⟩|⟨h2,_⟩
     .rw[HR.out]at h2;exact⟨h2,h1⟩
     .exact absurd (HR.out.symm.trans h2) hz))
    clear HN1;go_wp2_with(go_at_call 19;(with_reducible refine(HN2.out).mono ?_);rintro e W2 ⟨rfl,hb2⟩;have HB2:=aA hb2;clear hb2)
    go_ret3
    exact⟨HA.out.trans (HB2.out.mono hgW),.inl ⟨hz,rfl⟩⟩
  by_cases hz:R=0
  .refine⟨0,0,P,λW=>(key W).mono λe w' h=> ?_,.inl ⟨rfl,rfl,by rw[hcr,if_pos hz],hr⟩⟩;rw[hz]at h;obtain⟨h1,h2⟩:=h;rcases h2 with⟨h2,_⟩|h2
   .exact absurd rfl h2
   .exact⟨h1,.inr h2⟩
  .exact⟨s.length,R,P,key,.inr ⟨hz,Nat.le_refl _,by rw[hcr,if_neg hz]⟩⟩
theorem NS {s:Bs} {P:aO} (h:qE s= .ok P):mO P=0:=by
 unfold qE at h;split at h
 .cases h
 .next p hp=>
  by_cases hw:mO p=0
  .rw[if_pos hw]at h;cases h;exact hw
  .rw[if_neg hw]at h;cases h
theorem Pi {s:Bs} {P:aO} (h:qE s= .ok P): ∀W,Calls aE 8 #[.string ⟨s.toArray⟩] W λe w'=> ∃g,e= .returned (.tuple #[.pointer (some ⟨g,0,none⟩),.int .i64 0,.int .i64 0])/\Below W.heap.size W w'/\gB w' g P:=by
 intro W;obtain⟨a,c,P',G⟩:=GF s;refine(G.run W).mono λe w' h'=> ?_;rcases G.says with⟨_,_,h2,_⟩|⟨_,_,h2⟩
 .rw[h]at h2;cases h2;rcases h' with⟨h1,⟨h3,_⟩|⟨_,g,h3,_,h4⟩⟩
  .contradiction
  .exact⟨g,h3,h1,h4⟩
 .rw[h]at h2;cases h2
open Go.RowKit
def OI (W:World) (g:Nat) (p:aO):Prop:= ∃v0 v1 v2 v3 v4 v5,jN W (λ_=>False) (.agg #[v0,v1,v2,v3,v4,v5,.bool p.rel,.int .i64 p.depth,.int .i64 p.name,.int .i64 p.value]) p/\ ∀j x,[v0,v1,v2,v3,v4,v5,.bool p.rel,.int .i64 p.depth,.int .i64 p.name,.int .i64 p.value][j]? =some x->W.cell? ⟨g,j,none⟩=some x
theorem OI.below {W W':World} {g:Nat} {p:aO} (h:OI W g p) (hb:Below W.heap.size W W'):OI W' g p:=by
 obtain⟨v0,v1,v2,v3,v4,v5,h1,h2⟩:=h;exact⟨v0,v1,v2,v3,v4,v5,h1.below hb,λj x hx=>(hb.cell (p:=⟨g,j,none⟩) (World.block_lt_of_cell? W _ (h2 j x hx))).trans (h2 j x hx)⟩
open Go.RowKit
theorem YB (a b c d:ByteArray) (w:World):(Op.equalIn 10000 34 (.agg #[.string a,.string b]) (.agg #[.string c,.string d])).run aE w= .ok ((a.toList==c.toList)&&(b.toList==d.toList)) w:=by
 have h2:aE.underlying 34=some (.struct (aE.fieldsOf 34)):=by kernel_rfl
 have h3:aE.stoodInHeld 34=false:=by kernel_rfl
 rw[run_equalIn_agg _ _ _ _ _ h2 h3];simp only[Program.fieldsOf,Tryz.underlying34];cases h1:(a.toList==c.toList)<;>cases h4:(b.toList==d.toList)<;>simp[go_sem,dH,h1,h4]
@[go_sem high] theorem Uq (a b c d:ByteArray) (w:World):(binOp .neq 34 (.agg #[.string a,.string b]) (.agg #[.string c,.string d])).run aE w= .ok (.bool (!((a.toList==c.toList)&&(b.toList==d.toList)))) w:=by
 rw[run_neq_struct,YB];rfl
@[go_sem] theorem Vv:aE.eqGuardType aE.depth 34=false:=by kernel_rfl
theorem SX (A1 A2:Option Addr) (n1 n2 c1 c2:Nat) (l m:List (Bs × Bs)) (w:World) (h:Rd w (.slice A1 n1 c1) l.length 2 (l.flatMap eA)) (hu:Rd w (.slice A2 n2 c2) m.length 2 (m.flatMap eA)):Calls aE 13 #[.slice A1 n1 c1,.slice A2 n2 c2] w (aH (.bool (decide (l=m))) w):=by
 have hmx:=bX;obtain⟨_,hm1,_,_,e1,h4⟩:=h;cases e1;obtain⟨_,hm2,_,_,e2,g4⟩:=hu;cases e2;have H4:=aA h4;have G4:=aA g4;obtain⟨n,hn⟩: ∃n,l.length=n:=⟨_,rfl⟩;obtain⟨k2,hk2⟩: ∃n,m.length=n:=⟨_,rfl⟩;have HN:=aA hn;have HM:=aA hk2;obtain⟨Q,hQ⟩: ∃Q,decide (l=m)=Q:=⟨_,rfl⟩;have HQ:=aA hQ.symm;rw[hQ];rw[hn]at hm1 H4 ⊢;rw[hk2]at hm2 G4 ⊢;clear h4 g4 hn hk2 hQ;by_cases hne:n=k2;rotate_left
 .have b0:((n:Int) !=k2)=true:=by simp;omega
  have HF:Hid (Q=false):=by show _=_;rw[HQ.out];exact decide_eq_false λe=>hne (by rw[<-HN.out,<-HM.out,e])
  clear hne H4 G4;go_enter Tryz.func13,Tryz.ntmps13;go_wp2_with fail
  go_ret;exact aH.of (by rw[HF.out];rfl) aG
 subst hne;have b0:((n:Int) !=n)=false:=by simp
 go_enter Tryz.func13,Tryz.ntmps13;go_wp2_with fail
 go_loopw [5] (λi wr=> ∃k:Nat,k<=n/\i= .int .i64 (k:Nat)/\Hid (l.take k=m.take k)/\Hid (Below w.heap.size w wr)) (λi _=>n-(intOf i).toNat)
 case atStart=>exact⟨0,by omega,rfl,by show _=_;simp,by show Below _ _ _;exact aG⟩
 case round=>
  obtain⟨k,hk,rfl,HK,HB⟩:=hrel;by_cases hlt:k<n
  .obtain⟨b,off,rfl,hb,hc⟩:=H4.out om;obtain⟨b',off',rfl,hb',hc'⟩:=G4.out om;have hkl:k<l.length:=by rw[HN.out];exact hlt
   have hkm:k<m.length:=by rw[HM.out];exact hlt
   obtain⟨x,hx⟩: ∃x,l[k]=x:=⟨_,rfl⟩;obtain⟨y,hy⟩: ∃y,m[k]=y:=⟨_,rfl⟩;have x0:wr.cell? ⟨b,off+k*2,none⟩=some (.string ⟨x.1.toArray⟩):=(HB.out.cell (p:=⟨b,off+k*2,none⟩) hb).trans (hc (k*2+0) (sv x.1) (by rw[oZ eA 2 (λ_=>rfl) l k 0 hkl om,hx];rfl));have x1:wr.cell? ⟨b,off+k*2+1,none⟩=some (.string ⟨x.2.toArray⟩):=(HB.out.cell (p:=⟨b,off+k*2+1,none⟩) hb).trans ((congrArg (λi=>w.cell? ⟨b,i,none⟩) om).trans (hc (k*2+1) (sv x.2) (by rw[oZ eA 2 (λ_=>rfl) l k 1 hkl om,hx];rfl)));have y0:wr.cell? ⟨b',off'+k*2,none⟩=some (.string ⟨y.1.toArray⟩):=(HB.out.cell (p:=⟨b',off'+k*2,none⟩) hb').trans (hc' (k*2+0) (sv y.1) (by rw[oZ eA 2 (λ_=>rfl) m k 0 hkm om,hy];rfl));have y1:wr.cell? ⟨b',off'+k*2+1,none⟩=some (.string ⟨y.2.toArray⟩):=(HB.out.cell (p:=⟨b',off'+k*2+1,none⟩) hb').trans ((congrArg (λi=>w.cell? ⟨b',i,none⟩) om).trans (hc' (k*2+1) (sv y.2) (by rw[oZ eA 2 (λ_=>rfl) m k 1 hkm om,hy];rfl)));have hbr:b<wr.heap.size:=bQ hb HB.out.size;have hbr':b'<wr.heap.size:=bQ hb' HB.out.size;have hq:(((⟨x.1.toArray⟩:ByteArray).toList==(⟨y.1.toArray⟩:ByteArray).toList)&&((⟨x.2.toArray⟩:ByteArray).toList==(⟨y.2.toArray⟩:ByteArray).toList))=decide (x=y):=by
    rw[nD,nD];obtain⟨x1,x2⟩:=x;obtain⟨y1,y2⟩:=y;rw[Bool.eq_iff_iff];simp
   have hlx:l[k]? =some x:=by simp[hkl,hx]
   have hmy:m[k]? =some y:=by simp[hkm,hy]
   have HLX:=aA hlx;have HMY:=aA hmy;clear hc hc' hx hy hkl hkm hlx hmy;generalize(⟨x.1.toArray⟩:ByteArray)=a0 at*;generalize(⟨x.2.toArray⟩:ByteArray)=a1 at*;generalize(⟨y.1.toArray⟩:ByteArray)=d0 at*;generalize(⟨y.2.toArray⟩:ByteArray)=d1 at*;by_cases he:x=y
   .rw[decide_eq_true he]at hq;have HT:Hid (l.take (k+1)=m.take (k+1)):=P6 HLX.out (by rw[he];exact HMY.out) HK.out;clear he HK;go_wp2_with fail
    go_region;go_wp2_with fail
    go_roundw
    case rel=>exact⟨k+1,by omega,by go_num,HT.out,by show Below _ _ _;exact HB.out.trans ((aG:Below wr.heap.size wr _).mono HB.out.size)⟩
    case measure=>simp[intOf];omega
   .rw[decide_eq_false he]at hq;have HF:Hid (Q=false):=by show _=_;rw[HQ.out];exact decide_eq_false λe=>he (by have h1:=HLX.out;have h2:=HMY.out;rw[e]at h1;exact Option.some.inj (h1.symm.trans h2))
    clear he HK;go_wp2_with fail
    go_region;go_wp2_with fail
    go_ret;exact aH.of (by rw[HF.out];rfl) (HB.out.trans ((aG:Below wr.heap.size wr _).mono HB.out.size))
  .have HF:Hid (Q=true):=by
    show _=_;rw[HQ.out];refine decide_eq_true ?_;have h9:=HK.out;rwa[fI (by rw[HN.out];omega),fI (by rw[HM.out];omega)]at h9
   go_wp2_with fail
   go_ret;exact aH.of (by rw[HF.out];rfl) (HB.out.trans ((aG:Below wr.heap.size wr _).mono HB.out.size))
open Go.RowKit Go.Shelf
@[go_sem high] theorem Wd (a b c d:ByteArray) (w:World):(binOp .eql 34 (.agg #[.string a,.string b]) (.agg #[.string c,.string d])).run aE w= .ok (.bool ((a.toList==c.toList)&&(b.toList==d.toList))) w:=by
 rw[run_eql_struct,YB];rfl
def tG (a:Bs × Bs):Bool:=decide (a.1.length<=200)&&decide (a.2.length<=500)
def uT (l:List (Bs × Bs)):Bool:=l.all tG&&decide (l.length<=30)
theorem GC {l:List (Bs × Bs)} (h:uT l=true):l.length<=30/\ ∀a∈l,a.1.length<=200/\a.2.length<=500:=by
 unfold uT at h;simp only[Bool.and_eq_true,decide_eq_true_eq,dO]at h;refine⟨h.2,λa ha=> ?_⟩;have:=h.1 a ha;unfold tG at this;simpa using this
theorem GD (A:Option Addr) (n c:Nat) (l:List (Bs × Bs)) (w:World) (h:Rd w (.slice A n c) l.length 2 (l.flatMap eA)) (hl: ∀a∈l,a.1.length<=maxLen/\a.2.length<=maxLen):Calls aE 7 #[.slice A n c] w (aH (.bool (uT l)) w):=by
 have hn0:l.length=n:=by obtain⟨_,_,_,_,he,_⟩:=h;cases he;rfl
 subst hn0;have hm:l.length<=9223372036854775807:=h.2.1;have HIn:=aA h;have HL:=aA hl;have HFw:Hid (uT l=(l.all tG&&decide (l.length<=30))):=rfl;generalize uT l=D at*;clear h hl;go_enter Tryz.func7,Tryz.ntmps7;go_wp2_with fail
 go_loopw [3] (λi wr=> ∃(k:Nat) (X:Gr),k<=l.length/\i= .int .i64 k/\wr=w.grow X/\Hid ((l.take k).all tG=true)) (λi _=>l.length-(intOf i).toNat)
 case atStart=>exact⟨0,_,by omega,rfl,(kW w).symm,rfl⟩
 case round=>
  obtain⟨k,X,hk,rfl,rfl,HK⟩:=hrel;by_cases hlt:k<l.length
  .obtain⟨b,off,rfl,hb,x0,x1⟩:=(HIn.out.grow X).pr k hlt;obtain⟨h1,h2⟩:=HL.out _ (List.getElem_mem hlt);have HNo:=aA (show tG l[k]=false->l.all tG=false from λh=>by
    rw[<-Bool.not_eq_true,dO];intro h2;rw[h2 _ (List.getElem_mem hlt)]at h;cases h)
   have HYe:=aA (show tG l[k]=true->(l.take (k+1)).all tG=true from λh=>by
    rw[jG hlt,List.all_append,HK.out];simp[h])
   have hok:tG l[k]=(decide (l[k].1.length<=200)&&decide (l[k].2.length<=500)):=rfl;generalize l[k]=a at*;have e1:(⟨a.1.toArray⟩:ByteArray).size=a.1.length:=rfl;have e2:(⟨a.2.toArray⟩:ByteArray).size=a.2.length:=rfl;simp only[sv]at x0 x1;rw[<-e1,<-e2]at hok;rw[<-e1]at h1;rw[<-e2]at h2;generalize(⟨a.1.toArray⟩:ByteArray)=s1 at*;generalize(⟨a.2.toArray⟩:ByteArray)=s2 at*;generalize tG a=OK at*;clear e1 e2;by_cases c1:s1.size<=200
   .have b1:decide ((200:Int)<s1.size)=false:=by rw[decide_eq_false_iff_not];omega
    by_cases c2:s2.size<=500
    .have b2:decide ((500:Int)<s2.size)=false:=by rw[decide_eq_false_iff_not];omega
     have HK2:=aA (HYe.out (by rw[hok,decide_eq_true c1,decide_eq_true c2];rfl));clear hok HYe HNo c1 c2;go_wp2_with fail
     go_roundw
     case rel=>exact⟨k+1,X,by omega,by go_num,rfl,HK2.out⟩
     case measure=>simp[intOf];omega
    .have b2:decide ((500:Int)<s2.size)=true:=by rw[decide_eq_true_eq];omega
     have HD:Hid (D=false):=by show _=_;rw[HFw.out,HNo.out (by rw[hok,decide_eq_false c2];simp)];rfl
     clear hok HYe HNo c1 c2;go_wp2_with fail
     go_ret;exact aH.of (by rw[HD.out];rfl) aG
   .have b1:decide ((200:Int)<s1.size)=true:=by rw[decide_eq_true_eq];omega
    have HD:Hid (D=false):=by show _=_;rw[HFw.out,HNo.out (by rw[hok,decide_eq_false c1];rfl)];rfl
    clear hok HYe HNo c1;go_wp2_with fail
    go_ret;exact aH.of (by rw[HD.out];rfl) aG
  .have hkn:k=l.length:=by omega
   have HD:Hid (D=decide (l.length<=30)):=by show _=_;have:=HK.out;rw[hkn,List.take_length]at this;rw[HFw.out,this];rfl
   go_wp2_with fail
   go_ret;exact aH.of (by rw[HD.out];show Value.bool (decide ((l.length:Int)<=30))=_;simp;omega) aG
theorem KW {p:aO} (h:gZ p=true):p.css.length<=200/\p.forces.length<=200/\p.name<=65536/\p.value<=65536:=by
 unfold gZ oA lK uQ at h;simp only[Bool.and_eq_true,decide_eq_true_eq]at h;omega
def kS (x:Bs) (L:List (Bs × Bs)):Bool:=L.all λb=> !decide (b.1=x)
theorem UP {x:Bs} {L:List (Bs × Bs)} {q:Nat} (h:q<L.length):kS x (L.take (q+1))=(kS x (L.take q)&& !decide (L[q].1=x)):=by
 unfold kS;rw[jG h,List.all_append];simp
theorem UR {x:Bs} {L:List (Bs × Bs)}:kS x L= !decide (x∈bT L):=by
 unfold kS bT;rw[Bool.eq_iff_iff];simp only[dO,Bool.not_eq_true',decide_eq_false_iff_not,List.mem_map,not_exists,not_and]
theorem Ja {P:aO} {tg z1 z2:Bs} {F K X:List (Bs × Bs)} {ts:ByteArray} {tb:Bool} (hs:X=K++match fK P tg z1 z2 with
  |some v=>if z1∈bT F++bT K then []else [(z1,v)]
  |none=>[]) (ht:sI (fK P tg z1 z2)= .tuple #[.string ts,.bool tb]):X=K++(if(tb&&(kS z1 K&&kS z1 F))=true then [(z1,ts.data.toList)]else []):=by
 rw[hs];congr 1;cases hv:fK P tg z1 z2 with
 |none=>
  rw[hv]at ht;cases ht;rfl
 |some v=>
  rw[hv]at ht;cases ht;simp only;rw[UR,UR];by_cases h1:z1∈bT K
  .simp[h1]
  .by_cases h2:z1∈bT F
   .simp[h2]
   .simp[h1,h2]
def Rm:Bs:=[116,97,103,115,32,97,59,32,97,116,116,114,115,32,97,58,32,104,114,101,102,32,116,105,116,108,101,59,32,115,99,104,101,109,101,115,32,104,116,116,112,59]
def FQ:Bs:=[104,114,101,102]
def NY:aO:=⟨[[97]],[[104,116,116,112]],[],[],[⟨[97],FQ⟩,⟨[97],[116,105,116,108,101]⟩],[],false,64,32,1024⟩
def NZ:List (Bs × Bs):=[(FQ,[32,72,84,84,80,58,120]),([111,110,99,108,105,99,107],[121])]
theorem Rn:qE Rm= .ok NY:=by kernel_rfl
theorem Ro:dB NY [97] NZ=[(FQ,[104,116,116,112,58,120])]:=by decide+kernel
theorem Rp:jW [97,0,13]=[97,10]:=by decide
theorem NX (w:World) (hU:U8 w) (hT:Tb w) (hX:Mx w):Calls aE 6 #[] w (aH (.bool true) w):=by
 have hmx:=bX;have HT:=aA (λW (hb:Below w.heap.size w W)=>And.intro (hU.below hb) (And.intro (Tb.below hT hb) (Mx.below hX hb)));have HP:=aA (λW=>show Calls aE 8 #[.string ⟨#[116,97,103,115,32,97,59,32,97,116,116,114,115,32,97,58,32,104,114,101,102,32,116,105,116,108,101,59,32,115,99,104,101,109,101,115,32,104,116,116,112,59]⟩] W _ from Pi Rn W);clear hU hT hX;go_enter Tryz.func6,Tryz.ntmps6;go_upto_region 4 with(go_at_call 8;(with_reducible refine(HP.out _).mono ?_);rintro e W1 ⟨g,rfl,hb1,hr1⟩;have HB1:=aA hb1;have HR1:=aA hr1;clear hb1 hr1)
 have HFi:=aA (λW (hb:Below W1.heap.size W1 W) (A:Option Addr) (n c:Nat) (h:Rd W (.slice A n c) 2 2 (NZ.flatMap eA))=>show Calls aE 9 #[.pointer (some ⟨g,0,none⟩),.string ⟨#[97]⟩,.slice A n c] W (sR W [(FQ,[104,116,116,112,58,120])])from by
  have ht:=HT.out W (HB1.out.trans (hb.mono HB1.out.size));have h9:=CJ g NY [97] A n c NZ W (HR1.out.below hb) dc dc  ht.1 ht.2.1 ht.2.2 dc h dc dc dc;rw[Ro]at h9;exact h9)
 have HCl:=aA (λW (hb:Below W1.heap.size W1 W)=>show Calls aE 17 #[.string ⟨#[97,0,13]⟩] W (aH (.string ⟨#[97,10]⟩) W)from by
  have ht:=HT.out W (HB1.out.trans (hb.mono HB1.out.size));have h9:=ZD [97,0,13] W ht.2.2 dc;rw[Rp]at h9;exact h9)
 go_wp2_with(first
  |(go_at_call 9;(refine(HFi.out _ aG _ _ _ (uN (n:=2) (size:=2) rfl dc (by simp[go_sem]) rfl)).mono ?_);rintro e V3 ⟨A3,c3,rfl,hb3,_,_,hr3⟩;obtain⟨b,off,rfl,hb,x0,x1⟩:=hr3.pr 0 dc;have y0:V3.cell? ⟨b,off,none⟩=some (.string ⟨#[104,114,101,102]⟩):=x0;have y1:V3.cell? ⟨b,off+1,none⟩=some (.string ⟨#[104,116,116,112,58,120]⟩):=x1;have HB3:=aA (show Below W1.heap.size W1 V3 from aP (show Below W1.heap.size W1 _ from aG) hb3);clear hb3 hr3 x0 x1)
  |(go_at_call 17;(with_reducible refine zG (HCl.out _ HB3.out) λY4=>?_)))
 go_ret;exact aH.of rfl (HB1.out.trans ((HB3.out.trans ((aG:Below V3.heap.size V3 _).mono HB3.out.size)).mono HB1.out.size))
open Go.ChangeShapes Go.WideShapes Go.Deep
section
variable {H:Type} {enc:TypeId × Value->H} {w:World} {base:Nat} {spare:Nat->Bool} {held:Bool}
theorem Rr: ∃f0 f1:Field,aE.underlying 34=some (.struct #[f0,f1])/\f0.type=9/\f1.type=9/\oneCellFields aE #[f0,f1]=true:=
 ⟨_,_,Tryz.underlying34,rfl,rfl,by kernel_rfl⟩
theorem GO {fuel:Nat} {a:Option Addr} {len cap:Nat} {x:DataW H × List MemPlace}
  (h:DataW.trod enc aE w base spare held fuel 22 [.slice a len cap]=some x): ∃l:List (Bs × Bs),l.length=len/\Rd w (.slice a len cap) l.length 2 (l.flatMap eA)/\ ∀p∈l,p.1.length<=maxLen/\p.2.length<=maxLen:=by
 obtain⟨f0,f1,hs,t0,t1,hone⟩:=Rr;obtain⟨hlen,hc⟩:=Ei (n:=2) Tryz.underlying22 hs hone kr rfl om h;by_cases h0:0<len
 .obtain⟨b,off,rfl,hcc⟩:=hc h0;obtain⟨l,hl,hl2⟩:=Qh (n:=len) (p:=λi (y:Bs × Bs)=>w.cell? ⟨b,off+(i*2+0),none⟩=some (sv y.1)/\w.cell? ⟨b,off+(i*2+1),none⟩=some (sv y.2)/\y.1.length<=maxLen/\y.2.length<=maxLen) (λi hi=>by
   obtain⟨v0,c0,fu0,y0,r0⟩:=hcc i hi 0 f0 rfl;obtain⟨v1,c1,fu1,y1,r1⟩:=hcc i hi 1 f1 rfl;rw[t0]at r0;rw[t1]at r1;obtain⟨s,e0,_,m0⟩:=DataW.trod_string dH r0;obtain⟨s2,e1,_,m1⟩:=DataW.trod_string dH r1;simp at e0 e1;subst e0 e1;exact⟨⟨s.data.toList,s2.data.toList⟩,c0,c1,by show s.data.toList.length<=_;rw[cU];exact m0,by show s2.data.toList.length<=_;rw[cU];exact m1⟩)
  refine⟨l,hl,⟨oY eA 2 (λ_=>rfl) l,by omega,some ⟨b,off,none⟩,cap,by rw[hl],λ_=>⟨b,off,rfl,World.block_lt_of_cell? w _ (hl2 0 om).1,λj u hu=> ?_⟩⟩,λp hp=> ?_⟩;rotate_left
  .obtain⟨i,hi,rfl⟩:=List.mem_iff_getElem.1 hp;exact(hl2 i hi).2.2
  have hj:j<l.length*2:=by rw[<-oY eA 2 (λ_=>rfl) l];exact(List.getElem?_eq_some_iff.1 hu).1
  obtain⟨i,r,hr,rfl⟩: ∃i r,r<2/\j=i*2+r:=⟨j/2,j%2,by omega,by omega⟩;have hi:i<l.length:=by omega
  obtain⟨k0,k1,_⟩:=hl2 i hi;rw[wH eA 2 (λ_=>rfl) l i hi r hr]at hu;match r,hr with
  |0,_=>cases hu;exact k0
  |1,_=>cases hu;exact k1
 .obtain rfl:len=0:=by omega
  exact⟨[],rfl,⟨by simp,by omega,a,cap,rfl,λh=>by simp at h⟩,by simp⟩
end
