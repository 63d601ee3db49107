import Derived.Shelf.Strings.SlTrimAscii
import Derived.Test.YtccjfanpjojbnaaGreatDoorJCssC
namespace Go.Proofs.YtccjfanpjojbnaaGreatDoor
open Go.Ending renaming returned→aL
open Go.IntKind renaming i64→aC
open Lib renaming hid→aA
open List renaming all_eq_true→dO,append_eq_nil_iff→qv,drop_drop→qQ,drop_succ_cons→qP,length_append→aZ,length_drop→bL,length_take→bZ,replicate→cX
open Tryz renaming prog→aE
open Go.Value renaming agg→aR,bool→aI,int→aB,string→aD,tuple→aN
set_option maxRecDepth 100000
set_option maxHeartbeats 8000000
open Go.RowKit Go.Shelf
theorem I4: ∀(l:Bs),l.all aQ=true-> ∀k,l.foldl (λn (c:UInt8)=>n*10+(c.toNat-48)) k+1<=(k+1)*10 ^ l.length:=by
 intro l;induction l with
 |nil=>intro _ k;simp
 |cons c l ih=>
  intro hl k;simp only[List.all_cons,Bool.and_eq_true]at hl;have:=ih hl.2 (k*10+(c.toNat-48));have hc:=hl.1;simp only[aQ,decide_eq_true_eq]at hc;simp only[List.foldl_cons,List.length_cons,Nat.pow_succ];refine Nat.le_trans this ?_;rw[Nat.mul_comm (10 ^ l.length) 10,<-Nat.mul_assoc];exact Nat.mul_le_mul_right _ om
theorem J0 (l:Bs) (c:UInt8):gX (l++[c])=gX l*10+(c.toNat-48):=by
 unfold gX;rw[List.foldl_append];rfl
theorem IN (l:Bs) (h:l.all aQ=true) (h9:l.length<=9):gX l<=999999999:=by
 have:=I4 l h 0;have hp:=Nat.pow_le_pow_right (n:=10) om h9;unfold gX;omega
theorem Eu (s:Bs) (w:World) (hne:s≠[]) (hal:s.all aQ=true) (h9:s.length<=9):Calls aE 92 #[aD ⟨s.toArray⟩,aB aC 10,aB aC 1099511627776] w (aH (aN #[aB aC (gX s),aI true]) w):=by
 obtain⟨S,hS⟩: ∃S:ByteArray,⟨s.toArray⟩=S:=⟨_,rfl⟩;have hd0:S.data.toList=s:=by rw[<-hS]
 have hsz:S.size=s.length:=by rw[<-hS];rfl
 have hemp:S.toList.isEmpty=false:=by rw[tN,hd0];simpa using hne
 have hcv: ∀W:World,(convert 9 130 (aD S)).run aE W= .ok (Value.slice (some ⟨W.heap.size,0,none⟩) S.size (grownCap W S.size 0 5)) (W.grow (kZ W 5 S)):=λW=>AC W _ _ _ S Tryz.underlying9 Tryz.underlying130 Tryz.underlying5;have HB:=aA (λW=>CU W 5 S);have HZ:=aA hsz;have HA:=aA hal;have H0:=aA hd0;have hS9:S.size<=9:=by omega
 have hmax:max (1099511627776:Int) 0=1099511627776:=by decide
 rw[hS];clear hsz hd0 hS hne hal;go_enter Tryz.func92,Tryz.ntmps92;go_wp2_with fail
 go_loop [8,30] (λn i=> ∃k:Nat,k<=S.size/\i=aB aC k/\n=aB aC (gX (s.take k))) (λ_ i=>S.size-(intOf i).toNat)
 case atStart=>exact⟨0,by omega,rfl,rfl⟩
 case round=>
  obtain⟨k,hk,rfl,rfl⟩:=hrel;by_cases hlt:k<S.size
  .have hks:k<s.length:=by rw[<-HZ.out];exact hlt
   have hc0:=HB.out w k hlt;have hck:S[k]=s[k]:=wQ S s H0.out k hlt;rw[hck]at hc0;have HN:=aA (J0 (s.take k) s[k]);rw[<-List.take_succ_eq_append_getElem hks]at HN;have hdg:aQ s[k]=true:=dO.1 HA.out _ (List.getElem_mem hks);have hsm:=IN (s.take (k+1)) (dO.2 λx hx=>dO.1 HA.out x (List.mem_of_mem_take hx)) (by rw[bZ];omega);have HD:=aA (λW=>show Calls aE 109 #[.int .u8 s[k].toNat] W λe w'=>e=aL (aI true)/\W=w' from hdg ▸ qD s[k] W);generalize s[k]=c at*;have h1:48<=c.toNat/\c.toNat<=57:=by simpa[aQ]using hdg
   obtain⟨d,hd1⟩: ∃d,c.toNat=48+d:=⟨c.toNat-48,by omega⟩;have hd9:d<=9:=by omega
   rw[hd1,show((48+d:Nat):Int)=48+(d:Int) by omega]at hc0 HD;rw[hd1,Nat.add_sub_cancel_left]at HN;have hv:gX (s.take k)*10+d<=999999999:=by rw[<-HN.out];exact hsm
   have hw1:IntKind.u8.wrap (48+(d:Int)-48)=(d:Int):=by rw[show 48+(d:Int)-48=d by omega];exact IntWalk.u8_in _ om
   have hw2:IntKind.u8.wrap (d:Int)=(d:Int):=IntWalk.u8_in _ om;have hcn:=vY (Nat.le_refl _) hc0;clear hdg hck hsm h1 hd1 hc0;generalize gX (s.take k)=v at*;have hmin:min ((v:Int)*10+(d:Int)) 1099511627776=(v:Int)*10+(d:Int):=by omega
   go_wp2_with(go_at_call 109;(with_reducible refine zQ (HD.out _) ?_))
   go_round
   case rel=>exact⟨k+1,by omega,by go_num,by rw[HN.out];simp;try omega⟩
   case measure=>simp[intOf];omega
  .have HN:Hid (gX (s.take k)=gX s):=by show _=_;rw[List.take_of_length_le];rw[<-HZ.out];omega
   go_wp2
   go_ret2;exact aH.of (by rw[HN.out];rfl) aG
def uI (s:Bs):aK × Nat:=match gH s with
 |some x=>x
 |none=>(kM,0)
theorem j7 (c:UInt8):([43,45]:Bs).contains c=kD c:=by
 rw[Bool.eq_iff_iff];simp[kD,<-UInt8.toNat_inj]
theorem L6 (s:Bs):Lib.trimLeftS s [43,45]=s.drop (aX kD s):=by
 rw[K6];unfold Lib.trimLeftS;congr 1;funext c;exact j7 c
theorem L5 (S:ByteArray) (W:World):Calls aE 261 #[aD S,aD ⟨#[43,45]⟩] W (aH (aD ⟨(S.data.toList.drop (aX kD S.data.toList)).toArray⟩) W):=by
 refine(Any.strings_TrimLeft_laid Tryz.lays161 kr S ⟨#[43,45]⟩ W dc ?_).mono λe w' ⟨h1,h2⟩=> ?_
 .intro j b hb;have:b∈([43,45]:Bs):=List.mem_of_getElem? hb;simp at this;rcases this with rfl|rfl<;>decide
 .obtain⟨X,hX⟩:=cV h2;rw[show(⟨#[43,45]⟩:ByteArray).data.toList=[43,45]from rfl,L6]at h1;exact⟨h1,X,hX⟩
theorem Ex {s:Bs} (h:1<aX kD s):gH s=none:=by
 cases s with
 |nil=>simp[aX]at h
 |cons c s=>
  cases hc:kD c
  .simp[aX,hc]at h
  .cases s with
   |nil=>simp[aX,hc]at h
   |cons d s=>
    have hd1:kD d=true:=by
     cases hd0:kD d
     .simp[aX,hc,hd0]at h
     .rfl
    have h1:aQ d=false:=by simp only[kD,aQ,decide_eq_true_eq,decide_eq_false_iff_not]at*;omega
    have h2:d.toNat≠46:=by simp only[kD,decide_eq_true_eq]at hd1;omega
    have e1:gY (c::d::s)=1:=by simp[gY,hd,hc]
    have e2:aX aQ (d::s)=0:=by simp[aX,h1]
    have e3:fV (d::s)=0:=by simp[fV,h2]
    unfold gH cQ;simp only[e1,qP,List.drop_zero,e2,e3,List.take_zero];rfl
theorem j6 {s:Bs} (h: ¬1<aX kD s):gY s=aX kD s:=by
 cases s with
 |nil=>rfl
 |cons c s=>
  cases hc:kD c
  .simp[gY,aX,hd,hc]
  .simp[gY,aX,hd,hc]at h ⊢;omega
theorem wC {k:IntKind} {a b:Int} (h:a=b):aB k a=aB k b:=by rw[h]
theorem qZ {a b:ByteArray} (h:a.data.toList=b.data.toList):aD a=aD b:=by rw[yB h]
theorem C3 (n:Nat) (W:World) (h:n<=3):Calls aE 262 #[aD ⟨#[48]⟩,aB aC n] W (aH (aD ⟨(cX n (48:UInt8)).toArray⟩) W):=by
 refine(Tryz.strings_Repeat ⟨#[48]⟩ n W om (by show 1*n<=_;omega)).mono λe w' ⟨h1,h2⟩=> ?_;obtain⟨X,hX⟩:=cV h2;refine⟨?_,X,hX⟩;rw[h1];congr 2;have:n=0\/n=1\/n=2\/n=3:=by omega
 rcases this with rfl|rfl|rfl|rfl<;>rfl
theorem TM (S:ByteArray) (k:Nat) (c:UInt8) (W:World):Calls aE 24 #[aD (S.extract k S.size),aD ⟨#[c]⟩] W λe w'=>e=aL (aI (hd (λd=>decide (d.toNat=c.toNat)) (S.data.toList.drop k)))/\w'=W:=by
 have:=Tryz.strings_HasPrefix (S.extract k S.size) ⟨#[c]⟩ W;rw[show(⟨#[c]⟩:ByteArray).data.toList=[c]from rfl,NI,TL]at this;exact this
theorem Et (s:Bs) (w:World) (hm:s.length<=1000000000) (hne:s≠[]):Calls aE 246 #[aD ⟨s.toArray⟩] w (aH (aN #[aK.agg (uI s).1,aB aC (uI s).2]) w):=by
 obtain⟨S,hS⟩: ∃S:ByteArray,⟨s.toArray⟩=S:=⟨_,rfl⟩;have hd0:S.data.toList=s:=by rw[<-hS]
 have hsz:S.size=s.length:=by rw[<-hS];rfl
 obtain⟨t,ht⟩: ∃t,aX kD s=t:=⟨_,rfl⟩;have htl:t<=s.length:=ht ▸ lI kD s;obtain⟨T,hT⟩: ∃T:ByteArray,⟨(s.drop t).toArray⟩=T:=⟨_,rfl⟩;have htz:T.size=s.length-t:=by rw[<-hT];show(s.drop t).length=_;simp
 have HT:=aA (λW=>show Calls aE 261 #[aD S,aD ⟨#[43,45]⟩] W (aH (aD T) W)from by
  have:=L5 S W;rwa[hd0,ht,hT]at this)
 have hsub:(S.size:Int)-(T.size:Int)=(t:Nat):=by omega
 have hSm:S.size<=1000000000:=by omega
 have hTm:T.size<=S.size:=by omega
 have htS:t<=S.size:=by omega
 have HV:Hid (uI s=match gH s with
  |some x=>x
  |none=>(kM,0)):=rfl
 rw[hS];by_cases h1:1<t
 .have HN:Hid (uI s=(kM,0)):=by show _=_;rw[HV.out,Ex (by rw[ht];exact h1)]
  clear hsz htz htl hT hS hd0 ht hm;go_enter Tryz.func246,Tryz.ntmps246;go_wp2_with(go_at_call 261;(with_reducible refine zG (HT.out _) λX=>?_))
  ((try simp only[Exit.inBlock,Exit.then]);refine bodyPost_ret (v:= aN #[aR #[aB aC 0,aD ⟨#[]⟩,aB aC 0,aD ⟨#[]⟩],aB aC 0]) (by(first|rw[results_cell_tmp rfl]|rw[fB rfl]);go_simp) rfl ?_);exact aH.of (by rw[HN.out];rfl) aG
 .have hsg:gY s=t:=ht ▸ j6 (by rw[ht];exact h1);obtain⟨wn,hwn⟩: ∃n,aX aQ (s.drop t)=n:=⟨_,rfl⟩;have hwl:=lI aQ (s.drop t);rw[hwn,bL]at hwl;obtain⟨v,hv⟩: ∃v,s.drop (t+wn)=v:=⟨_,rfl⟩;have hvl:v.length=s.length-(t+wn):=by rw[<-hv];simp
  obtain⟨p,hp⟩: ∃p,fV v=p:=⟨_,rfl⟩;have hpl:=NN v;rw[hp]at hpl;obtain⟨te,hte⟩: ∃n,t+wn+(if p=0 then 0 else p+1)=n:=⟨_,rfl⟩;have htel:te<=s.length:=by rw[<-hte];split<;>omega
  obtain⟨r,hr⟩: ∃r,s.drop te=r:=⟨_,rfl⟩;have hrl:r.length=s.length-te:=by rw[<-hr];simp
  obtain⟨un,hun⟩: ∃n,pT r=n:=⟨_,rfl⟩;have hul:=wX r;rw[hun]at hul;have HP:Hid (cQ s=⟨hd (λc=>decide (c.toNat=45)) s,(s.drop t).take wn,(v.drop 1).take p,r.take un,te⟩):=by
   show _=_;unfold cQ;simp only[hsg,hwn,qQ,hv,hp];have hr2:(if p=0 then v else v.drop (p+1))=r:=by
    rw[<-hr,<-hte,<-hv];split
    .rw[Nat.add_zero]
    .rw[qQ]
   rw[hr2,hun,hte]
  have hal1:((s.drop t).take wn).all aQ=true:=by rw[<-hwn];exact sP _ _
  have hal2:((v.drop 1).take p).all aQ=true:=by
   rw[<-hp];cases v with
   |nil=>rfl
   |cons c v=>
    simp only[fV,qP,List.drop_zero];split
    .exact sP _ _
    .rfl
  obtain⟨F1,hF1⟩: ∃F:ByteArray,S.extract t (t+wn)=F:=⟨_,rfl⟩;have hF1d:F1.data.toList=(s.drop t).take wn:=by rw[<-hF1,xB,hd0];show(s.take (t+wn)).drop t=_;rw[List.drop_take];congr 1;omega
  obtain⟨F,hF⟩: ∃F:ByteArray,(⟨((s.drop t).take wn++(v.drop 1).take p).toArray⟩:ByteArray)=F:=⟨_,rfl⟩;have hFd:F.data.toList=(s.drop t).take wn++(v.drop 1).take p:=by rw[<-hF]
  have HR1:=aA (λW=>show Calls aE 248 #[aD S,aB aC t,.func (.func 109) #[] #[]] W λe w'=>e=aL (aB aC wn)/\W=w' from by
   have:=xG S t _ _ W NP htS om;rwa[hd0,hwn]at this)
  have HPf:=aA (λW=>show Calls aE 24 #[aD (S.extract (t+wn) S.size),aD ⟨#[46]⟩] W λe w'=>e=aL (aI (hd (λd=>decide (d.toNat=46)) v))/\w'=W from by
   have:=TM S (t+wn) 46 W;rwa[hd0,hv]at this)
  have hatS:t+wn<=S.size:=by omega
  have hc1:aC.wrap ((t:Int)+wn)=((t+wn:Nat):Int):=by rw[IntWalk.i64_in _ om];omega
  obtain⟨at1,hat⟩: ∃n,t+wn=n:=⟨_,rfl⟩;rw[hat]at hF1 hv HPf hatS hte hvl hc1;have hav:p≠0->at1+1+p<=S.size:=λh=>by omega
  have hteS:te<=S.size:=by omega
  have hunS:te+un<=S.size:=by omega
  have hwS:wn<=S.size:=by omega
  have hpS:p<=S.size:=by omega
  have HD1:Hid (hd (λd=>decide (d.toNat=46)) v=true->at1+1<=S.size/\aX aQ (s.drop (at1+1))=p):=λh=>by
   cases v with
   |nil=>simp[hd]at h
   |cons c v'=>
    simp only[hd,decide_eq_true_eq]at h;refine⟨by simp at hvl;omega, ?_⟩;rw[<-hp,fV,if_pos h,<-qQ,hv];rfl
  have HD2:Hid (hd (λd=>decide (d.toNat=46)) v=false->p=0):=λh=>by
   cases v with
   |nil=>exact hp.symm
   |cons c v'=>
    simp only[hd,decide_eq_false_iff_not]at h;rw[<-hp,fV,if_neg h]
  have HD3:Hid (p=0\/at1+1+p<=S.size):=by
   show _\/_;by_cases h0:p=0
   .exact .inl h0
   .exact .inr (hav h0)
  have HW1:Hid (((s.drop t).take wn).length=wn):=by show _=_;rw[bZ,bL];omega
  have HW2:Hid (((v.drop 1).take p).length=p):=by show _=_;rw[bZ,bL];omega
  have HW3:Hid ((r.take un).length=un):=by show _=_;rw[bZ];omega
  have HTE:=aA hte;have HRr:=aA hr;have HUn:=aA hun;have HPp:=aA hp;have HV1:=aA hv;have HD:=aA hd0;have HFd:=aA hFd;have HF1d:=aA hF1d;have HL:=aA hsz;have htt: ¬(1:Int)<(t:Int):=by omega
  clear hT hS ht htz htl hwl hm hte hr hun hp hv hd0 hFd hF1d hvl hrl hul hpl htel hF hsz hwn hsg h1;go_enter Tryz.func246,Tryz.ntmps246;go_upto_if 35 with(first|(go_at_call 261;(with_reducible refine zG (HT.out _) λX=>?_))|(go_at_call 248;(with_reducible refine zQ (HR1.out _) ?_))|(go_at_call 24;(with_reducible refine zQ (HPf.out _) ?_)))
  go_cut [7] (λs7 wx=>s7=aB aC (p:Nat)/\wx=(w.alloc (.cells #[aB aC 0,aD ⟨#[]⟩,aB aC 0,aD ⟨#[]⟩] 209)).grow X)
  case first=>
   generalize hd (λd=>decide (d.toNat=46)) v=dot at*;cases dot
   .have h0:=HD2.out rfl;subst h0;go_wp2
    go_meet
    case rel=>exact⟨rfl,rfl⟩
   .obtain⟨ha,hb⟩:=HD1.out rfl;have HR2:=aA (λW=>show Calls aE 248 #[aD S,aB aC ((at1:Int)+1),.func (.func 109) #[] #[]] W λe w'=>e=aL (aB aC p)/\W=w' from by
     have:=xG S (at1+1) _ _ W NP ha om;rw[HD.out,hb]at this;exact this)
    clear ha hb;go_wp2_with(go_at_call 248;(with_reducible refine zQ (HR2.out _) ?_))
    go_meet
    case rel=>exact⟨rfl,rfl⟩
  case rest=>
   obtain⟨rfl,rfl⟩:=hcut;go_upto_if 41 with fail
   go_cut [4,6] (λs4 s6 wx=>s4=aB aC (te:Nat)/\s6=aD F/\wx=(w.alloc (.cells #[aB aC 0,aD ⟨#[]⟩,aB aC 0,aD ⟨#[]⟩] 209)).grow X)
   case first=>
    by_cases hp0:0<p
    .have hav2:at1+1+p<=S.size:=hav om;have hx1:((at1:Int)+1).toNat=at1+1:=by omega
     have hx2:((at1:Int)+1+p).toNat=at1+1+p:=by omega
     have HTE2:=HTE.out;rw[if_neg om]at HTE2;have HTE3:=aA HTE2;obtain⟨G,hG⟩: ∃G:ByteArray,S.extract (at1+1) (at1+1+p)=G:=⟨_,rfl⟩;have HGd:Hid (G.data.toList=(v.drop 1).take p):=by
      show _=_;rw[<-hG,xB,HD.out];show(s.take _).drop _=_;rw[List.drop_take,<-HV1.out,qQ];congr 1;omega
     have hGs:G.size<=1000000000:=by rw[<-cU,HGd.out,bZ];omega
     have hF1s:F1.size<=1000000000:=by rw[<-cU,HF1d.out,bZ];omega
     clear HTE2;go_wp2
     go_meet
     case rel=>exact⟨wC (by have:=HTE3.out;omega),qZ (by rw[HFd.out,ByteArray.data_append,Array.toList_append,HF1d.out,HGd.out]),rfl⟩
    .have h0:p=0:=by omega
     subst h0;have HTE2:=HTE.out;rw[if_pos rfl,Nat.add_zero]at HTE2;have HTE3:=aA HTE2;clear HTE2;go_wp2
     go_meet
     case rel=>exact⟨wC (by have:=HTE3.out;omega),qZ (by rw[HFd.out,HF1d.out,List.take_zero,List.append_nil]),rfl⟩
   case rest=>
    obtain⟨rfl,rfl,rfl⟩:=hcut;by_cases hF0:F.data.toList=[]
    .have hFe:F.toList.isEmpty=true:=by rw[tN,hF0];rfl
     have HN:Hid (uI s=(kM,0)):=by
      show _=_;have h1:=HFd.out;rw[hF0]at h1;have h2:=qv.1 h1.symm;have h3:gH s=none:=by
       unfold gH;rw[HP.out];unfold BO;simp only;rw[if_pos h2]
      rw[HV.out,h3]
     go_wp2
     ((try simp only[Exit.inBlock,Exit.then]);refine bodyPost_ret (v:= aN #[aR #[aB aC 0,aD ⟨#[]⟩,aB aC 0,aD ⟨#[]⟩],aB aC 0]) (by(first|rw[results_cell_tmp rfl]|rw[fB rfl]);go_simp) rfl ?_);exact aH.of (by rw[HN.out];rfl) aG
    .have hFe:F.toList.isEmpty=false:=by rw[tN];simpa using hF0
     have HNo:Hid (¬((s.drop t).take wn=[]/\(v.drop 1).take p=[])):=λh=>hF0 (by rw[HFd.out,h.1,h.2];rfl);have HC:Hid (gH s=if 6<wn\/3<p\/64<un then some (iT,te+un)else some (⟨3,[],if hd (λc=>decide (c.toNat=45)) s then-(gX ((s.drop t).take wn++(v.drop 1).take p++cX (3-p) 48):Int)else gX ((s.drop t).take wn++(v.drop 1).take p++cX (3-p) 48),bO (r.take un)⟩,te+un)):=by
      show _=_;unfold gH;rw[HP.out];unfold BO;simp only;rw[if_neg HNo.out,HW1.out,HW2.out,HW3.out]
     clear hF0;go_upto_block 0 with fail
     go_cut [8] (λs8 wx=>s8=aB aC (un:Nat)/\wx=(w.alloc (.cells #[aB aC 0,aD ⟨#[]⟩,aB aC 0,aD ⟨#[]⟩] 209)).grow X)
     case first=>
      have HPf2:=aA (λW=>show Calls aE 24 #[aD (S.extract te S.size),aD ⟨#[37]⟩] W λe w'=>e=aL (aI (hd (λd=>decide (d.toNat=37)) r))/\w'=W from by
       have:=TM S te 37 W;rw[HD.out,HRr.out]at this;exact this)
      by_cases hlt:te<S.size
      .have hlt2:te<s.length:=by rw[<-HL.out];exact hlt
       have HR':Hid (r=S[te]::s.drop (te+1)):=by show _=_;rw[<-HRr.out,List.drop_eq_getElem_cons hlt2,wQ S s HD.out te hlt]
       have HUe:Hid (un=if S[te].toNat=37 then 1 else if kU S[te]then aX bI r else 0):=by
        show _=_;rw[<-HUn.out,HR'.out];rfl
       rw[show hd (λd=>decide (d.toNat=37)) r=decide (S[te].toNat=37) by rw[HR'.out];rfl]at HPf2;have HLt:=aA (λW=>VQ S[te] W);by_cases h37:S[te].toNat=37
       .rw[decide_eq_true h37]at HPf2;rw[if_pos h37]at HUe;have HPf3:=aA HPf2.out;clear HPf2 h37 HLt;go_wp2_with(go_at_call 24;(with_reducible refine zQ (HPf3.out _) ?_))
        go_meet
        case rel=>exact⟨wC (by rw[HUe.out];rfl),rfl⟩
       .rw[decide_eq_false h37]at HPf2;rw[if_neg h37]at HUe;have HPf3:=aA HPf2.out;cases hl:kU S[te]
        .rw[hl]at HLt HUe;have HLt2:=aA HLt.out;clear HPf2 h37 HLt hl;go_wp2_with(first|(go_at_call 24;(with_reducible refine zQ (HPf3.out _) ?_))|(go_at_call 124;(with_reducible refine zQ (HLt2.out _) ?_)))
         go_meet
         case rel=>exact⟨wC (by rw[HUe.out];rfl),rfl⟩
        .rw[hl]at HLt HUe;have HLt2:=aA HLt.out;have HR3:=aA (λW=>show Calls aE 248 #[aD S,aB aC te,.func (.func 249) #[] #[]] W λe w'=>e=aL (aB aC un)/\W=w' from by
          have:=xG S te _ _ W NA hteS om;rw[HD.out,HRr.out]at this;rw[HUe.out];exact this)
         clear HPf2 h37 HLt hl;go_wp2_with(first|(go_at_call 24;(with_reducible refine zQ (HPf3.out _) ?_))|(go_at_call 124;(with_reducible refine zQ (HLt2.out _) ?_))|(go_at_call 248;(with_reducible refine zQ (HR3.out _) ?_)))
         go_meet
         case rel=>exact⟨rfl,rfl⟩
      .have hr0:r=[]:=by rw[<-HRr.out];exact List.drop_eq_nil_of_le (by rw[<-HL.out];omega)
       have HUe:Hid (un=0):=by show _=_;rw[<-HUn.out,hr0];rfl
       rw[show hd (λd=>decide (d.toNat=37)) r=false by rw[hr0];rfl]at HPf2;have HPf3:=aA HPf2.out;clear HPf2 hr0;go_wp2_with(go_at_call 24;(with_reducible refine zQ (HPf3.out _) ?_))
       go_meet
       case rel=>exact⟨wC (by rw[HUe.out];rfl),rfl⟩
     case rest=>
      obtain⟨rfl,rfl⟩:=hcut;have HBd:=aA (λW=>NW W);by_cases hb1:6<wn
      .rw[if_pos (.inl hb1)]at HC;go_wp2_with(go_at_call 251;(with_reducible refine zF (HBd.out _) λX2=>?_);simp only[aK.agg,iT,sv])
       ((try simp only[Exit.inBlock,Exit.then]);refine bodyPost_ret (v:= aN #[aR #[aB aC 7,aD ⟨#[]⟩,aB aC 0,aD ⟨#[]⟩],aB aC ((te:Int)+un)]) (by(first|rw[results_cell_tmp rfl]|rw[fB rfl]);go_simp) rfl ?_);exact aH.of (by rw[HV.out,HC.out];simp[iT,aK.agg,sv]) aG
      by_cases hb2:3<p
      .rw[if_pos (.inr (.inl hb2))]at HC;go_wp2_with(go_at_call 251;(with_reducible refine zF (HBd.out _) λX2=>?_);simp only[aK.agg,iT,sv])
       ((try simp only[Exit.inBlock,Exit.then]);refine bodyPost_ret (v:= aN #[aR #[aB aC 7,aD ⟨#[]⟩,aB aC 0,aD ⟨#[]⟩],aB aC ((te:Int)+un)]) (by(first|rw[results_cell_tmp rfl]|rw[fB rfl]);go_simp) rfl ?_);exact aH.of (by rw[HV.out,HC.out];simp[iT,aK.agg,sv]) aG
      by_cases hb3:64<un
      .rw[if_pos (.inr (.inr hb3))]at HC;go_wp2_with(go_at_call 251;(with_reducible refine zF (HBd.out _) λX2=>?_);simp only[aK.agg,iT,sv])
       ((try simp only[Exit.inBlock,Exit.then]);refine bodyPost_ret (v:= aN #[aR #[aB aC 7,aD ⟨#[]⟩,aB aC 0,aD ⟨#[]⟩],aB aC ((te:Int)+un)]) (by(first|rw[results_cell_tmp rfl]|rw[fB rfl]);go_simp) rfl ?_);exact aH.of (by rw[HV.out,HC.out];simp[iT,aK.agg,sv]) aG
      rw[if_neg om]at HC;have HZr:=aA (λW=>show Calls aE 262 #[aD ⟨#[48]⟩,aB aC (3-(p:Int))] W (aH (aD ⟨(cX (3-p) (48:UInt8)).toArray⟩) W)from by
       have:=C3 (3-p) W om;rwa[show((3-p:Nat):Int)=3-(p:Int) by omega]at this)
      obtain⟨ZR,hZR⟩: ∃Z:ByteArray,⟨(cX (3-p) (48:UInt8)).toArray⟩=Z:=⟨_,rfl⟩;have hZs:ZR.size<=3:=by rw[<-hZR];show(cX (3-p) (48:UInt8)).length<=3;rw[List.length_replicate];omega
      have hFs:F.size<=9:=by rw[<-cU,HFd.out,aZ,HW1.out,HW2.out];omega
      obtain⟨m,hmv⟩: ∃m,gX ((s.drop t).take wn++(v.drop 1).take p++cX (3-p) 48)=m:=⟨_,rfl⟩;have hdig:((s.drop t).take wn++(v.drop 1).take p++cX (3-p) (48:UInt8)).all aQ=true:=by
       rw[List.all_append,List.all_append,hal1,hal2];simp only[Bool.and_self,Bool.true_and,dO];intro c hc;rw[List.eq_of_mem_replicate hc];decide
      have hdl:((s.drop t).take wn++(v.drop 1).take p++cX (3-p) (48:UInt8)).length<=9:=by
       rw[aZ,aZ,HW1.out,HW2.out,List.length_replicate];omega
      have hm9:=IN _ hdig hdl;have HNu:=aA (λW=>show Calls aE 92 #[aD (F++ZR),aB aC 10,aB aC 1099511627776] W (aH (aN #[aB aC (m:Nat),aI true]) W)from by
       have h0:(s.drop t).take wn++(v.drop 1).take p++cX (3-p) (48:UInt8)≠[]:=by
        intro h;rw[qv,qv]at h;exact HNo.out h.1
       have:=Eu _ W h0 hdig hdl;rw[hmv]at this;rw[show F++ZR=⟨((s.drop t).take wn++(v.drop 1).take p++cX (3-p) (48:UInt8)).toArray⟩from yB (by rw[ByteArray.data_append,Array.toList_append,HFd.out,<-hZR])];exact this)
      rw[hmv]at hm9 HC;rw[hZR]at HZr;have HLo:=aA (λW=>show Calls aE 125 #[aD (S.extract te (te+un))] W (aH (aD ⟨(bO (r.take un)).toArray⟩) W)from by
       have:=ME (S.extract te (te+un)) W (by rw[<-cU,xB];show((S.data.toList.take _).drop _).length<=_;rw[bL,bZ];omega);rw[show(S.extract te (te+un)).data.toList=r.take un from by rw[xB,HD.out,<-HRr.out];show(s.take _).drop _=_;rw[List.drop_take];congr 1;omega]at this;exact this)
      have hpos:0<S.size:=by rw[HL.out];exact List.length_pos_iff.2 hne
      have HNg:Hid (hd (λc=>decide (c.toNat=45)) s=decide (S[0].toNat=45)):=by
       show _=_;rw[wQ S s HD.out 0 hpos];cases s with
       |nil=>exact absurd rfl hne
       |cons c s'=>rfl
      rw[HNg.out]at HC;clear hmv hdig hdl hZR hal1 hal2;by_cases hn:S[0].toNat=45
      .have b45:((S[0].toNat:Int)==45)=true:=by simp[hn]
       rw[decide_eq_true hn,if_pos rfl]at HC;clear hn;go_wp2_with(first|(go_at_call 262;(with_reducible refine zF (HZr.out _) λX2=>?_))|(go_at_call 92;(with_reducible refine zF (HNu.out _) λX3=>?_))|(go_at_call 125;(with_reducible refine zF (HLo.out _) λX4=>?_)))
       ((try simp only[Exit.inBlock,Exit.then]);refine bodyPost_ret (v:= aN #[aR #[aB aC 3,aD ⟨#[]⟩,aB aC (-(m:Int)),aD ⟨(bO (r.take un)).toArray⟩],aB aC ((te:Int)+un)]) (by(first|rw[results_cell_tmp rfl]|rw[fB rfl]);go_simp) rfl ?_);exact aH.of (by rw[HV.out,HC.out];simp[aK.agg,sv]) aG
      .have b45:((S[0].toNat:Int)==45)=false:=by simp;omega
       rw[decide_eq_false hn,if_neg (by simp)]at HC;clear hn;go_wp2_with(first|(go_at_call 262;(with_reducible refine zF (HZr.out _) λX2=>?_))|(go_at_call 92;(with_reducible refine zF (HNu.out _) λX3=>?_))|(go_at_call 125;(with_reducible refine zF (HLo.out _) λX4=>?_)))
       ((try simp only[Exit.inBlock,Exit.then]);refine bodyPost_ret (v:= aN #[aR #[aB aC 3,aD ⟨#[]⟩,aB aC (m:Int),aD ⟨(bO (r.take un)).toArray⟩],aB aC ((te:Int)+un)]) (by(first|rw[results_cell_tmp rfl]|rw[fB rfl]);go_simp) rfl ?_);exact aH.of (by rw[HV.out,HC.out];simp[aK.agg,sv]) aG
