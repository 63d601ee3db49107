import Derived.Test.YtccjfanpjojbnaaGreatDoorJCssF
namespace Go.Proofs.YtccjfanpjojbnaaGreatDoor
open Bool renaming false_eq_true→gW
open Go.Ending renaming returned→aL
open Go.IntKind renaming i64→aC
open Lib renaming hid→aA,indexByte→eE
open List renaming drop_succ_cons→qP,drop_zero→fJ,take_succ_cons→jg
open Tryz renaming func230→Xz,func247→Yo,ntmps230→Xr,ntmps247→Ye,prog→aE
open Go.Value renaming agg→aR,int→aB,string→aD,tuple→aN
set_option maxRecDepth 100000
set_option maxHeartbeats 6400000
open Go.RowKit Go.Shelf
def kR (s:Bs):aK × Nat:=match gS s with
 |some x=>x
 |none=>(kM,0)
theorem Bp (s:Bs) (w:World) (hm:s.length<=1000000000) (hne:s≠[]):Calls aE 247 #[aD ⟨s.toArray⟩] w (aH (aN #[aK.agg (kR s).1,aB aC (kR s).2]) w):=by
 obtain⟨c,r,hcs⟩: ∃c r,s=c::r:=by
  cases s with
  |nil=>exact absurd rfl hne
  |cons c r=>exact⟨c,r,rfl⟩
 obtain⟨S,hS⟩: ∃S:ByteArray,⟨s.toArray⟩=S:=⟨_,rfl⟩;have hd0:S.data.toList=s:=by rw[<-hS]
 have hsz:S.size=r.length+1:=by rw[<-hS];show s.length=_;rw[hcs];rfl
 have hpos:0<S.size:=by omega
 have hSm:S.size<=1000000000:=by rw[hsz];rw[hcs]at hm;simpa using hm
 have hc0:S[0]=c:=by rw[wQ S s hd0 0 hpos];simp[hcs]
 obtain⟨k,hk⟩: ∃k,aX gG r=k:=⟨_,rfl⟩;have hkl:=lI gG r;rw[hk]at hkl;have hkS:k<=S.size:=by omega
 have HQ0:Hid (oP c=true->(S.size<=1+k->kR s=(kM,0))/\(∀h:1+k<S.size,(S[1+k]=S[0]->kR s=(⟨5,r.take k,0,[]⟩,k+2))/\(S[1+k]≠S[0]->kR s=(kM,0)))):=λhq=>by
  subst hcs;refine⟨λh=> ?_,λh=> ?_⟩
  .have:hd (λd=>decide (d=c)) (r.drop k)=false:=by rw[List.drop_eq_nil_of_le om];rfl
   simp[kR,gS,hk,this]
  .have hkr:k<r.length:=by omega
   have hat:S[1+k]=r[k]:=by rw[wQ S _ hd0 _ h];simp[Nat.add_comm 1 k]
   have:hd (λd=>decide (d=c)) (r.drop k)=decide (S[1+k]=S[0]):=by rw[List.drop_eq_getElem_cons hkr,hat,hc0];rfl
   refine⟨λhe=> ?_,λhe=> ?_⟩
   .simp only[kR,gS,hk,this,hq,he,decide_true,Bool.and_self,if_true]
   .simp only[kR,gS,hk,this,hq,decide_eq_false he,Bool.and_false,gW,if_false]
 rw[hS];clear hS hm hne;by_cases h34:c.toNat=34
 .have b34:((S[0].toNat:Int) !=34)=false:=by rw[hc0];simp[h34]
  have QT:oP c=true:=by simp[oP,h34]
  clear h34 hc0
  .have HR:=aA (λW=>show Calls aE 248 #[aD S,aB aC 1,.func (.func 263) #[] #[]] W λe w'=>e=aL (aB aC k)/\W=w' from by
    have:=xG S 1 _ _ W TO hpos om;rw[hd0,hcs,qP,fJ,hk]at this;exact this)
   have HQ:=HQ0.out QT;by_cases hge:S.size<=1+k
   .have hge2:decide ((S.size:Int)<=1+(k:Int))=true:=by simp;omega
    have HN:Hid (kR s=(kM,0)):=HQ.1 hge;clear HQ hk hd0 hsz hcs;go_enter Yo,Ye;go_wp2_with(go_at_call 248;(with_reducible refine zQ (HR.out _) ?_))
    refine dV kr kr  ?_;repeat(go_big_quiet_step(fail))
    refine wpQuiet_nil ?_;rintro _ ⟨nq,rfl⟩;go_wp2
    ((try simp only[Exit.inBlock,Exit.then]);refine bodyPost_ret (v:= aN #[aR #[aB aC 0,aD ⟨#[]⟩,aB aC 0,aD ⟨#[]⟩],aB aC 0]) (by(first|rw[results_cell_tmp rfl]|rw[fB rfl]);go_simp) rfl ?_);exact aH.of (by rw[HN.out];rfl) aG
   .have hlt:1+k<S.size:=by omega
    have hge2:decide ((S.size:Int)<=1+(k:Int))=false:=by simp;omega
    have hz0:(0:Int)<=1+(k:Int):=by omega
    have hz1:(1+(k:Int)).toNat=1+k:=by omega
    have hz2:1+(k:Int)<(S.size:Int):=by omega
    by_cases hq:S[1+k]=S[0]
    .have HN:Hid (kR s=(⟨5,r.take k,0,[]⟩,k+2)):=(HQ.2 hlt).1 hq;have bq:((S[1+k].toNat:Int) !=(S[0].toNat:Int))=false:=by simp[hq]
     have he1:S.extract 1 (1+k)=⟨(r.take k).toArray⟩:=by rw[xB,hd0,hcs];congr 2;show((c::r).take _).drop 1=_;rw[Nat.add_comm,jg];rfl
     clear HQ hk hd0 hsz hcs hq;go_enter Yo,Ye;go_wp2_with(go_at_call 248;(with_reducible refine zQ (HR.out _) ?_))
     refine dV kr kr  ?_;repeat(go_big_quiet_step(fail))
     refine wpQuiet_nil ?_;rintro _ ⟨nq,rfl⟩;go_wp2
     ((try simp only[Exit.inBlock,Exit.then]);refine bodyPost_ret (v:= aN #[aR #[aB aC 5,aD ⟨(r.take k).toArray⟩,aB aC 0,aD ⟨#[]⟩],aB aC (1+(k:Int)+1)]) (by(first|rw[results_cell_tmp rfl]|rw[fB rfl]);go_simp) rfl ?_);exact aH.of (by rw[HN.out];simp[aK.agg,sv];omega) aG
    .have HN:Hid (kR s=(kM,0)):=(HQ.2 hlt).2 hq;have bq:((S[1+k].toNat:Int) !=(S[0].toNat:Int))=true:=by
      simp only[bne_iff_ne,ne_eq];intro h;exact hq (UInt8.toNat_inj.1 om)
     clear HQ hk hd0 hsz hcs hq;go_enter Yo,Ye;go_wp2_with(go_at_call 248;(with_reducible refine zQ (HR.out _) ?_))
     refine dV kr kr  ?_;repeat(go_big_quiet_step(fail))
     refine wpQuiet_nil ?_;rintro _ ⟨nq,rfl⟩;go_wp2
     ((try simp only[Exit.inBlock,Exit.then]);refine bodyPost_ret (v:= aN #[aR #[aB aC 0,aD ⟨#[]⟩,aB aC 0,aD ⟨#[]⟩],aB aC 0]) (by(first|rw[results_cell_tmp rfl]|rw[fB rfl]);go_simp) rfl ?_);exact aH.of (by rw[HN.out];rfl) aG
 .have b34:((S[0].toNat:Int) !=34)=true:=by rw[hc0];simp;omega
  by_cases h39:c.toNat=39
  .have b39:((S[0].toNat:Int) !=39)=false:=by rw[hc0];simp[h39]
   have QT:oP c=true:=by simp[oP,h39]
   clear h34 h39 hc0
   .have HR:=aA (λW=>show Calls aE 248 #[aD S,aB aC 1,.func (.func 263) #[] #[]] W λe w'=>e=aL (aB aC k)/\W=w' from by
     have:=xG S 1 _ _ W TO hpos om;rw[hd0,hcs,qP,fJ,hk]at this;exact this)
    have HQ:=HQ0.out QT;by_cases hge:S.size<=1+k
    .have hge2:decide ((S.size:Int)<=1+(k:Int))=true:=by simp;omega
     have HN:Hid (kR s=(kM,0)):=HQ.1 hge;clear HQ hk hd0 hsz hcs;go_enter Yo,Ye;go_wp2_with(go_at_call 248;(with_reducible refine zQ (HR.out _) ?_))
     refine dV kr kr  ?_;repeat(go_big_quiet_step(fail))
     refine wpQuiet_nil ?_;rintro _ ⟨nq,rfl⟩;go_wp2
     ((try simp only[Exit.inBlock,Exit.then]);refine bodyPost_ret (v:= aN #[aR #[aB aC 0,aD ⟨#[]⟩,aB aC 0,aD ⟨#[]⟩],aB aC 0]) (by(first|rw[results_cell_tmp rfl]|rw[fB rfl]);go_simp) rfl ?_);exact aH.of (by rw[HN.out];rfl) aG
    .have hlt:1+k<S.size:=by omega
     have hge2:decide ((S.size:Int)<=1+(k:Int))=false:=by simp;omega
     have hz0:(0:Int)<=1+(k:Int):=by omega
     have hz1:(1+(k:Int)).toNat=1+k:=by omega
     have hz2:1+(k:Int)<(S.size:Int):=by omega
     by_cases hq:S[1+k]=S[0]
     .have HN:Hid (kR s=(⟨5,r.take k,0,[]⟩,k+2)):=(HQ.2 hlt).1 hq;have bq:((S[1+k].toNat:Int) !=(S[0].toNat:Int))=false:=by simp[hq]
      have he1:S.extract 1 (1+k)=⟨(r.take k).toArray⟩:=by rw[xB,hd0,hcs];congr 2;show((c::r).take _).drop 1=_;rw[Nat.add_comm,jg];rfl
      clear HQ hk hd0 hsz hcs hq;go_enter Yo,Ye;go_wp2_with(go_at_call 248;(with_reducible refine zQ (HR.out _) ?_))
      refine dV kr kr  ?_;repeat(go_big_quiet_step(fail))
      refine wpQuiet_nil ?_;rintro _ ⟨nq,rfl⟩;go_wp2
      ((try simp only[Exit.inBlock,Exit.then]);refine bodyPost_ret (v:= aN #[aR #[aB aC 5,aD ⟨(r.take k).toArray⟩,aB aC 0,aD ⟨#[]⟩],aB aC (1+(k:Int)+1)]) (by(first|rw[results_cell_tmp rfl]|rw[fB rfl]);go_simp) rfl ?_);exact aH.of (by rw[HN.out];simp[aK.agg,sv];omega) aG
     .have HN:Hid (kR s=(kM,0)):=(HQ.2 hlt).2 hq;have bq:((S[1+k].toNat:Int) !=(S[0].toNat:Int))=true:=by
       simp only[bne_iff_ne,ne_eq];intro h;exact hq (UInt8.toNat_inj.1 om)
      clear HQ hk hd0 hsz hcs hq;go_enter Yo,Ye;go_wp2_with(go_at_call 248;(with_reducible refine zQ (HR.out _) ?_))
      refine dV kr kr  ?_;repeat(go_big_quiet_step(fail))
      refine wpQuiet_nil ?_;rintro _ ⟨nq,rfl⟩;go_wp2
      ((try simp only[Exit.inBlock,Exit.then]);refine bodyPost_ret (v:= aN #[aR #[aB aC 0,aD ⟨#[]⟩,aB aC 0,aD ⟨#[]⟩],aB aC 0]) (by(first|rw[results_cell_tmp rfl]|rw[fB rfl]);go_simp) rfl ?_);exact aH.of (by rw[HN.out];rfl) aG
  .have b39:((S[0].toNat:Int) !=39)=true:=by rw[hc0];simp;omega
   have HN:Hid (kR s=(kM,0)):=by show _=_;rw[hcs];simp[kR,gS,oP,h34,h39]
   clear h34 h39 hc0 hk hd0 hsz hcs;go_enter Yo,Ye;go_wp2_with fail
   ((try simp only[Exit.inBlock,Exit.then]);refine bodyPost_ret (v:= aN #[aR #[aB aC 0,aD ⟨#[]⟩,aB aC 0,aD ⟨#[]⟩],aB aC 0]) (by(first|rw[results_cell_tmp rfl]|rw[fB rfl]);go_simp) rfl ?_);exact aH.of (by rw[HN.out];rfl) aG
def uL:ByteArray:=⟨#[58,59,44,40,41,47,33,42,43,46,62,61,45]⟩
theorem Hs (c:UInt8):decide ((0:Int)<=eE uL.data.toList c)=rF c:=by
 have h: ∀n:Fin 256,decide ((0:Int)<=eE uL.data.toList (UInt8.ofNat n.val))=rF (UInt8.ofNat n.val):=by decide+kernel
 have:=h ⟨c.toNat,c.toNat_lt⟩;simpa using this
theorem Jt (c:UInt8) (W:World):Calls aE 148 #[aD ⟨#[58,59,44,40,41,47,33,42,43,46,62,61,45]⟩,.int .u8 c.toNat] W λe w'=>e=aL (aB aC (eE uL.data.toList c))/\w'=W:=by
 have:=Tryz.strings_IndexByte uL (c.toNat:Int) W;rw[show((c.toNat:Int).toNat.toUInt8)=c by simp]at this;exact this
def VY:Bs->aK × Nat
 |[]=>(iT,1)
 |c::r=>if c.toNat=35/\0<aX bI r then(mH 4 (r.take (aX bI r)),aX bI r+1)else if rF c then(⟨6,[c],0,[]⟩,1)else(iT,1)
theorem Db (s:Bs):cJ s=if dW s then lY s
  else match gH s with
  |some x=>x
  |none=>match gS s with
   |some x=>x
   |none=>VY s:=by
 unfold cJ VY;rfl
theorem De (s:Bs) (w:World) (hm:s.length<=1000000000) (hne:s≠[]):Calls aE 230 #[aD ⟨s.toArray⟩] w (aH (aN #[aK.agg (cJ s).1,aB aC (cJ s).2]) w):=by
 obtain⟨S,hS⟩: ∃S:ByteArray,⟨s.toArray⟩=S:=⟨_,rfl⟩;have hd0:S.data.toList=s:=by rw[<-hS]
 have hsz:S.size=s.length:=by rw[<-hS];rfl
 have hpos:0<S.size:=by rw[hsz];exact List.length_pos_iff.2 hne
 have hSm:S.size<=1000000000:=by omega
 have HN:=aA (λW=>Ge s W om);have HM:=aA (λW=>Et s W hm hne);have HQ:=aA (λW=>Bp s W hm hne);have HP:=aA (Db s);rw[hS]at HN HM HQ ⊢;have hk:=zJ hne (x:=(cJ s).1) (n:=(cJ s).2) rfl;cases hn:dW s
 .have e1:xN s=(kM,0):=by unfold xN;rw[hn];rfl
  rw[e1]at HN;simp only[aK.agg,kM,sv]at HN;rw[hn]at HP;simp only[gW,if_false]at HP;cases hq:gH s with
  |some y=>
   have e2:uI s=y:=by unfold uI;rw[hq]
   rw[hq]at HP;have HP2:Hid (cJ s=y):=HP.out;rw[HP2.out]at hk;rw[e2]at HM;obtain⟨y,n⟩:=y;have hn1:0<n:=by omega
   have HN2:=aA HN.out;have HM2:=aA HM.out;simp only[aK.agg,sv]at HM2;clear HP HN HM HQ hk e1 e2 hq hn hS hd0;go_enter Xz,Xr;go_wp2_with(first|(go_at_call 245;(with_reducible refine zG (HN2.out _) λX1=>?_))|(go_at_call 246;(with_reducible refine zG (aH.flatA (HM2.out _)) λX2=>?_)))
   ((try simp only[Exit.inBlock,Exit.then]);refine bodyPost_ret (v:= aN #[aR #[aB aC y.kind,aD ⟨y.text.toArray⟩,aB aC y.num,aD ⟨y.unit.toArray⟩],aB aC (n:Int)]) (by(first|rw[results_cell_tmp rfl]|rw[fB rfl]);go_simp) rfl ?_);exact aH.of (by rw[HP2.out];rfl) aG
  |none=>
   have e2:uI s=(kM,0):=by unfold uI;rw[hq]
   rw[e2]at HM;simp only[aK.agg,kM,sv]at HM;rw[hq]at HP;simp only at HP;cases hu:gS s with
   |some y=>
    have e3:kR s=y:=by unfold kR;rw[hu]
    rw[hu]at HP;have HP2:Hid (cJ s=y):=HP.out;rw[HP2.out]at hk;rw[e3]at HQ;obtain⟨y,n⟩:=y;have hn1:0<n:=by omega
    have HN2:=aA HN.out;have HM2:=aA HM.out;have HQ2:=aA HQ.out;simp only[aK.agg,sv]at HQ2;clear HP HN HM HQ hk e1 e2 e3 hq hu hn hS hd0;go_enter Xz,Xr;go_wp2_with(first|(go_at_call 245;(with_reducible refine zG (HN2.out _) λX1=>?_))|(go_at_call 246;(with_reducible refine zG (aH.flatA (HM2.out _)) λX2=>?_))|(go_at_call 247;(with_reducible refine zG (aH.flatA (HQ2.out _)) λX3=>?_)))
    ((try simp only[Exit.inBlock,Exit.then]);refine bodyPost_ret (v:= aN #[aR #[aB aC y.kind,aD ⟨y.text.toArray⟩,aB aC y.num,aD ⟨y.unit.toArray⟩],aB aC (n:Int)]) (by(first|rw[results_cell_tmp rfl]|rw[fB rfl]);go_simp) rfl ?_);exact aH.of (by rw[HP2.out];rfl) aG
   |none=>
    have e3:kR s=(kM,0):=by unfold kR;rw[hu]
    rw[e3]at HQ;simp only[aK.agg,kM,sv]at HQ;rw[hu]at HP;simp only at HP;obtain⟨c,r,hcs⟩: ∃c r,s=c::r:=by
     cases s with
     |nil=>exact absurd rfl hne
     |cons c r=>exact⟨c,r,rfl⟩
    have hc0:S[0]=c:=by rw[wQ S s hd0 0 hpos];simp[hcs]
    obtain⟨k,hk2⟩: ∃k,aX bI r=k:=⟨_,rfl⟩;have hkl:=lI bI r;rw[hk2]at hkl;have hrl:S.size=r.length+1:=by rw[hsz,hcs];rfl
    have hkS:k+1<=S.size:=by omega
    have HP2:Hid (cJ s=if c.toNat=35/\0<k then(mH 4 (r.take k),k+1)else if rF c then(⟨6,[c],0,[]⟩,1)else(iT,1)):=by
     have:=HP.out;rw[<-hk2,this,hcs];rfl
    have HR:=aA (λW=>show Calls aE 248 #[aD S,aB aC 1,.func (.func 249) #[] #[]] W λe w'=>e=aL (aB aC k)/\W=w' from by
     have:=xG S 1 _ _ W NA hpos om;rw[hd0,hcs,qP,fJ,hk2]at this;exact this)
    have he1:S.extract 1 (k+1)=⟨(r.take k).toArray⟩:=by rw[xB,hd0,hcs];congr 2
    have he2:S.extract 0 1=⟨([c]:Bs).toArray⟩:=by rw[RG,hd0,hcs];rfl
    have HNm:=aA (λW=>VC 4 (r.take k) W om om  (by rw[List.length_take];omega));have HI:=aA (λW=>show Calls aE 148 #[aD ⟨#[58,59,44,40,41,47,33,42,43,46,62,61,45]⟩,.int .u8 S[0].toNat] W λe w'=>e=aL (aB aC (eE uL.data.toList c))/\w'=W from by rw[hc0];exact Jt c W);have HI2:=aA (Hs c);have HBd:=aA (λW=>NW W);simp only[aK.agg,sv]at HNm;simp only[aK.agg,iT,sv]at HBd;have HN2:=aA HN.out;have HM2:=aA HM.out;have HQ2:=aA HQ.out;generalize(⟨(r.take k).toArray⟩:ByteArray)=G at*;by_cases h35:c.toNat=35
    .have b35:((S[0].toNat:Int)==35)=true:=by rw[hc0];simp[h35]
     by_cases hk0:0<k
     .have bk:decide ((0:Int)<(k:Int))=true:=by simp;omega
      have hx1:((k:Int)+1).toNat=k+1:=by omega
      rw[if_pos ⟨h35,hk0⟩]at HP2;clear HP HN HM HQ hk e1 e2 e3 hq hu hn hS hd0 hcs hc0 hk2 hrl hkl hsz h35;go_enter Xz,Xr;go_wp2_with(first|(go_at_call 245;(with_reducible refine zG (HN2.out _) λX1=>?_))|(go_at_call 246;(with_reducible refine zG (aH.flatA (HM2.out _)) λX2=>?_))|(go_at_call 247;(with_reducible refine zG (aH.flatA (HQ2.out _)) λX3=>?_))|(go_at_call 248;(with_reducible refine zQ (HR.out _) ?_))|(go_at_call 250;(with_reducible refine zG (aH.flatA (HNm.out _)) λX4=>?_)))
      ((try simp only[Exit.inBlock,Exit.then]);refine bodyPost_ret (v:= aN #[aR #[aB aC (mH 4 (r.take k)).kind,aD ⟨(mH 4 (r.take k)).text.toArray⟩,aB aC (mH 4 (r.take k)).num,aD ⟨(mH 4 (r.take k)).unit.toArray⟩],aB aC ((k:Int)+1)]) (by(first|rw[results_cell_tmp rfl]|rw[fB rfl]);go_simp) rfl ?_);exact aH.of (by rw[HP2.out];rfl) aG
     .have hk00:k=0:=by omega
      subst hk00;rw[if_neg om]at HP2;clear hk0;cases hmk:rF c
      .rw[hmk]at HI2 HP2;have bm:=HI2.out;clear HP HN HM HQ hk e1 e2 e3 hq hu hn hS hd0 hcs hc0 hk2 hrl hkl hsz h35 hmk;generalize eE uL.data.toList c=ix at*;go_enter Xz,Xr;go_wp2_with(first|(go_at_call 245;(with_reducible refine zG (HN2.out _) λX1=>?_))|(go_at_call 246;(with_reducible refine zG (aH.flatA (HM2.out _)) λX2=>?_))|(go_at_call 247;(with_reducible refine zG (aH.flatA (HQ2.out _)) λX3=>?_))|(go_at_call 248;(with_reducible refine zQ (HR.out _) ?_))|(go_at_call 148;(with_reducible refine zQ (HI.out _) ?_))|(go_at_call 251;(with_reducible refine zG (aH.flatA (HBd.out _)) λX4=>?_)))
       ((try simp only[Exit.inBlock,Exit.then]);refine bodyPost_ret (v:= aN #[aR #[aB aC 7,aD ⟨#[]⟩,aB aC 0,aD ⟨#[]⟩],aB aC 1]) (by(first|rw[results_cell_tmp rfl]|rw[fB rfl]);go_simp) rfl ?_);exact aH.of (by rw[HP2.out];rfl) aG
      .rw[hmk]at HI2 HP2;have bm:=HI2.out;clear HP HN HM HQ hk e1 e2 e3 hq hu hn hS hd0 hcs hc0 hk2 hrl hkl hsz h35 hmk;generalize eE uL.data.toList c=ix at*;go_enter Xz,Xr;go_wp2_with(first|(go_at_call 245;(with_reducible refine zG (HN2.out _) λX1=>?_))|(go_at_call 246;(with_reducible refine zG (aH.flatA (HM2.out _)) λX2=>?_))|(go_at_call 247;(with_reducible refine zG (aH.flatA (HQ2.out _)) λX3=>?_))|(go_at_call 248;(with_reducible refine zQ (HR.out _) ?_))|(go_at_call 148;(with_reducible refine zQ (HI.out _) ?_))|(go_at_call 251;(with_reducible refine zG (aH.flatA (HBd.out _)) λX4=>?_)))
       ((try simp only[Exit.inBlock,Exit.then]);refine bodyPost_ret (v:= aN #[aR #[aB aC 6,aD ⟨([c]:Bs).toArray⟩,aB aC 0,aD ⟨#[]⟩],aB aC 1]) (by(first|rw[results_cell_tmp rfl]|rw[fB rfl]);go_simp) rfl ?_);exact aH.of (by rw[HP2.out];rfl) aG
    .have b35:((S[0].toNat:Int)==35)=false:=by rw[hc0];simp;omega
     rw[if_neg om]at HP2;cases hmk:rF c
     .rw[hmk]at HI2 HP2;have bm:=HI2.out;clear HP HN HM HQ hk e1 e2 e3 hq hu hn hS hd0 hcs hc0 hk2 hrl hkl hsz h35 hmk;generalize eE uL.data.toList c=ix at*;go_enter Xz,Xr;go_wp2_with(first|(go_at_call 245;(with_reducible refine zG (HN2.out _) λX1=>?_))|(go_at_call 246;(with_reducible refine zG (aH.flatA (HM2.out _)) λX2=>?_))|(go_at_call 247;(with_reducible refine zG (aH.flatA (HQ2.out _)) λX3=>?_))|(go_at_call 248;(with_reducible refine zQ (HR.out _) ?_))|(go_at_call 148;(with_reducible refine zQ (HI.out _) ?_))|(go_at_call 251;(with_reducible refine zG (aH.flatA (HBd.out _)) λX4=>?_)))
      ((try simp only[Exit.inBlock,Exit.then]);refine bodyPost_ret (v:= aN #[aR #[aB aC 7,aD ⟨#[]⟩,aB aC 0,aD ⟨#[]⟩],aB aC 1]) (by(first|rw[results_cell_tmp rfl]|rw[fB rfl]);go_simp) rfl ?_);exact aH.of (by rw[HP2.out];rfl) aG
     .rw[hmk]at HI2 HP2;have bm:=HI2.out;clear HP HN HM HQ hk e1 e2 e3 hq hu hn hS hd0 hcs hc0 hk2 hrl hkl hsz h35 hmk;generalize eE uL.data.toList c=ix at*;go_enter Xz,Xr;go_wp2_with(first|(go_at_call 245;(with_reducible refine zG (HN2.out _) λX1=>?_))|(go_at_call 246;(with_reducible refine zG (aH.flatA (HM2.out _)) λX2=>?_))|(go_at_call 247;(with_reducible refine zG (aH.flatA (HQ2.out _)) λX3=>?_))|(go_at_call 248;(with_reducible refine zQ (HR.out _) ?_))|(go_at_call 148;(with_reducible refine zQ (HI.out _) ?_))|(go_at_call 251;(with_reducible refine zG (aH.flatA (HBd.out _)) λX4=>?_)))
      ((try simp only[Exit.inBlock,Exit.then]);refine bodyPost_ret (v:= aN #[aR #[aB aC 6,aD ⟨([c]:Bs).toArray⟩,aB aC 0,aD ⟨#[]⟩],aB aC 1]) (by(first|rw[results_cell_tmp rfl]|rw[fB rfl]);go_simp) rfl ?_);exact aH.of (by rw[HP2.out];rfl) aG
 .have e1:xN s=lY s:=by unfold xN;rw[hn];rfl
  rw[hn]at HP;have HP2:Hid (cJ s=lY s):=HP.out;rw[HP2.out]at hk;rw[e1]at HN;generalize lY s=y at*;obtain⟨y,n⟩:=y;have hn1:0<n:=by omega
  have HN2:=aA HN.out;simp only[aK.agg,sv]at HN2;clear HP HN HM HQ hk e1 hn hS hd0;go_enter Xz,Xr;go_wp2_with(go_at_call 245;(with_reducible refine zG (HN2.out _) λX1=>?_))
  ((try simp only[Exit.inBlock,Exit.then]);refine bodyPost_ret (v:= aN #[aR #[aB aC y.kind,aD ⟨y.text.toArray⟩,aB aC y.num,aD ⟨y.unit.toArray⟩],aB aC (n:Int)]) (by(first|rw[results_cell_tmp rfl]|rw[fB rfl]);go_simp) rfl ?_);exact aH.of (by rw[HP2.out];rfl) aG
