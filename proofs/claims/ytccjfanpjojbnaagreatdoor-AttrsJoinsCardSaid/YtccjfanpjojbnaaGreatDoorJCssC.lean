import Derived.Test.YtccjfanpjojbnaaGreatDoorJDecPlain
namespace Go.Proofs.YtccjfanpjojbnaaGreatDoor
open Bool renaming eq_iff_iff→bK
open Go.Ending renaming returned→aL
open Go.IntKind renaming i64→aC
open Lib renaming hid→aA
open List renaming extract_eq_take_drop→Xl
open Tryz renaming func245→qu,ntmps245→qd,prog→aE
open Go.Value renaming agg→aR,bool→aI,int→aB,string→aD,tuple→aN
set_option maxRecDepth 100000
set_option maxHeartbeats 3200000
open Go.RowKit Go.Shelf
theorem Ik (c:UInt8):oF (bits .or .u8 c.toNat 32) 97 122=kU c:=by
 have h: ∀n:Fin 256,oF (bits .or .u8 ((n.val:Nat):Int) 32) 97 122=(decide (65<=n.val/\n.val<=90)||decide (97<=n.val/\n.val<=122)):=by decide+kernel
 exact h ⟨c.toNat,c.toNat_lt⟩
theorem VQ (c:UInt8) (w:World):Calls aE 124 #[.int .u8 c.toNat] w λe w'=>e=aL (aI (kU c))/\w=w':=by
 go_enter Tryz.func124,Tryz.ntmps124;go_wp2_with(go_at_call 107;refine(vB _ _ _ _).mono ?_;rintro e w' ⟨rfl,rfl⟩)
 all_goals go_ret
 all_goals exact⟨mS (Ik c),rfl⟩
theorem NV (c:UInt8) (w:World):Calls aE 260 #[.int .u8 c.toNat] w λe w'=>e=aL (aI (jD c))/\w=w':=by
 have HB:Hid (jD c=(kU c||decide (c.toNat=95))):=rfl;cases hl:kU c;all_goals
  have HL:Hid (∀W,Calls aE 124 #[.int .u8 c.toNat] W λe w'=>e=aL (aI _)/\W=w'):=λW=>hl ▸ VQ c W;go_enter Tryz.func260,Tryz.ntmps260;go_wp2_with(go_at_call 124;(with_reducible refine zQ (HL.out _) ?_))
  all_goals go_ret
  all_goals exact⟨mS (by rw[HB.out,hl];first|rfl|(rw[bK];simp<;>omega)),rfl⟩
theorem Ku (c:UInt8) (w:World):Calls aE 249 #[.int .u8 c.toNat] w λe w'=>e=aL (aI (bI c))/\w=w':=by
 have HB:Hid (bI c=(jD c||aQ c||decide (c.toNat=45))):=rfl;cases hl:jD c<;>cases hd0:aQ c;all_goals
  have HL:Hid (∀W,Calls aE 260 #[.int .u8 c.toNat] W λe w'=>e=aL (aI _)/\W=w'):=λW=>hl ▸ NV c W;have HD:Hid (∀W,Calls aE 109 #[.int .u8 c.toNat] W λe w'=>e=aL (aI _)/\W=w'):=λW=>hd0 ▸ qD c W;go_enter Tryz.func249,Tryz.ntmps249;go_wp2_with(first|(go_at_call 260;(with_reducible refine zQ (HL.out _) ?_))|(go_at_call 109;(with_reducible refine zQ (HD.out _) ?_)))
  all_goals go_ret
  all_goals exact⟨mS (by rw[HB.out,hl,hd0];first|rfl|(rw[bK];simp<;>omega)),rfl⟩
theorem Ck (c:UInt8) (w:World):Calls aE 263 #[.int .u8 c.toNat] w λe w'=>e=aL (aI (gG c))/\w=w':=by
 go_enter Tryz.func263,Tryz.ntmps263;go_wp2
 all_goals go_ret
 all_goals exact⟨mS (by rw[bK];simp[gG]at*;try omega),rfl⟩
theorem NA:pB 249 bI:=⟨enters_of Tryz.func249 kr rfl,Ku⟩
theorem TO:pB 263 gG:=⟨enters_of Tryz.func263 kr rfl,Ck⟩
theorem K4 {p:UInt8->Bool} {c:UInt8} (r:Bs) (h:p c=true):aX p (c::r)=aX p r+1:=by simp[aX,h]
theorem K5 {p:UInt8->Bool} {c:UInt8} (r:Bs) (h:p c=false):aX p (c::r)=0:=by simp[aX,h]
theorem xG (s:ByteArray) (at_:Nat) (g:Nat) (p:UInt8->Bool) (w:World) (hp:pB g p) (ha:at_<=s.size) (hm:s.size<=140737488355328):
  Calls aE 248 #[aD s,aB aC at_,.func (.func g) #[] #[]] w λe w'=>e=aL (aB aC (aX p (s.data.toList.drop at_)))/\w=w':=by
 obtain⟨eg,hp⟩:=hp;have hp:=aA hp;obtain⟨T,hT⟩: ∃T,aX p (s.data.toList.drop at_)=T:=⟨_,rfl⟩;have HT:=aA hT;rw[hT];clear hT;go_enter Tryz.func248,Tryz.ntmps248;go_wp2_with fail
 go_loop [7] (λi=> ∃k:Nat,at_+k<=s.size/\i=aB aC k/\Hid (T=k+aX p (s.data.toList.drop (at_+k)))) (λi=>s.size-(intOf i).toNat)
 case atStart=>exact⟨0,by omega,rfl,by show _=_;rw[<-HT.out];simp⟩
 case round=>
  obtain⟨k,hk,rfl,HK⟩:=hrel;by_cases hlt:at_+k<s.size
  .have HD:Hid (s.data.toList.drop (at_+k)=s[at_+k]::s.data.toList.drop (at_+k+1)):=oB s _ hlt;have hix:((at_:Int)+k).toNat=at_+k:=by omega
   cases hpc:p s[at_+k]
   .have HN:Hid (T=k):=by show _=_;rw[HK.out,HD.out,K5 _ hpc];omega
    go_wp2_with((with_reducible refine(hp.out s[at_+k] _).mono ?_);rintro e w' ⟨rfl,rfl⟩;rw[hpc])
    go_ret;exact⟨sC (by rw[HN.out]),rfl⟩
   .have HN:Hid (T=k+1+aX p (s.data.toList.drop (at_+(k+1)))):=by show _=_;rw[HK.out,HD.out,K4 _ hpc,Nat.add_assoc at_ k 1];omega
    go_wp2_with((with_reducible refine(hp.out s[at_+k] _).mono ?_);rintro e w' ⟨rfl,rfl⟩;rw[hpc])
    go_round
    case rel=>exact⟨k+1,by omega,by go_num,HN⟩
    case measure=>simp[intOf];omega
  .have HN:Hid (T=k):=by show _=_;rw[HK.out,uW _ _ om];simp[aX]
   go_wp2
   go_ret;exact⟨sC (by rw[HN.out]),rfl⟩
attribute [go_sem] Oper.semAt_some
def aK.agg (x:aK):Value:= aR #[aB aC x.kind,sv x.text,aB aC x.num,sv x.unit]
def kM:aK:=⟨0,[],0,[]⟩
theorem NI (s:ByteArray) (k:Nat):(s.extract k s.size).data.toList=s.data.toList.drop k:=by
 rw[ByteArray.data_extract,Array.toList_extract,Xl,List.take_of_length_le];rw[List.length_drop,cU];omega
theorem DR (s:ByteArray) (k:Nat):s.extract k s.size=⟨(s.data.toList.drop k).toArray⟩:=by
 rw[<-NI]
theorem RG (s:ByteArray) (n:Nat):s.extract 0 n=⟨(s.data.toList.take n).toArray⟩:=by
 have:(s.extract 0 n).data.toList=s.data.toList.take n:=by
  rw[ByteArray.data_extract,Array.toList_extract,Xl];simp
 rw[<-this]
theorem xB (s:ByteArray) (f m:Nat):s.extract f m=⟨((s.data.toList.take m).drop f).toArray⟩:=by
 have:(s.extract f m).data.toList=(s.data.toList.take m).drop f:=by
  rw[ByteArray.data_extract,Array.toList_extract,Xl,List.drop_take]
 rw[<-this]
theorem wQ (S:ByteArray) (s:Bs) (h:S.data.toList=s) (k:Nat) (hk:k<S.size):S[k]=s[k]'(by rw[<-h,cU];exact hk):=by
 subst h;rfl
theorem NW (w:World):Calls aE 251 #[] w (aH (aK.agg iT) w):=by
 go_enter Tryz.func251,Tryz.ntmps251;go_wp2_with fail
 ((try simp only[Exit.inBlock,Exit.then]);refine bodyPost_ret (v:= aR #[aB aC 7,aD ⟨#[]⟩,aB aC 0,aD ⟨#[]⟩]) (by(first|rw[results_cell_tmp rfl]|rw[fB rfl]);go_simp) rfl ?_);exact aH.of rfl aG
theorem VC (k:Int) (t:Bs) (w:World) (_hk:0<=k) (_hk2:k<=10) (hm:t.length<=140737488355328):Calls aE 250 #[aB aC k,aD ⟨t.toArray⟩] w (aH (aK.agg (mH k t)) w):=by
 have HL:=aA (λW=>ME ⟨t.toArray⟩ W hm);have HBd:=aA (λW=>NW W);have HD:Hid (mH k t=if 64<t.length then iT else⟨k,bO t,0,[]⟩):=rfl;obtain⟨S,hS⟩: ∃S:ByteArray,⟨t.toArray⟩=S:=⟨_,rfl⟩;have hs:S.size=t.length:=by rw[<-hS];rfl
 have HL2:Hid (∀W,Calls aE 125 #[aD S] W (aH (aD ⟨(bO t).toArray⟩) W)):=hS ▸ HL.out;rw[hS];clear hS HL;by_cases h:64<t.length
 .have b0:decide ((64:Int)<S.size)=true:=by rw[hs];simp;omega
  rw[if_pos h]at HD;clear hs h;go_enter Tryz.func250,Tryz.ntmps250;go_wp2_with(go_at_call 251;(with_reducible refine zG (HBd.out _) λX=>?_);simp only[aK.agg,iT,sv])
  ((try simp only[Exit.inBlock,Exit.then]);refine bodyPost_ret (v:= aR #[aB aC 7,aD ⟨#[]⟩,aB aC 0,aD ⟨#[]⟩]) (by(first|rw[results_cell_tmp rfl]|rw[fB rfl]);go_simp) rfl ?_);exact aH.of (by rw[HD.out];rfl) aG
 .have b0:decide ((64:Int)<S.size)=false:=by rw[hs];simp;omega
  rw[if_neg h]at HD;clear hs h;go_enter Tryz.func250,Tryz.ntmps250;go_wp2_with(go_at_call 125;(with_reducible refine zG (HL2.out _) λX=>?_))
  ((try simp only[Exit.inBlock,Exit.then]);refine bodyPost_ret (v:= aR #[aB aC k,aD ⟨(bO t).toArray⟩,aB aC 0,aD ⟨#[]⟩]) (by(first|rw[results_cell_tmp rfl]|rw[fB rfl]);go_simp) rfl ?_);exact aH.of (by rw[HD.out];rfl) aG
def xN (s:Bs):aK × Nat:=if dW s then lY s else(kM,0)
def jC (s:Bs):Nat:=if hd (λc=>decide (c.toNat=45)) s then 1 else 0
theorem Gd (s:Bs):dW s=match s.drop (jC s)with
  |[]=>false
  |d::_=>jD d:=by
 cases s with
 |nil=>rfl
 |cons c r=>
  by_cases h:c.toNat=45
  .have h1:jD c=false:=by
    have:c=45:=UInt8.toNat_inj.1 h;subst this;decide
   simp only[jC,hd,h,decide_true,if_true,List.drop_succ_cons,List.drop_zero,dW,h1,Bool.false_or,Bool.true_and];cases r<;>rfl
  .simp[jC,hd,h,dW]
theorem M1 (s:Bs):Lib.trimPrefix s [45]=s.drop (jC s):=by
 cases s with
 |nil=>rfl
 |cons c r=>
  by_cases h:c.toNat=45
  .have:c=45:=UInt8.toNat_inj.1 h;subst this;rfl
  .have h2: ¬(45:UInt8)=c:=λh3=>h (by rw[<-h3];rfl);simp[jC,hd,h,Lib.trimPrefix,Lib.hasPrefix,h2]
theorem TL (s:Bs) (k:UInt8):Lib.hasPrefix s [k]=hd (λc=>decide (c.toNat=k.toNat)) s:=by
 cases s with
 |nil=>rfl
 |cons c r=>rw[bK];simp[Lib.hasPrefix,hd,<-UInt8.toNat_inj];exact eq_comm
theorem Ge (s:Bs) (w:World) (hm:s.length<=140737488355):Calls aE 245 #[aD ⟨s.toArray⟩] w (aH (aN #[aK.agg (xN s).1,aB aC (xN s).2]) w):=by
 obtain⟨S,hS⟩: ∃S:ByteArray,⟨s.toArray⟩=S:=⟨_,rfl⟩;have hd0:S.data.toList=s:=by rw[<-hS]
 have hsz:S.size=s.length:=by rw[<-hS];rfl
 obtain⟨T,hT⟩: ∃T:ByteArray,⟨(s.drop (jC s)).toArray⟩=T:=⟨_,rfl⟩;have htz:T.size=s.length-jC s:=by rw[<-hT];show(s.drop (jC s)).length=_;simp
 have HT:=aA (λW=>show Calls aE 259 #[aD S,aD ⟨#[45]⟩] W λe w'=>e=aL (aD T)/\w'=W from by
  have:=Tryz.strings_TrimPrefix S ⟨#[45]⟩ W;rw[hd0]at this;rw[<-hT,<-M1];exact this)
 have hda:jC s<=1:=by unfold jC;split<;>omega
 have hdl:jC s<=s.length:=by unfold jC;cases s<;>simp[hd];split<;>omega
 have hsub:(S.size:Int)-(T.size:Int)=(jC s:Nat):=by omega
 have HV:Hid (xN s=if dW s then lY s else(kM,0)):=rfl;have HN:=aA (Gd s);have hSm:S.size<=140737488355:=by omega
 have hTm:T.size<=S.size:=by omega
 rw[hS];by_cases hlt:jC s<s.length
 .have hltS:jC s<S.size:=by omega
  have b0:decide ((S.size:Int)<=(jC s:Nat))=false:=by simp;omega
  have hbg:dW s=jD S[jC s]:=by
   rw[HN.out,List.drop_eq_getElem_cons hlt,wQ S s hd0 _ hltS]
  cases hn:dW s
  .rw[hn]at hbg HV;have HBg:=aA (λW=>show Calls aE 260 #[.int .u8 S[jC s].toNat] W λe w'=>e=aL (aI false)/\W=w' from hbg ▸ NV _ W);clear hbg hn;clear hsz htz hdl;generalize jC s=d at*;go_enter qu,qd;go_wp2_with(first|(go_at_call 259;(with_reducible refine zQ (HT.out _) ?_))|(go_at_call 260;(with_reducible refine zQ (HBg.out _) ?_)))
   ((try simp only[Exit.inBlock,Exit.then]);refine bodyPost_ret (v:= aN #[aR #[aB aC 0,aD ⟨#[]⟩,aB aC 0,aD ⟨#[]⟩],aB aC 0]) (by(first|rw[results_cell_tmp rfl]|rw[fB rfl]);go_simp) rfl ?_);exact aH.of (by rw[HV.out];rfl) aG
  .rw[hn]at hbg HV;have HBg:=aA (λW=>show Calls aE 260 #[.int .u8 S[jC s].toNat] W λe w'=>e=aL (aI true)/\W=w' from hbg ▸ NV _ W);clear hbg hn;obtain⟨n,hnn⟩: ∃n,aX bI s=n:=⟨_,rfl⟩;have hle:=lI bI s;have HR:=aA (λW=>show Calls aE 248 #[aD S,aB aC 0,.func (.func 249) #[] #[]] W λe w'=>e=aL (aB aC n)/\W=w' from by
    have:=xG S 0 _ _ W NA om om;rw[hd0,List.drop_zero,hnn]at this;exact this)
   rw[hnn]at hle;have e1:S.extract 0 n=⟨(s.take n).toArray⟩:=by rw[RG,hd0]
   have e2:S.extract n S.size=⟨(s.drop n).toArray⟩:=by rw[DR,hd0]
   have HNm:=aA (λW=>VC 1 (s.take n) W om om  (by rw[List.length_take];omega));have HC:Hid (lY s=if 64<n then(iT,n)else if hd (λc=>decide (c.toNat=40)) (s.drop n)then(⟨2,bO (s.take n),0,[]⟩,n+1)else(⟨1,bO (s.take n),0,[]⟩,n)):=by show _=_;rw[<-hnn];rfl
   have HNd:Hid (mH 1 (s.take n)=if 64<n then iT else⟨1,bO (s.take n),0,[]⟩):=by show _=_;unfold mH;rw[List.length_take,Nat.min_eq_left hle]
   have HPf:=aA (λW=>show Calls aE 24 #[aD ⟨(s.drop n).toArray⟩,aD ⟨#[40]⟩] W λe w'=>e=aL (aI (hd (λc=>decide (c.toNat=40)) (s.drop n)))/\w'=W from by
    have:=Tryz.strings_HasPrefix ⟨(s.drop n).toArray⟩ ⟨#[40]⟩ W;rw[show(⟨#[40]⟩:ByteArray).data.toList=[40]from rfl,show(⟨(s.drop n).toArray⟩:ByteArray).data.toList=s.drop n from rfl,TL]at this;exact this)
   have hnS:n<=S.size:=by omega
   generalize hd (λc=>decide (c.toNat=40)) (s.drop n)=b at*;generalize(⟨(s.take n).toArray⟩:ByteArray)=P1 at*;generalize(⟨(s.drop n).toArray⟩:ByteArray)=P2 at*;clear hsz htz hdl;generalize jC s=d at*;by_cases h64:64<n
   .rw[if_pos h64]at HC HNd;rw[HNd.out]at HNm;have HNm2:=aA HNm.out;simp only[aK.agg,iT,sv]at HNm2;clear HNm hnn HN hd0 hS hT HNd;go_enter qu,qd;go_wp2_with(first|(go_at_call 259;(with_reducible refine zQ (HT.out _) ?_))|(go_at_call 260;(with_reducible refine zQ (HBg.out _) ?_))|(go_at_call 248;(with_reducible refine zQ (HR.out _) ?_))|(go_at_call 250;(with_reducible refine zG (HNm2.out _) λX=>?_)))
    ((try simp only[Exit.inBlock,Exit.then]);refine bodyPost_ret (v:= aN #[aR #[aB aC 7,aD ⟨#[]⟩,aB aC 0,aD ⟨#[]⟩],aB aC n]) (by(first|rw[results_cell_tmp rfl]|rw[fB rfl]);go_simp) rfl ?_);exact aH.of (by rw[HV.out,if_pos trivial,HC.out];rfl) aG
   .rw[if_neg h64]at HC HNd;rw[HNd.out]at HNm;have HNm2:=aA HNm.out;simp only[aK.agg,sv]at HNm2;clear HNm hnn HN hd0 hS hT HNd;cases b
    .have HPf2:=aA HPf.out;go_enter qu,qd;go_wp2_with(first|(go_at_call 259;(with_reducible refine zQ (HT.out _) ?_))|(go_at_call 260;(with_reducible refine zQ (HBg.out _) ?_))|(go_at_call 248;(with_reducible refine zQ (HR.out _) ?_))|(go_at_call 250;(with_reducible refine zG (HNm2.out _) λX=>?_))|(go_at_call 24;(with_reducible refine zQ (HPf2.out _) ?_)))
     ((try simp only[Exit.inBlock,Exit.then]);refine bodyPost_ret (v:= aN #[aR #[aB aC 1,aD ⟨(bO (s.take n)).toArray⟩,aB aC 0,aD ⟨#[]⟩],aB aC n]) (by(first|rw[results_cell_tmp rfl]|rw[fB rfl]);go_simp) rfl ?_);exact aH.of (by rw[HV.out,if_pos trivial,HC.out];rfl) aG
    .have HPf2:=aA HPf.out;go_enter qu,qd;go_wp2_with(first|(go_at_call 259;(with_reducible refine zQ (HT.out _) ?_))|(go_at_call 260;(with_reducible refine zQ (HBg.out _) ?_))|(go_at_call 248;(with_reducible refine zQ (HR.out _) ?_))|(go_at_call 250;(with_reducible refine zG (HNm2.out _) λX=>?_))|(go_at_call 24;(with_reducible refine zQ (HPf2.out _) ?_)))
     ((try simp only[Exit.inBlock,Exit.then]);refine bodyPost_ret (v:= aN #[aR #[aB aC 2,aD ⟨(bO (s.take n)).toArray⟩,aB aC 0,aD ⟨#[]⟩],aB aC (n+1:Nat)]) (by(first|rw[results_cell_tmp rfl]|rw[fB rfl]);go_simp) rfl ?_);exact aH.of (by rw[HV.out,if_pos trivial,HC.out];rfl) aG
 .have b0:decide ((S.size:Int)<=(jC s:Nat))=true:=by simp;omega
  have hn:dW s=false:=by rw[HN.out,List.drop_eq_nil_of_le om]
  rw[hn]at HV;have hge:S.size<=jC s:=by omega
  clear hsz htz hdl;generalize jC s=d at*;go_enter qu,qd;go_wp2_with(go_at_call 259;(with_reducible refine zQ (HT.out _) ?_))
  ((try simp only[Exit.inBlock,Exit.then]);refine bodyPost_ret (v:= aN #[aR #[aB aC 0,aD ⟨#[]⟩,aB aC 0,aD ⟨#[]⟩],aB aC 0]) (by(first|rw[results_cell_tmp rfl]|rw[fB rfl]);go_simp) rfl ?_);exact aH.of (by rw[HV.out];rfl) aG
