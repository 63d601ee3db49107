import Derived.Test.YtccjfanpjojbnaaGreatDoorJValL
import Derived.Test.YtccjfanpjojbnaaGreatDoorJDecG
namespace Go.Proofs.YtccjfanpjojbnaaGreatDoor
open Bool renaming and_eq_true→bD,false_ne_true→Yh
open Go.Ending renaming returned→aL
open Go.IntKind renaming i64→aC
open Lib renaming hid→aA
open List renaming all_eq_true→dO,append_nil→bV,getElem?_eq_some_iff→gV,getElem_mem→dN,getElem_of_mem→Xo,getElem_set→Yc,length_append→aZ,length_cons→aY,mem_append→eK,mem_cons→bJ,mem_singleton→fW,not_mem_nil→eO,pairwise_iff_getElem→Wy,take_succ_eq_append_getElem→jG
open Tryz renaming prog→aE,underlying181→yp
open Go.Value renaming agg→aR,bool→aI,int→aB,oneCell'→gC,slice→aF,string→aD,tuple→aN
set_option maxRecDepth 100000
set_option maxHeartbeats 8000000
open Go.RowKit Go.Shelf
def rM (d:bE):Prop:=wR d.value/\d.value.length<=66000/\d.name.length<=1000000
def wD (d:bE):aK:=⟨1,d.name,0,[]⟩
theorem TD (d:bE):eN d=(d.value.all cR&&oS d.value&&cR (wD d)):=rfl
theorem Nu (d:bE) (A:Option Addr) (c:Nat) (w:World) (hw:Tb w) (hx:Mx w) (hv:Rd w (aF A d.value.length c) d.value.length 4 (bC d.value)) (hs:rM d):
  Calls aE 140 #[aR #[sv d.name,aF A d.value.length c,aI d.imp]] w (aH (aI (eN d)) w):=by
 obtain⟨s1,s2,s3⟩:=hs;obtain⟨D,hD⟩: ∃D,d.value.all cR=D:=⟨_,rfl⟩;obtain⟨M,hM⟩: ∃D,oS d.value=D:=⟨_,rfl⟩;obtain⟨R,hR⟩: ∃D,cR (wD d)=D:=⟨_,rfl⟩;have HE:Hid (eN d=(D&&M&&R)):=by show _=_;rw[TD,hD,hM,hR]
 obtain⟨Z,hZ⟩: ∃Z:ByteArray,⟨(if d.value.all cR then oL d.value else []).toArray⟩=Z:=⟨_,rfl⟩;have HT:=aA (λW (hB:Below w.heap.size w W)=>show Calls aE 141 #[aF A d.value.length c] W (aH (aN #[.string Z,aI D]) W)from by
  obtain⟨X,rfl⟩:=cV hB;have:=QP A d.value.length c d.value (w.grow X) (hw.grow X) (hx.grow X) (hv.grow X) s1 om;rwa[hZ,hD]at this)
 have HM:=aA (λ(h1:D=true) W (hB:Below w.heap.size w W)=>show Calls aE 175 #[aF A d.value.length c] W (aH (aI M) W)from by
  obtain⟨X,rfl⟩:=cV hB;have:=VG A d.value.length c d.value (w.grow X) (hv.grow X) (λx hx=>TK (dO.1 (hD.trans h1) x hx)) om;rwa[hM]at this)
 have HR:=aA (λW (hB:Below w.heap.size w W)=>show Calls aE 181 #[aR #[aB aC 1,sv d.name,aB aC 0,aD ⟨#[]⟩]] W (aH (aI R) W)from by
  have:=KX (wD d) W (hw.below hB) (hx.below hB) ⟨by simp[wD],by simp[wD],by simp[wD],by simp[wD]⟩ s3 (by simp[wD]);rwa[hR]at this)
 rw[HE.out];generalize d.value.length=n at*;simp only[sv]at HR ⊢;generalize(⟨d.name.toArray⟩:ByteArray)=nm at*;clear hD hM hR hv s1 s2 s3 hw hx hZ HE;cases D
 .have HT2:=aA HT.out;clear HT;go_enter Tryz.func140,Tryz.ntmps140;go_wp2_with(go_at_call 141;(with_reducible refine zG (HT2.out _ aG) λX1=>?_))
  go_ret;exact aH.of rfl aG
 .have HM2:=aA (HM.out rfl);have HT2:=aA HT.out;clear HT HM;cases M
  .have HM3:=aA HM2.out;clear HM2;go_enter Tryz.func140,Tryz.ntmps140;go_wp2_with(first|(go_at_call 141;(with_reducible refine zG (HT2.out _ aG) λX1=>?_))|(go_at_call 175;(with_reducible refine zG (HM3.out _ aG) λX2=>?_)))
   go_ret;exact aH.of rfl aG
  .have HM3:=aA HM2.out;clear HM2;go_enter Tryz.func140,Tryz.ntmps140;go_wp2_with(first|(go_at_call 141;(with_reducible refine zG (HT2.out _ aG) λX1=>?_))|(go_at_call 175;(with_reducible refine zG (HM3.out _ aG) λX2=>?_))|(go_at_call 181;go_loud(with_reducible refine zG (HR.out _ aG) λX3=>?_)))
   go_ret;exact aH.of (by cases R<;>rfl) aG
open Go.RowKit Go.Shelf
theorem WI (us:List Bs):Lib.join us [59,32]=oW us:=by
 induction us with
 |nil=>rfl
 |cons u us ih=>
  cases us with
  |nil=>simp[Lib.join,List.intercalate,oW]
  |cons v vs=>
   rw[oW,<-ih];simp[Lib.join,List.intercalate]
theorem R4 {W:World} {A:Option Addr} {n c:Nat} (us:List Bs) (h:Rd W (aF A n c) us.length 1 (us.map sv)) (hc:us.length<=c) (hl:(oW us).length<=140737488355328) (hn:us.length<=140737488355328):
  Calls aE 133 #[aF A n c,aD ⟨#[59,32]⟩] W (aH (aD ⟨(oW us).toArray⟩) W):=by
 obtain⟨h1,h2,A',c',he,h4⟩:=h;cases he;by_cases h0:us.length=0
 .obtain rfl:us=[]:=List.eq_nil_of_length_eq_zero h0;refine(Tryz.strings_Join_none A c _ W).mono ?_;rintro e w' ⟨rfl,rfl⟩;exact aH.same rfl
 .obtain⟨b,off,rfl,hb,hcell⟩:=h4 om;have e1:(us.map λu=>(⟨u.toArray⟩:ByteArray)).length=us.length:=by simp
  have e2:(us.map λu=>(⟨u.toArray⟩:ByteArray)).map (·.data.toList)=us:=by
   rw[List.map_map];conv=>rhs;rw[<-List.map_id us]
   apply List.map_congr_left;intro u _;rfl
  have key:=Tryz.strings_Join b off c (us.map λu=>(⟨u.toArray⟩:ByteArray)) ⟨#[59,32]⟩ W (λj x hx=>by
   have hx2:(us.map sv)[j]? =some (.string x):=by
    rw[List.getElem?_map]at hx ⊢;cases hj:us[j]? with
    |none=>rw[hj]at hx;cases hx
    |some u=>rw[hj]at hx;cases hx;rfl
   exact hcell j _ hx2) hb (by rw[e1];exact hn) (by rw[e1];exact hc) (by rw[e2,show(⟨#[59,32]⟩:ByteArray).data.toList=[59,32]from rfl,WI];exact hl)
  rw[e1,e2]at key;refine key.mono ?_;rintro e w' ⟨rfl,hB⟩;refine⟨?_,cV hB⟩;show aL (aD ⟨(Lib.join us [59,32]).toArray⟩)=_;rw[WI]
theorem Jh (m:Nat): ∀(us:List Bs),(∀u∈us,u.length<=m)->(oW us).length<=us.length*(m+2):=by
 intro us;induction us with
 |nil=>intro _;simp[oW]
 |cons u us ih=>
  intro h;have h1:=h u (List.mem_cons_self ..);have h2:=ih (λv hv=>h v (List.mem_cons_of_mem _ hv));cases us with
  |nil=>simp[oW];omega
  |cons v vs=>
   simp only[oW,aZ,aY]at h2 ⊢;rw[Nat.succ_mul];omega
theorem QQ {l:List aK} (hs:wR l) (hl:l.length<=66000):(oL l).length<=132002706000:=by
 have h1:=WJ 2000040 (l.map cE) (λu hu=>by
  rw[List.mem_map]at hu;obtain⟨x,hx,rfl⟩:=hu;obtain⟨o1,o2,o3⟩:=hs x hx;have:=DN x o1;omega)
 simp only[List.length_map]at h1;change(oL l).length<=_ at h1;omega
theorem N6 {d:bE} (hs:rM d):(lJ d).length<=132004000000:=by
 have:=QQ hs.1 hs.2.1;have h3:=hs.2.2;simp only[lJ,aZ];have:(if d.imp then xQ else []).length<=12:=by split<;>decide
 simp only[aY,List.length_nil];omega
theorem No (A:Option Addr) (n c:Nat) (l:List bE) (w:World) (hw:Tb w) (hx:Mx w) (h:nE w (aF A n c) l) (hs: ∀d∈l,rM d) (hl:l.length<=1050):
  Calls aE 80 #[aF A n c] w (aH (aN #[aD ⟨(if l.all eN then mQ l else []).toArray⟩,aI (l.all eN)]) w):=by
 have HR:=aA h;have HS:=aA hs;obtain⟨vs0,_,_,hm,A',c',heq,_⟩:=h;cases heq;have HW:=aA hw;have HX:=aA hx;obtain⟨Z,hZ⟩: ∃Z:ByteArray,⟨(if l.all eN then mQ l else []).toArray⟩=Z:=⟨_,rfl⟩;have HZ:=aA hZ;obtain⟨D,hD⟩: ∃D,l.all eN=D:=⟨_,rfl⟩;have HD:=aA hD;rw[hZ,hD];clear hs hw hx hZ hD;go_enter Tryz.func80,Tryz.ntmps80;go_wp2_with fail
 go_loopw [4,11] (λv i wr=> ∃(k:Nat) (X:Gr),k<=l.length/\i=aB aC k/\wr=w.grow X/\(w.grow X).ownsRow w.heap.size 9 1 v k (((l.take k).map lJ).map sv)/\Hid ((l.take k).all eN=true)) (λ_ i _=>l.length-(intOf i).toNat)
 case atStart=>exact⟨0,_,by omega,rfl,(kW w).symm,by rw[kW];exact World.ownsRow_nil _ _ _ _,rfl⟩
 case round=>
  obtain⟨k,X,hk,rfl,rfl,hown,HK⟩:=hrel;by_cases hlt:k<l.length
  .obtain⟨b,off,vd,rfl,hb,⟨Av,cv,rfl,_,hcv,hrd⟩,c0,c1,c2⟩:=HR.out.at k hlt;have HL:=aA (show((l.take (k+1)).map lJ).map sv=((l.take k).map lJ).map sv++[sv (lJ l[k])] by rw[jG hlt,List.map_append,List.map_append];rfl);have HAl:=aA (show(l.take (k+1)).all eN=((l.take k).all eN&&eN l[k]) by rw[jG hlt,List.all_append];simp);have HNo:=aA (show eN l[k]=false->l.all eN=false from λh=>by
    rw[<-Bool.not_eq_true,dO];intro h2;rw[h2 _ (dN hlt)]at h;cases h)
   have hsd:=HS.out _ (dN hlt);generalize l[k]=d at*;have htl:=QQ hsd.1 hsd.2.1;have hnl:=hsd.2.2;have HRt:=aA (λW (hB:Below w.heap.size w W)=>show Calls aE 140 #[aR #[sv d.name,aF Av d.value.length cv,aI d.imp]] W (aH (aI (eN d)) W)from by
    obtain⟨X,rfl⟩:=cV hB;exact Nu d Av cv (w.grow X) (HW.out.grow X) (HX.out.grow X) (hrd.grow X) hsd)
   have HTo:=aA (λ(hr:eN d=true) W (hB:Below w.heap.size w W)=>show Calls aE 141 #[aF Av d.value.length cv] W (aH (aN #[aD ⟨(oL d.value).toArray⟩,aI true]) W)from by
    obtain⟨X,rfl⟩:=cV hB;have:=QP Av d.value.length cv d.value (w.grow X) (HW.out.grow X) (HX.out.grow X) (hrd.grow X) hsd.1 (by have:=hsd.2.1;omega);have h2:d.value.all cR=true:=by
     rw[TD,bD,bD]at hr;exact hr.1.1
    rwa[h2,if_pos rfl]at this)
   have HTl:Hid (sv (lJ d)=sv (d.name++[58,32]++oL d.value++(if d.imp then xQ else []))):=rfl;generalize hdi:d.imp=im at*;generalize hdt:oL d.value=T0 at*;generalize hdn:d.name=N0 at*;generalize d.value.length=m at*;simp only[sv]at HRt c0;obtain⟨T,hT⟩: ∃S:ByteArray,⟨T0.toArray⟩=S:=⟨_,rfl⟩;obtain⟨N,hN⟩: ∃S:ByteArray,⟨N0.toArray⟩=S:=⟨_,rfl⟩;have hTs:T.size<=132002706000:=by rw[<-hT];exact htl
   have hNs:N.size<=1000000:=by rw[<-hN];exact hnl
   have HTN:Hid (T0=T.data.toList/\N0=N.data.toList):=by rw[<-hT,<-hN];exact⟨rfl,rfl⟩
   rw[hT]at HTo;rw[hN]at HRt c0;clear hT hN hsd hrd htl hnl hdi hdt hdn;cases hr:eN d
   .have HN:=aA (HNo.out hr);rw[hr]at HRt;have HRt2:=aA HRt.out;clear HRt hr;go_wp2_with(go_at_call 140;go_loud(with_reducible refine zG (HRt2.out _ aG) λX1=>?_))
    go_ret2;exact aH.of (by rw[<-HZ.out,<-HD.out,HN.out];rfl) aG
   .have HTo2:=aA (HTo.out hr);rw[hr]at HRt HAl;have HRt2:=aA HRt.out;have HK2:Hid ((l.take (k+1)).all eN=true):=by show _=_;rw[HAl.out,HK.out];rfl
    clear HRt hr HTo;cases im
    .go_wp2_with(first|(go_at_call 140;go_loud(with_reducible refine zG (HRt2.out _ aG) λX1=>?_))|(go_at_call 141;go_loud(with_reducible refine zG (HTo2.out _ aG) λX2=>?_))|(at_builtin;go_loud(refine rK rfl _ _ 44 rfl JY w rfl (zK hown aG) aG ⟨_,0,none⟩ 1 1 [.string (N++⟨#[58,32]⟩++T)] rfl rfl (eR (c:= #[.string (N++⟨#[58,32]⟩++T)]) (by simp[go_sem])) (by simp[gC]) (by unfold maxLen;omega) om ?_);intro v' Y hown' _))
     go_roundw
     case rel=>exact⟨k+1,Y,by omega,by go_num,rfl,by rw[HL.out,HTl.out,HTN.out.1,HTN.out.2];show World.ownsRow _ _ _ _ _ _ (_++[aD ⟨(_:Bs).toArray⟩]);simp only[Bool.false_eq_true,if_false,bV];rw[<-xW,<-xW];exact hown',HK2⟩
     case measure=>simp[intOf];omega
    .go_wp2_with(first|(go_at_call 140;go_loud(with_reducible refine zG (HRt2.out _ aG) λX1=>?_))|(go_at_call 141;go_loud(with_reducible refine zG (HTo2.out _ aG) λX2=>?_))|(at_builtin;go_loud(refine rK rfl _ _ 44 rfl JY w rfl (zK hown aG) aG ⟨_,0,none⟩ 1 1 [.string (N++⟨#[58,32]⟩++T++⟨#[32,33,32,105,109,112,111,114,116,97,110,116]⟩)] rfl rfl (eR (c:= #[.string (N++⟨#[58,32]⟩++T++⟨#[32,33,32,105,109,112,111,114,116,97,110,116]⟩)]) (by simp[go_sem])) (by simp[gC]) (by unfold maxLen;omega) om ?_);intro v' Y hown' _))
     go_roundw
     case rel=>exact⟨k+1,Y,by omega,by go_num,rfl,by rw[HL.out,HTl.out,HTN.out.1,HTN.out.2];show World.ownsRow _ _ _ _ _ _ (_++[aD ⟨(_:Bs).toArray⟩]);simp only[if_true];rw[<-xW,<-xW,<-xW];exact hown',HK2⟩
     case measure=>simp[intOf];omega
  .have hk2:k=l.length:=by omega
   subst hk2;rw[List.take_length]at HK hown;have hlen:((l.map lJ)).length=l.length:=by simp
   have hjl:(oW (l.map lJ)).length<=140737488355328:=by
    have h1:=Jh 132004000000 (l.map lJ) (λu hu=>by
     rw[List.mem_map]at hu;obtain⟨x,hx,rfl⟩:=hu;exact N6 (HS.out x hx))
    rw[hlen]at h1;omega
   obtain⟨A2,c2,rfl,hc2⟩:=dF hown;have hrd:=Rd.own hown;rw[<-hlen]at hrd hc2;have HJ:=aA (R4 (l.map lJ) hrd hc2 hjl (by rw[hlen];omega));rw[hlen]at HJ;have HE:Hid (mQ l=oW (l.map lJ)):=rfl;clear hrd hc2 hjl hown;go_wp2_with(go_at_call 133;(with_reducible refine HJ.out.mono ?_);rintro e w' ⟨rfl,X1,rfl⟩)
   go_ret2;exact aH.of (by rw[<-HZ.out,<-HD.out,HK.out,if_pos rfl,HE.out];rfl) aG
open Go.ChangeShapes Go.WideShapes Go.Deep
instance:Inhabited bE:=⟨⟨[],[],false⟩⟩
section
variable {H:Type} {enc:TypeId × Value->H} {w:World} {base:Nat} {spare:Nat->Bool} {held:Bool}
end
open Go.RowKit Go.Shelf
theorem Oi {p:List aK} {d:bE} (h:kI p=some d):d.value.length<=p.length:=by
 match p,h with
 |a::b::r,h=>
  simp only[kI]at h;split at h
  .cases h;have:=IP r;simp only[aY];omega
  .cases h
theorem nE.len {W:World} {A:Option Addr} {n c:Nat} {l:List bE} (h:nE W (aF A n c) l):l.length=n:=by
 obtain⟨_,_,_,_,_,_,he,_⟩:=h;cases he;rfl
theorem nE.below {w W:World} {v:Value} {l:List bE} (h:nE w v l) (hb:Below w.heap.size w W):nE W v l:=by
 obtain⟨X,rfl⟩:=cV hb;exact h.grow X
open Go.RowKit
open Go.ChangeMaps Go.MapKept
open Go.WideMaps (KeyLaw)
section
variable {P:Program} {k e t:TypeId} {W:World} {b:Nat} {key val:Value} {kl:Lit}
def fM (P:Program) (k:TypeId) (W:World) (b:Nat) (R:Value->Value->Prop):Prop:= ∃es clock,W.heap[b]? =some (.map es clock)/\(∀x∈es.toList,∃l,keyOf P k x.key=some l)/\es.toList.Pairwise (λx y=>x.key≠y.key)/\ ∀v u,(∃x∈es.toList,x.key=v/\x.val=u)↔R v u
theorem fM.new {R:Value->Value->Prop} (h:W.heap[b]? =some (.map #[] 0)) (hR: ∀v u,¬R v u):fM P k W b R:=⟨#[],0,h,by simp,by simp,λv u=>⟨λ⟨x,hx,_⟩=>by simp at hx,λh=>absurd h (hR v u)⟩⟩
theorem fM.kept {R:Value->Value->Prop} {W':World} (h:fM P k W b R) (hb:W'.heap[b]? =W.heap[b]?):fM P k W' b R:=by
 obtain⟨es,c,h1,h2⟩:=h;exact⟨es,c,hb.trans h1,h2⟩
theorem fM.iff {R R':Value->Value->Prop} (h:fM P k W b R) (hR: ∀v u,R v u↔R' v u):fM P k W b R':=by
 obtain⟨es,c,h1,h2,h3,h4⟩:=h;exact⟨es,c,h1,h2,h3,λv u=>(h4 v u).trans (hR v u)⟩
theorem fM.lt {R:Value->Value->Prop} (h:fM P k W b R):b<W.heap.size:=by
 obtain⟨es,c,h1,_⟩:=h;exact(Array.getElem?_eq_some_iff.1 h1).1
theorem fM.below {R:Value->Value->Prop} {W':World} (h:fM P k W b R) (hb:Below W.heap.size W W'):fM P k W' b R:=h.kept (hb.block b h.lt)
theorem Ee {es:List MapEntry} (h:es.Pairwise (λx y=>x.key≠y.key)) {x y:MapEntry} (hx:x∈es) (hy:y∈es) (hk:x.key=y.key):x=y:=by
 induction es with
 |nil=>cases hx
 |cons z r ih=>
  rw[List.pairwise_cons]at h;rcases bJ.1 hx with hx1|hx1
  .rcases bJ.1 hy with hy1|hy1
   .rw[hx1,hy1]
   .exact absurd (hx1 ▸ hk) (h.1 y hy1)
  .rcases bJ.1 hy with hy1|hy1
   .exact absurd (hy1 ▸ hk).symm (h.1 x hx1)
   .exact ih h.2 hx1 hy1
theorem fM.look {R:Value->Value->Prop} (h:fM P k W b R) (K:KeyLaw P k) (ht:P.underlying t=some (.map k e)) {z:Value} (hz:(zeroValue e).run P W= .ok z W) (hkey:keyOf P k key=some kl) {u:Value} (hu:R key u):
  (Instr.lookup t (.map (some b)) key true).run P W= .ok (aN #[u,aI true]) W/\(Instr.lookup t (.map (some b)) key false).run P W= .ok u W:=by
 obtain⟨es,c,h1,h2,h3,h4⟩:=h;obtain⟨y,hy,hy1,hy2⟩:=(h4 key u).2 hu;rcases zS K ht hz h1 h2 hkey with⟨h5,_⟩|⟨x,hx,h5,h6,h7⟩
 .exact absurd hy1 (h5 y hy)
 .have:=Ee h3 hx hy (h5.trans hy1.symm);subst this;rw[hy2]at h6 h7;exact⟨h6,h7⟩
theorem fM.lacks {R:Value->Value->Prop} (h:fM P k W b R) (K:KeyLaw P k) (ht:P.underlying t=some (.map k e)) {z:Value} (hz:(zeroValue e).run P W= .ok z W) (hkey:keyOf P k key=some kl) (hu: ∀u,¬R key u):
  (Instr.lookup t (.map (some b)) key true).run P W= .ok (aN #[z,aI false]) W/\(Instr.lookup t (.map (some b)) key false).run P W= .ok z W:=by
 obtain⟨es,c,h1,h2,h3,h4⟩:=h;rcases zS K ht hz h1 h2 hkey with⟨_,h6,h7⟩|⟨x,hx,h5,_⟩
 .exact⟨h6,h7⟩
 .exact absurd ((h4 key x.val).1 ⟨x,hx,h5,rfl⟩) (hu _)
def vV (R:Value->Value->Prop) (key val v u:Value):Prop:=(v=key/\u=val)\/(v≠key/\R v u)
theorem fM.put {R:Value->Value->Prop} (h:fM P k W b R) (K:KeyLaw P k) (ht:P.underlying t=some (.map k e)) (hkey:keyOf P k key=some kl):
  ∃W',(Instr.mapUpdate t (.map (some b)) key val).run P W= .ok () W'/\fM P k W' b (vV R key val)/\W.grownBy W' (some b):=by
 obtain⟨es,c,h1,h2,h3,h4⟩:=h;obtain⟨es',c',h5,h6⟩:=LZ (val:=val) K ht h1 h2 hkey;refine⟨_,h5,⟨es',c',heap_setBlock_same h1 _, ?_⟩,KM h1 _⟩;rcases h6 with⟨hn,n,e1⟩|⟨j,e0,hj,ek,e1⟩
 .rw[e1];refine⟨λx hx=> ?_, ?_,λv u=> ?_⟩
  .rcases eK.1 hx with hx|hx
   .exact h2 x hx
   .rw[fW.1 hx];exact⟨_,hkey⟩
  .rw[List.pairwise_append];refine⟨h3,List.pairwise_singleton _ _,λx hx y hy=> ?_⟩;rw[fW.1 hy];exact hn x hx
  .constructor
   .rintro⟨x,hx,e2,e3⟩;rcases eK.1 hx with hx|hx
    .exact .inr ⟨λe4=>hn x hx (e2.trans e4),(h4 v u).1 ⟨x,hx,e2,e3⟩⟩
    .rw[fW.1 hx]at e2 e3;exact .inl ⟨e2.symm,e3.symm⟩
   .rintro(⟨rfl,rfl⟩|⟨_,hr⟩)
    .exact⟨_,eK.2 (.inr (fW.2 rfl)),rfl,rfl⟩
    .obtain⟨x,hx,e2⟩:=(h4 v u).2 hr;exact⟨x,eK.2 (.inl hx),e2⟩
 .have hjl:=(gV.1 hj).1;have hje:es.toList[j]=e0:=(gV.1 hj).2;have hmem: ∀x,x∈es.toList.set j {e0 with key:=key,val:=val}->x={e0 with key:=key,val:=val}\/(x∈es.toList/\x.key≠key):=λx hx=>by
   obtain⟨i,hi,hxi⟩:=Xo hx;rw[Yc]at hxi;split at hxi
   .exact .inl hxi.symm
   .next hij=>
    have hi':i<es.toList.length:=by simpa using hi
    right;refine⟨hxi ▸ dN hi',λe2=> ?_⟩;have k1:es.toList[j].key=key:=by rw[hje];exact ek
    have k2:es.toList[i].key=key:=by rw[hxi];exact e2
    rcases Nat.lt_or_gt_of_ne hij with hlt|hlt
    .exact absurd (k1.trans k2.symm) ((Wy.1 h3) j i hjl hi' hlt)
    .exact absurd (k2.trans k1.symm) ((Wy.1 h3) i j hi' hjl hlt)
  have hset:({e0 with key:=key,val:=val}:MapEntry)∈es.toList.set j {e0 with key:=key,val:=val}:=List.mem_set hjl _;rw[e1];refine⟨λx hx=> ?_, ?_,λv u=> ?_⟩
  .rcases hmem x hx with rfl|⟨hx,_⟩
   .exact⟨_,hkey⟩
   .exact h2 x hx
  .rw[Wy]at h3 ⊢;intro i m hi hm him;have hi':i<es.toList.length:=by simpa using hi
   have hm':m<es.toList.length:=by simpa using hm
   have h8:=h3 i m hi' hm' him;rw[Yc,Yc];by_cases hji:j=i
   .subst hji;rw[if_pos rfl,if_neg om];rw[hje,ek]at h8;exact h8
   .rw[if_neg hji];by_cases hjm:j=m
    .subst hjm;rw[if_pos rfl];rw[hje,ek]at h8;exact h8
    .rw[if_neg hjm];exact h8
  .constructor
   .rintro⟨x,hx,e2,e3⟩;rcases hmem x hx with rfl|⟨hx,hne⟩
    .exact .inl ⟨e2.symm,e3.symm⟩
    .exact .inr ⟨λe4=>hne (e2.trans e4),(h4 v u).1 ⟨x,hx,e2,e3⟩⟩
   .rintro(⟨rfl,rfl⟩|⟨hne,hr⟩)
    .exact⟨_,hset,rfl,rfl⟩
    .obtain⟨x,hx,e2,e3⟩:=(h4 v u).2 hr;refine⟨x, ?_,e2,e3⟩;obtain⟨i,hi,hxi⟩:=Xo hx;have hij:j≠i:=λe4=>hne (by subst e4;rw[<-e2,<-hxi,hje,ek]);rw[List.mem_iff_getElem];exact⟨i,by simpa using hi,by rw[Yc,if_neg hij];exact hxi⟩
end
theorem II {P:Program} {k e:TypeId} {w:World} {ops:Array Oper} {rest:List Oper} {o:Oper} {a:Act} {Q:Exit->Act->World->Prop} (hg:o.guard=none) (m x v:Operand) (t:TypeId) (hop:o.op=Op.mapUpdate t m x v)
  (b:Nat) (R:Value->Value->Prop) (h:fM P k w b R) (K:KeyLaw P k) (ht:P.underlying t=some (.map k e)) (hm:a.eval m= .map (some b)) {key val:Value} {kl:Lit} (hx:a.eval x=key) (hv:a.eval v=val) (hkey:keyOf P k key=some kl)
  (hK: ∀w',fM P k w' b (vV R key val)->w.grownBy w' (some b)->wpList P ops Q rest (a.put o.dst undef) w'):wpList P ops Q (o::rest) a w:=by
 refine wpList_plain hg λK' hK'=> ?_;obtain⟨w',hrun,r1,r2⟩:=h.put (val:=val) K ht hkey;unfold Oper.wp;simp[execOp,hop,hm,hx,hv,hrun,Result.andThen];exact hK' _ _ (hK w' r1 r2)
def sX (x:aK):Nat:=x.text.length+x.unit.length
theorem M8 (s:St): ∀x∈cZ s,sX x<=40:=by
 have f: ∀t:Bs,t.length<=20->sX (dX t)<=40:=λt ht=>by simp[sX,dX];omega
 have n: ∀(a:Int) (u:Bs),u.length<=20->sX (cT a u)<=40:=λa u hu=>by simp[sX,cT];omega
 have m: ∀k,sX (bP k)<=40:=λk=>by simp[sX,bP]
 intro x hx;unfold cZ at hx;split at hx
 .simp only[bJ,eO,or_false]at hx;rcases hx with rfl|rfl|rfl|rfl|rfl
  .exact f _ dc
  .exact n _ _ dc
  .exact m _
  .exact n _ _ dc
  .exact m _
 .split at hx
  .simp only[bJ,eO,or_false]at hx;rcases hx with rfl|rfl|rfl
   .exact f _ dc
   .exact n _ _ dc
   .exact m _
  .split at hx
   .simp only[bJ,eO,or_false]at hx;rcases hx with rfl|rfl|rfl
    .exact f _ dc
    .exact n _ _ dc
    .exact m _
   .simp only[bJ,eO,or_false]at hx;rcases hx with rfl|rfl|rfl
    .exact f _ dc
    .exact n _ _ dc
    .exact m _
theorem Gn {l a:List aK} (h:iP l=some a): ∀x∈a,sX x<=40:=by
 have hn: ∀x∈[kF],sX x<=40:=λx hx=>by rw[fW]at hx;subst hx;decide
 unfold iP at h;split at h
 .cases h;exact hn
 .split at h
  .cases h
  .split at h
   .split at h
    .cases h;exact hn
    .cases h;intro x hx;obtain⟨s,_,hx⟩:=List.mem_flatMap.1 hx;exact M8 s x hx
   .cases h
theorem H9 {nm:Bs} {l a:List aK} (h:kN nm l=some a):a=l\/(wR a/\a.length<=40/\ ∀x∈a,sX x<=40):=by
 unfold kN at h;split at h
 .cases h
 .split at h
  .exact .inr ⟨(VF h).1,(VF h).2,Gn h⟩
  .split at h
   .cases h;exact .inl rfl
   .cases h
theorem Jd {P:aO} {d e:bE} (hd:rM d) (h:mZ P d=some e):rM e:=by
 obtain⟨h1,_,_,h4⟩:=MP h;obtain⟨d1,d2,d3⟩:=hd;rcases H9 h4 with h5|⟨h5,h6,_⟩
 .exact⟨by rw[h5];exact d1,by rw[h5];exact d2,by rw[h1];exact d3⟩
 .exact⟨h5,by omega,by rw[h1];exact d3⟩
theorem Sb {P:aO} {l:List bE} (h: ∀d∈l,rM d): ∀e∈lA P l,rM e:=by
 intro e he;obtain⟨d,hd,hk⟩:=List.mem_filterMap.1 he;exact Jd (h d hd) hk
theorem ZQ (P:aO) (l:List bE):(lA P l).length<=l.length:=List.length_filterMap_le ..
theorem Oe (s:Bs):(gI (bU s)).length<=s.length+1:=by
 have h1:=List.length_filterMap_le kI (eB 0 (bU s));have h2:=(EO (bU s) 0).1;have h3:(bU s).length<=s.length:=EC _ s (Nat.lt_succ_self _);unfold gI;omega
open Go.RowKit Go.Shelf
open Go.WideMaps (KeyLaw)
theorem WD:KeyLaw aE 181:=deep_law_laid VZ (m:=2) om (of_decide_eq_true kr) kr kr
def sG (d:bE):Value:= aR #[sv d.name,aI d.imp]
theorem Iz (d:Nat) (x:ByteArray) (i:Bool) (hx:x.size<=maxLen):aE.keyLits (d+2) 181 [.string x,aI i]=some [.string x.data.toList,.bool i]:=by
 have hs:aE.keyLits (d+1) 9 [.string x]=some [.string x.data.toList]:=by
  unfold Program.keyLits;rw[Tryz.underlying9];simp[hx]
 have hb:aE.keyLits (d+1) 4 [aI i]=some [.bool i]:=by
  unfold Program.keyLits;rw[Tryz.underlying4]
 have c1:aE.cellsOf 9=1:=by kernel_rfl
 have c3:aE.cellsOf 4=1:=by kernel_rfl
 have c2:aE.cellsOf 181=2:=by kernel_rfl
 unfold Program.keyLits;rw[yp];simp[c1,c2,c3,hs,hb]
theorem WE (d:bE) (hd:d.name.length<=maxLen): ∃l,keyOf aE 181 (sG d)=some l:=by
 have h:=λn=>Iz n ⟨d.name.toArray⟩ d.imp (by show d.name.toArray.size<=_;simpa using hd);have hk:aE.keyType 181=true:=by kernel_rfl
 have hc:aE.cellsOf 181=2:=by kernel_rfl
 have hf:Value.formed aE 181 (sG d)=true:=by
  unfold Value.formed sG;simp[yp,hc]
 obtain⟨n,hn⟩: ∃n,aE.types.size+1=n+2:=⟨aE.types.size-1,by have:0<aE.types.size:=of_decide_eq_true kr;omega⟩;unfold keyOf;rw[yp];simp only[hk,hf,hn,Bool.and_self,if_true];refine⟨.string (keyBytes [.string d.name,.bool d.imp]), ?_⟩;have e:(sG d).cells.toList=[aD ⟨d.name.toArray⟩,aI d.imp]:=rfl;rw[e,h n];rfl
theorem MO (d e:bE):sG d=sG e↔gT d e=true:=by
 unfold sG gT sv;simp only[aR.injEq,bD,decide_eq_true_eq,beq_iff_eq];constructor
 .intro h;simp at h;exact⟨h.1.symm,h.2.symm⟩
 .rintro⟨h1,h2⟩;rw[h1,h2]
def BY (A:List bE) (v u:Value):Prop:= ∃(d:bE) (i:Nat),v=sG d/\u=aB aC i/\BZ A d i
theorem Ip (A:List bE) (x:bE) (v u:Value):vV (BY A) (sG x) (aB aC A.length) v u↔BY (A++[x]) v u:=by
 unfold vV;constructor
 .rintro(⟨rfl,rfl⟩|⟨hne,d,i,rfl,rfl,h⟩)
  .exact⟨x,A.length,rfl,rfl,MN.2 (.inl ⟨WC x,rfl⟩)⟩
  .refine⟨d,i,rfl,rfl,MN.2 (.inr ⟨?_,h⟩)⟩;rw[<-Bool.not_eq_true];exact λe=>hne ((MO d x).2 e)
 .rintro⟨d,i,rfl,rfl,h⟩;rcases MN.1 h with⟨h1,rfl⟩|⟨h1,h2⟩
  .exact .inl ⟨(MO d x).2 h1,rfl⟩
  .refine .inr ⟨λe=> ?_,d,i,rfl,rfl,h2⟩;rw[(MO d x).1 e]at h1;cases h1
def VN (W:World) (d:bE) (v:Value):Prop:= ∃A c,v=aF A d.value.length c/\Nn W A c/\d.value.length<=c/\Rd W v d.value.length 4 (bC d.value)
theorem VN.vr {W:World} {d:bE} {v:Value} (h:VN W d v):VR W d v:=by
 obtain⟨A,c,h1,h2,h3⟩:=h;exact⟨A,c,h1,h2.1,h3⟩
theorem VN.keep {W W':World} {d:bE} {v:Value} (h:VN W d v) (hs:W.heap.size<=W'.heap.size) (hk: ∀(k:Nat) (cur:Array Value) z,W.heap[k]? =some (.cells cur 209 z)->W'.heap[k]? =W.heap[k]?):VN W' d v:=by
 obtain⟨A,c,rfl,h2,h3,h4⟩:=h;refine⟨A,c,rfl,⟨h2.1,λad ha=> ?_⟩,h3, ?_⟩
 .obtain⟨cur,z,h5⟩:=h2.2 ad ha;exact⟨cur,z,(hk _ _ _ h5).trans h5⟩
 .obtain⟨h5,h6,A',c',he,h7⟩:=h4;cases he;refine⟨h5,h6,A,c,rfl,λhn=> ?_⟩;obtain⟨b,off,h8,h9,h10⟩:=h7 hn;obtain⟨cur,z,h11⟩:=h2.2 _ h8;exact⟨b,off,h8,Nat.lt_of_lt_of_le h9 hs,λj u hu=>(World.cell?_of_block (a:=⟨b,off+j,none⟩) (hk b cur z h11)).trans (h10 j u hu)⟩
theorem VN.grow {W:World} {d:bE} {v:Value} (h:VN W d v) (X:Gr):VN (W.grow X) d v:=
 h.keep (dG W X).size λk _ _ hk=>(dG W X).block k (Array.getElem?_eq_some_iff.1 hk).1
theorem VN.below {W W':World} {d:bE} {v:Value} (h:VN W d v) (hb:Below W.heap.size W W'):VN W' d v:=
 h.keep hb.size λk _ _ hk=>hb.block k (Array.getElem?_eq_some_iff.1 hk).1
theorem VN.map {W W':World} {d:bE} {v:Value} {b:Nat} {es:Array MapEntry} {n:Nat} (h:VN W d v) (hg:W.grownBy W' (some b)) (hm:W.heap[b]? =some (.map es n)):VN W' d v:=
 h.keep hg.size λk _ _ hk=>hg.block k (Array.getElem?_eq_some_iff.1 hk).1 λe=>by
  cases e;rw[hk]at hm;cases hm
theorem VN.row {W W':World} {d:bE} {v u:Value} {B n:Nat} {xs:List Value} (h:VN W d v) (ho:W.ownsRow B 177 3 u n xs) (hg:W.grownBy W' u.ownBlock):VN W' d v:=
 h.keep hg.size λk _ _ hk=>hg.block k (Array.getElem?_eq_some_iff.1 hk).1 λe=>by
  obtain⟨_,⟨rfl,_⟩|⟨g,cap,cur,rfl,_,hgg,_⟩⟩:=ho
  .cases e
  .cases e;rw[hk]at hgg;cases hgg
theorem fM.isMap {P:Program} {k:TypeId} {W:World} {b:Nat} {R:Value->Value->Prop} (h:fM P k W b R): ∃es n,W.heap[b]? =some (.map es n):=by
 obtain⟨es,n,h1,_⟩:=h;exact⟨es,n,h1⟩
structure sV (W1:World) (b:Nat) (A:List bE) (v:Value) (W:World):Prop where
 turned:aJ (λk=>k=b) W1 W
 map:fM aE 181 W b (BY A)
 row: ∃vs,W.ownsRow W1.heap.size 177 3 v A.length (lP A vs)/\gK (VN W) A vs
theorem sV.next {W1 W W':World} {b:Nat} {A:List bE} {v:Value} (h:sV W1 b A v W) (hb:Below W.heap.size W W'):sV W1 b A v W':=by
 obtain⟨h1,h2,vs,h3,h4⟩:=h;obtain⟨X,rfl⟩:=cV hb;exact⟨h1.grow X,h2.below hb,vs,jT h3 X,h4.mono λd u _ h=>h.grow X⟩
theorem QD {W W':World} {o:Option Nat} (hg:W.grownBy W' o) {pv:Nat->Prop} (hp: ∀k,o=some k->pv k):aJ pv W W':=
 ⟨hg.os,hg.tape,hg.output,hg.size,λk hk hn=>hg.block k hk λe=>hn (hp k e.symm)⟩
theorem sV.more {W1 W V W':World} {b:Nat} {A:List bE} {v v' u:Value} {x:bE} {o:Obj} {n:Nat} {vs:List Value} (h:sV W1 b A v W) (h3:W.ownsRow W1.heap.size 177 3 v A.length (lP A vs)) (h4:gK (VN W) A vs) (hbl:b<W1.heap.size) (hu:VN W x u)
  (hm:fM aE 181 V b (vV (BY A) (sG x) (aB aC A.length))) (hg:W.grownBy V (some b))
  (ho:W'.ownsRow W1.heap.size 177 3 v' n (lP A vs++sM x u)) (hn:n=A.length+1) (hg2:(V.alloc o).grownBy W' v.ownBlock):sV W1 b (A++[x]) v' W':=by
 obtain⟨h1,h2,_⟩:=h;obtain⟨es,n0,hmap⟩:=h2.isMap;have hvb: ∀k,v.ownBlock=some k->W1.heap.size<=k/\k<W.heap.size:=h3.lt;have hV:V.ownsRow W1.heap.size 177 3 v A.length (lP A vs):=ER hg h3 (λk hk e=>by cases e;have:=(hvb b hk).1;omega);have hbV:b<V.heap.size:=hm.lt;have hTV:aJ (λk=>k=b) W V:=QD hg (λk e=>(Option.some.inj e).symm);have hTA:aJ (λk=>k=b) W (V.alloc o):=hTV.alloc o;have hT2:aJ (λk=>v.ownBlock=some k) (V.alloc o) W':=QD hg2 (λk e=>e);have hb2:W'.heap[b]? =V.heap[b]? :=by
  rw[hT2.block b (by simp;omega) (λe=>by have:=(hvb b e).1;omega)];exact(((aJ.refl (λ_=>False) V).alloc o).block b hbV (λe=>e))
 refine⟨?_,(hm.kept hb2).iff (Ip A x),vs++[u], ?_, ?_⟩
 .refine(h1.next hTA (λi hi _=>hi)).next hT2 λi hi hl=> ?_;have:=(hvb i hi).1;omega
 .rw[FY x u A vs h4.len,aZ,List.length_singleton,<-hn];exact ho
 .have keep: ∀{d:bE} {q:Value},VN W d q->VN W' d q:=λhq=>by
   have h5:=(hq.map hg hmap).below (((Below.refl _ V).alloc (Nat.le_refl _) o));exact h5.row (hV.alloc o) hg2
  exact gK.snoc (p:=VN W') (keep hu) (h4.mono λd q _ h=>keep h)
theorem VN.re {w:World} {c c':Array Value} {X Y:Gr} {d:bE} {v:Value} (h:VN ((w.alloc (.cells c 177)).grow X) d v):VN (((w.alloc (.cells c' 177)).grow X).grow Y) d v:=by
 have e1: ∀o:Obj,(w.alloc o).heap=w.heap.push o:=λ_=>rfl;refine h.keep (by simp[World.grow,e1]) λk cur z hk=> ?_;have hl:=(Array.getElem?_eq_some_iff.1 hk).1;rw[(dG _ Y).block k (by simpa[World.grow,e1]using hl)];by_cases hkw:k=w.heap.size
 .subst hkw;exfalso;simp[World.grow,e1,Array.getElem?_append]at hk
 .simp[World.grow,e1,Array.getElem?_append,Array.getElem?_push,hkw]
theorem VR.bel {W W':World} {d:bE} {v:Value} (h:VR W d v) (hb:Below W.heap.size W W'):VR W' d v:=by
 obtain⟨X,rfl⟩:=cV hb;exact h.grow X
theorem Iq {A:List bE} {k:Nat} (h:k<A.length):rH A (k+1)=rH A k++(if uP A k=true then [A[k]]else []):=by
 rw[rH,List.getElem?_eq_getElem h]
def Sy (w:World) (F:List bE) (e:Ending) (w':World):Prop:= ∃A c,e=aL (aF A F.length c)/\Below w.heap.size w w'/\(A=none->c=0)/\F.length<=c/\nE w' (aF A F.length c) F
open Go.RowKit Go.Shelf
theorem Sg {P:aO} {D:List bE} {k:Nat} (h:k<D.length):lA P (D.take (k+1))=lA P (D.take k)++(mZ P D[k]).toList:=by
 unfold lA;rw[jG h,List.filterMap_append];cases hk:mZ P D[k]<;>simp[hk]
theorem Of (g:Nat) (P:aO) (s:Bs) (w:World) (hr:gB w g P) (hw:Tb w) (hx:Mx w) (hm:s.length<=100000000) (hD: ∀d∈gI (bU s),rM d) (hn:(gI (bU s)).length<=1000000):
  Calls aE 79 #[Value.pointer (some ⟨g,0,none⟩),aD ⟨s.toArray⟩] w (Sy w (iJ P s)):=by
 have hmm:= @run_makeMap aE;obtain⟨D,hDD⟩: ∃D,gI (bU s)=D:=⟨_,rfl⟩;have hF:iJ P s=eS (lA P D):=by unfold iJ;rw[hDD]
 rw[hF];have HPs:=aA (λW (hX:Mx W)=>show Calls aE 137 #[aD ⟨s.toArray⟩] W (ZW W D)from hDD ▸ Ec s W hX hm);rw[hDD]at hD hn;have HD:=aA hD;have HT0:=aA (λW (hb:Below w.heap.size w W)=>And.intro (Tb.below hw hb) (Mx.below hx hb));have HR:=aA (λW (hb:Below w.heap.size w W)=>hr.below hb);generalize(⟨s.toArray⟩:ByteArray)=S at*;clear hr hw hx hm hD hF hDD;go_enter Tryz.func79,Tryz.ntmps79;go_upto_region 3 with fail
 refine dL λW0 hW0=> ?_;obtain⟨b,hb⟩: ∃b,w.heap.size=b:=⟨_,rfl⟩;have HB0:Hid (Below w.heap.size w W0):=by show Below _ _ _;rw[hW0];exact aG
 have HM0:Hid (fM aE 181 W0 b (BY [])):=by
  show fM _ _ _ _ _;rw[hW0];exact fM.new (by rw[<-hb];exact heap_alloc_new w _) (λv u ⟨d,i,_,_,h⟩=>It d i h)
 have hs0:W0.heap.size=b+1:=by rw[hW0,<-hb];simp
 have HPs0:=aA (HPs.out W0 (HT0.out W0 HB0.out).2);clear hW0;rw[hb];go_wp2_with(go_at_call 137;(with_reducible refine HPs0.out.mono ?_);rintro e W1 ⟨v1,vs1,X1,rfl,hW1,ho1,ha1⟩;rw[<-hW1]at ho1 ha1;obtain⟨A1,c1,rfl,hc1⟩:=dF ho1;have HO1:=aA ho1;have HA1:=aA ha1;have HB1:=aA (show Below W0.heap.size W0 W1 from by rw[hW1];exact dG _ _);clear hW1 ho1 ha1)
 have hs1:b+1<=W1.heap.size:=by have:=HB1.out.size;omega
 have HM1:=aA (HM0.out.below HB1.out);have HBW:Hid (Below w.heap.size w W1):=aP HB0.out HB1.out;go_loopw [5,18] (λv i wr=> ∃k:Nat,k<=D.length/\i=aB aC k/\Hid (sV W1 b (lA P (D.take k)) v wr)) (λ_ i _=>D.length-(intOf i).toNat)
 case atStart=>exact⟨0,by omega,rfl,aJ.refl _ _,HM1.out,[],World.ownsRow_nil _ _ _ _,trivial⟩
 case round=>
  obtain⟨k,hk,rfl,HI⟩:=hrel;have hsw:=HI.out.turned.size;have hbl:b<W1.heap.size:=by omega
  have HBr:Hid (Below w.heap.size w wr):=HBW.out.trans (HI.out.turned.below om (by intro k hk;omega));by_cases hlt:k<D.length
  .have hRd:nE wr (aF A1 D.length c1) D:=⟨vs1,HA1.out.mono λd u _ h=>VR.own (HI.out.turned.own h (by intro k hk;omega)),Rd.own (HI.out.turned.own HO1.out (by intro k hk;omega))⟩;obtain⟨bd,off,vd,rfl,hbd,hvd,x0,x1,x2⟩:=hRd.at k hlt;have HTk:=aA (Sg (P:=P) hlt);have sd:=HD.out D[k] (dN hlt);generalize D[k]=d at*;obtain⟨Av,cv,rfl,hAv,hcv,hrv⟩:=hvd;have HVl:=aA (λW (hb:Below wr.heap.size wr W)=>I1 d.name Av d.value.length cv d.value W (HT0.out W (aP HBr.out hb)).1 (HT0.out W (aP HBr.out hb)).2 (hrv.bel hb) hAv sd.1 (by have:=sd.2.1;omega));have HCs:=aA (λW (hb:Below wr.heap.size wr W)=>Ou g P d.name W (HR.out W (aP HBr.out hb)) (by have:=sd.2.2;unfold maxLen;omega));obtain⟨kl,hkl⟩:=WE d (by have:=sd.2.2;unfold maxLen;omega);have hk0:(lA P (D.take k)).length<=1000000:=Nat.le_trans (ZQ P _) (by rw[List.length_take];omega);generalize lA P (D.take k)=A at*;have HKV:Hid (∀a,sG ⟨d.name,a,d.imp⟩=aR #[aD ⟨d.name.toArray⟩,aI d.imp]):=λ_=>rfl;have HKey:=aA (show keyOf aE 181 (aR #[aD ⟨d.name.toArray⟩,aI d.imp])=some kl from hkl);have HDc:Hid (∀a u,sM ⟨d.name,a,d.imp⟩ u=[aD ⟨d.name.toArray⟩,u,aI d.imp]):=λ_ _=>rfl;clear hkl hRd sd hAv hcv hrv;simp only[sv]at x0 HCs;cases hv:kN d.name d.value with
   |none=>
    have HK:Hid (mZ P d=none):=by show _=_;unfold mZ;rw[hv]
    rw[hv]at HVl;have HVn:=aA (λW (hb:Below wr.heap.size wr W)=>(HVl.out W hb).mono (R':=λe w'=> ∃A c X,e=aL (aN #[aF A 0 c,aI false])/\w'=W.grow X) λe w' ⟨A,c,X,h1,h2,_⟩=>⟨A,c,X,h1,h2⟩);clear HVl HCs hv;generalize(⟨d.name.toArray⟩:ByteArray)=nb at*;generalize d.imp=im at*;generalize d.value.length=vl at*;go_wp2_with(go_at_call 138;(with_reducible refine(HVn.out _ aG).mono ?_);rintro e w' ⟨A2,c2,X2,rfl,rfl⟩)
    go_roundw
    case rel=>exact⟨k+1,by omega,by go_num,by show sV _ _ _ _ _;rw[HTk.out,HK.out,Option.toList,bV];exact HI.out.next aG⟩
    case measure=>simp[intOf];omega
   |some a=>
    rw[hv]at HVl;have HVs:=aA (λW (hb:Below wr.heap.size wr W)=>(HVl.out W hb).mono (R':=λe w'=> ∃A c X,e=aL (aN #[aF A a.length c,aI true])/\w'=W.grow X/\VN (W.grow X) ⟨d.name,a,d.imp⟩ (aF A a.length c)) λe w' ⟨A,c,X,h1,h2,h3,h4,h5⟩=>⟨A,c,X,h1,h2,A,c,rfl,h3,h4,h5⟩);cases hc:xU P d.name
    .have HK:Hid (mZ P d=none):=by show _=_;unfold mZ;rw[hv,hc];rfl
     rw[hc]at HCs;have HCn:=aA HCs.out;clear HVl HCs hv hc;generalize(⟨d.name.toArray⟩:ByteArray)=nb at*;generalize d.imp=im at*;generalize d.value.length=vl at*;go_wp2_with(first
      |(go_at_call 138;(with_reducible refine(HVs.out _ aG).mono ?_);rintro e w' ⟨A2,c2,X2,rfl,rfl,_⟩)
      |(go_at_call 139;(with_reducible refine zG (HCn.out _ aG) λX3=>?_)))
     go_roundw
     case rel=>exact⟨k+1,by omega,by go_num,by show sV _ _ _ _ _;rw[HTk.out,HK.out,Option.toList,bV];exact HI.out.next aG⟩
     case measure=>simp[intOf];omega
    .have HK:Hid (mZ P d=some ⟨d.name,a,d.imp⟩):=by show _=_;unfold mZ;rw[hv];exact if_pos hc
     rw[hc]at HCs;have HCn:=aA HCs.out;clear HVl HCs hv hc;generalize(⟨d.name.toArray⟩:ByteArray)=nb at*;generalize d.imp=im at*;generalize d.value.length=vl at*;go_upto_region 9 with(first
      |(go_at_call 138;(with_reducible refine(HVs.out _ aG).mono ?_);rintro e w' ⟨A2,c2,X2,rfl,rfl,hvn⟩;have HVN:=aA hvn;clear hvn)
      |(go_at_call 139;(with_reducible refine zG (HCn.out _ aG) λX3=>?_)))
     refine dL λW8 hW8=> ?_;have hb8:Below wr.heap.size wr W8:=by rw[hW8];exact aG
     have HV8:Hid (VN W8 ⟨d.name,a,im⟩ (aF A2 a.length c2)):=by show VN _ _ _;rw[hW8];exact HVN.out.re
     have hFl:wr.heap.size<W8.heap.size:=by rw[hW8];simp[World.grow]<;>omega
     obtain⟨F8,hF8⟩: ∃B,wr.heap.size=B:=⟨_,rfl⟩;have y0:W8.cell? ⟨F8,0,none⟩=some (.string nb):=by rw[hW8,<-hF8];simp[go_sem]
     have y1:W8.cell? ⟨F8,1,none⟩=some (aF A2 a.length c2):=by rw[hW8,<-hF8];simp[go_sem]
     have y2:W8.cell? ⟨F8,2,none⟩=some (aI im):=by rw[hW8,<-hF8];simp[go_sem]
     have HI8:=aA (HI.out.next hb8);have HB8:=aA hb8;rw[hF8]at hFl hsw ⊢;clear hW8 hb8 HVN HVs HCn HI;obtain⟨vs8,ho8,ha8⟩:=HI8.out.row;obtain⟨Aa,ca,rfl,hca⟩:=dF ho8;have HO8:=aA ho8;have HA8:=aA ha8;clear ho8 ha8;go_wp2_with(first
      |(at_mapUpdate;(refine II rfl _ _ _ 173 rfl b _ HI8.out.map WD Tryz.underlying173 rfl rfl rfl HKey.out ?_);intro W9 hm9 hg9;have HM9:=aA hm9;have HG9:=aA hg9;have HO9:=aA (ER hg9 HO8.out (λq hq e=>by cases e;have:=(HO8.out.lt b hq).1;omega));have z0:=(World.cell?_of_block (a:=⟨F8,0,none⟩) (hg9.block F8 hFl (by intro e;cases e;omega))).trans y0;have z1:=(World.cell?_of_block (a:=⟨F8,1,none⟩) (hg9.block F8 hFl (by intro e;cases e;omega))).trans y1;have z2:=(World.cell?_of_block (a:=⟨F8,2,none⟩) (hg9.block F8 hFl (by intro e;cases e;omega))).trans y2;have hs9:=hg9.size;clear hm9 hg9)
      |(at_builtin;refine mJ rfl _ _ 126 rfl NQ W1.heap.size rfl (HO9.out.alloc _) (by simp;omega) ⟨_,0,none⟩ 1 1 [.string nb,aF A2 a.length c2,aI im] rfl rfl (eR (c:= #[.string nb,aF A2 a.length c2,aI im]) (by simp[go_sem])) (by simp[gC]) (by unfold maxLen;omega) om ?_;intro v10 W10 ho10 hg10;have HO10:=aA ho10;have HG10:=aA hg10;clear ho10 hg10))
     go_roundw
     case rel=>
      refine⟨k+1,by omega,by go_num, ?_⟩;show sV _ _ _ _ _;rw[HTk.out,HK.out,Option.toList];exact sV.more HI8.out HO8.out HA8.out hbl HV8.out (by rw[HKV.out];exact HM9.out) HG9.out (by rw[HDc.out];exact HO10.out) rfl HG10.out
     case measure=>simp[intOf];omega
  .have hkn:k=D.length:=by omega
   have HI2:=HI.out;rw[List.take_of_length_le om]at HI2;have hA0:(lA P D).length<=1000000:=Nat.le_trans (ZQ P _) hn;have HAm:=aA (show ∀e∈lA P D,e∈List.filterMap (mZ P) D from λe he=>he);generalize lA P D=A at*;obtain⟨hT2,hM2,vs2,ho2,ha2⟩:=HI2;obtain⟨Aa,ca,rfl,hca⟩:=dF ho2;have HRd:=aA (show nE wr (aF Aa A.length ca) A from⟨vs2,ha2.mono λd u _ h=>h.vr,Rd.own ho2⟩);have HM2:=aA hM2;clear HI hM2 ho2 ha2 hT2 HM1 HM0 HO1 HA1 HPs HPs0 hkn;obtain⟨wy,rfl⟩: ∃W,W=wr:=⟨_,rfl⟩;go_wp2_with fail
   go_loopw [11,56] (λv i wr=> ∃k:Nat,k<=A.length/\i=aB aC k/\Hid (Below wy.heap.size wy wr)/\Hid (∃us,wr.ownsRow wy.heap.size 177 3 v (rH A k).length (lP (rH A k) us)/\gK (VR wy) (rH A k) us)) (λ_ i _=>A.length-(intOf i).toNat)
   case atStart=>exact⟨0,by omega,rfl,Below.refl _ _,[],World.ownsRow_nil _ _ _ _,trivial⟩
   case round=>
    obtain⟨q,hq,rfl,HBz,HOz⟩:=hrel;obtain⟨us,hoz,haz⟩:=HOz.out;obtain⟨Az,cz,rfl,hcz⟩:=dF hoz;have hll:=VX A q;have hsz:=HBz.out.size;by_cases hql:q<A.length
    .obtain⟨bd,off,vd,rfl,hbd,hvd,x0,x1,x2⟩:=HRd.out.at q hql;obtain⟨i,hi,hdec⟩:=Iu hql;have HLs:=aA (Iq hql);have hb1:(((i:Nat):Int)==(q:Int))=uP A q:=by
      rw[<-hdec,Bool.eq_iff_iff,beq_iff_eq,decide_eq_true_eq];omega
     have hda:A[q].name.length<=1000000:=by
      obtain⟨e,he,hke⟩:=List.mem_filterMap.1 (HAm.out _ (dN hql));have:=(MP hke).1;rw[this];exact(HD.out e he).2.2
     generalize A[q]=d at*;obtain⟨Av,cv,rfl,hAv,hcv,hrv⟩:=hvd;have HVd:=aA (show VR wy d (aF Av d.value.length cv)from⟨Av,cv,rfl,hAv,hcv,hrv⟩);obtain⟨kl,hkl⟩:=WE d (by unfold maxLen;omega);have hz0: ∀W:World,(zeroValue 3).run aE W= .ok (aB aC 0) W:=λW=>by kernel_rfl
     have HKey:=aA (show keyOf aE 181 (aR #[aD ⟨d.name.toArray⟩,aI d.imp])=some kl from hkl);have HLo:=aA (λW (hb:Below wy.heap.size wy W)=>((HM2.out.below hb).look WD Tryz.underlying173 (hz0 W) HKey.out (u:= aB aC i) ⟨d,i,rfl,rfl,hi⟩).2);have HDc:Hid (∀u,sM d u=[aD ⟨d.name.toArray⟩,u,aI d.imp]):=λ_=>rfl;have y0:=(HBz.out.cell (p:=⟨bd,off+q*3,none⟩) hbd).trans x0;have y1:=(HBz.out.cell (p:=⟨bd,off+q*3+1,none⟩) hbd).trans x1;have y2:=(HBz.out.cell (p:=⟨bd,off+q*3+2,none⟩) hbd).trans x2;have hbz:bd<wr.heap.size:=by omega
     have HOo:=aA hoz;have HAo:=aA haz;simp only[sv]at y0;clear x0 x1 x2 hkl hda hi hdec hAv hcv hrv HOz hoz haz;generalize(⟨d.name.toArray⟩:ByteArray)=nb at*;generalize d.imp=im at*;generalize d.value.length=vl at*;go_upto_region 16 with fail
     refine dL λW5 hW5=> ?_;have hb5:Below wr.heap.size wr W5:=by rw[hW5];exact aG
     have hFl:wr.heap.size<W5.heap.size:=by rw[hW5];simp
     obtain⟨F5,hF5⟩: ∃B,wr.heap.size=B:=⟨_,rfl⟩;have z0:W5.cell? ⟨F5,0,none⟩=some (.string nb):=by rw[hW5,<-hF5];simp[go_sem]
     have z1:W5.cell? ⟨F5,1,none⟩=some (aF Av vl cv):=by rw[hW5,<-hF5];simp[go_sem]
     have z2:W5.cell? ⟨F5,2,none⟩=some (aI im):=by rw[hW5,<-hF5];simp[go_sem]
     have HB5:=aA (HBz.out.trans (hb5.mono hsz));have HL5:=aA (HLo.out W5 HB5.out);have HO5:=aA (zK HOo.out hb5);have hs5:=HB5.out.size;rw[hF5]at hFl ⊢;clear hW5 hb5 HLo HOo y0 y1 y2;cases hls:uP A q
     .rw[hls]at hb1 HLs;go_wp2_with(simp[go_sem,HL5.out])
      go_roundw
      case rel=>
       refine⟨_,_,_,_,⟨q+1,by omega, ?_,HB5.out,us, ?_, ?_⟩,rfl,rfl,rfl,rfl⟩
       .go_num
       .rw[HLs.out,if_neg Yh,bV];exact HO5.out
       .rw[HLs.out,if_neg Yh,bV];exact HAo.out
      case measure=>simp[intOf];omega
     .rw[hls]at hb1 HLs;go_wp2_with(first
       |(at_builtin;refine mJ rfl _ _ 126 rfl NQ wy.heap.size rfl (HO5.out.alloc _) (by simp;omega) ⟨_,0,none⟩ 1 1 [.string nb,(aF Av vl cv),aI im] rfl rfl (eR (c:= #[.string nb,(aF Av vl cv),aI im]) (by simp[go_sem])) (by simp[gC]) (by unfold maxLen;omega) om ?_;intro v6 W6 ho6 hg6;have HB6:=sE hg6 (HO5.out.alloc _) (rJ HB5.out aG);have HO6:=aA ho6;clear ho6 hg6)
       |simp[go_sem,HL5.out])
      go_roundw
      case rel=>
       refine⟨_,_,_,_,⟨q+1,by omega, ?_,us++[(aF Av vl cv)], ?_, ?_⟩,rfl,rfl,rfl,rfl⟩
       .go_num
       .rw[HLs.out,if_pos trivial,FY d (aF Av vl cv) _ _ HAo.out.len,aZ,HDc.out];exact HO6.out
       .rw[HLs.out,if_pos trivial];exact gK.snoc (p:=VR wy) HVd.out HAo.out
      case measure=>simp[intOf];omega
    .have hqn:q=A.length:=by omega
     have HE:=aA (Ir A);have HO9:=aA hoz;have HA9:=aA haz;clear HOz hoz haz;subst hqn;go_wp2_with fail
     go_ret;refine⟨Az,cz,by rw[<-HE.out];rfl,HBr.out.trans (HBz.out.mono HBr.out.size),uG HO9.out,by rw[<-HE.out];exact hcz,us, ?_, ?_⟩
     .rw[<-HE.out];exact HA9.out.mono λd u _ h=>h.bel HBz.out
     .rw[<-HE.out];exact Rd.own HO9.out
open Go.RowKit Go.Shelf
theorem Lh (P:aO) (s:Bs):(iJ P s).all eN=true:=dO.2 λd hd=>(CG d hd).right
theorem Lg (P:aO) {s:Bs} (h: ∀d∈gI (bU s),rM d): ∀d∈iJ P s,rM d:=λd hd=>Sb h d (FI hd)
theorem Lu (g:Nat) (P:aO) (s:Bs) (w:World) (hr:gB w g P) (hw:Tb w) (hx:Mx w) (hm:s.length<=100000000) (hD: ∀d∈gI (bU s),rM d) (hn:(gI (bU s)).length<=1000000) (hl:(iJ P s).length<=1050):
  Calls aE 38 #[Value.pointer (some ⟨g,0,none⟩),aD ⟨s.toArray⟩] w (aH (aN #[aD ⟨(mQ (iJ P s)).toArray⟩,aI (decide (0<(iJ P s).length))]) w):=by
 have HDe:=aA (Of g P s w hr hw hx hm hD hn);have hS:=Lg P hD;have hR:=Lh P s;generalize iJ P s=F at*;have HTx:=aA (λ(A:Option Addr) (n c:Nat) (W:World) (hb:Below w.heap.size w W) (h:nE W (aF A n c) F)=>show Calls aE 80 #[aF A n c] W (aH (aN #[aD ⟨(mQ F).toArray⟩,aI true]) W)from by
  have h1:=No A n c F W (Tb.below hw hb) (Mx.below hx hb) h hS hl;rw[hR]at h1;exact h1)
 generalize(⟨(mQ F).toArray⟩:ByteArray)=TB at*;generalize(⟨s.toArray⟩:ByteArray)=S at*;clear hr hw hx hm hD hS hR;go_enter Tryz.func38,Tryz.ntmps38;go_wp2_with(first
  |(go_at_call 79;(with_reducible refine HDe.out.mono ?_);rintro e W1 ⟨A1,c1,rfl,hb1,_,_,hr1⟩;have HB1:=aA hb1;have HR1:=aA hr1;clear hb1 hr1)
  |(go_at_call 80;(with_reducible refine zG (HTx.out _ _ _ _ HB1.out HR1.out) λX2=>?_)))
 go_ret2;exact aH.of (by simp) (HB1.out.trans ((aG:Below W1.heap.size W1 _).mono HB1.out.size))
