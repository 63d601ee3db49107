import Derived.Lib.LaidU8T
import Derived.LaidSub
import Derived.Test.YtccjfanpjojbnaaGreatDoorC3
import Derived.Lib.TrimUEq
import Derived.Test.YtccjfanpjojbnaaGreatDoorLB
namespace Go.Proofs.YtccjfanpjojbnaaGreatDoor
open Bool renaming eq_iff_iff→bK
open Go.Ending renaming returned→aL
open Go.IntKind renaming i64→aC
open Lib renaming bytesCells→nP,hid→aA
open List renaming dropWhile_cons_of_neg→lF,dropWhile_cons_of_pos→nM,dropWhile_suffix→Xu,drop_eq_getElem_cons→iK,drop_eq_nil_of_le→iG,drop_zero→fJ,filter_cons_of_pos→kK,getElem?_eq_getElem→eV,length_drop→bL,length_reverse→Xe,length_take→bZ,reverse_append→yf,reverse_reverse→xw,setIfInBounds_toArray→aU,set_cons_succ→aV,set_cons_zero→aT,takeWhile_append_dropWhile→Wv,takeWhile_cons_of_neg→jn,takeWhile_cons_of_pos→jo,take_of_length_le→fI,take_succ_eq_append_getElem→jG
open Nat renaming le_refl→bA,le_trans→bG,lt_of_lt_of_le→bQ
open Tryz renaming prog→aE,underlying130→pE,underlying5→jO,underlying9→dH
open Go.Value renaming bool→aI,int→aB,pointer→aM,slice→aF,string→aD,tuple→aN
set_option maxRecDepth 100000
set_option maxHeartbeats 4000000
def eI (c:UInt8):Bool:=decide (c.toNat<=32)
def sL (c:UInt8):Bool:=decide (c.toNat=9\/c.toNat=10\/c.toNat=13)
def lL (c:UInt8):Bool:= !sL c
def qV (l:Bs):Bs:=((l.dropWhile eI).reverse.dropWhile eI).reverse
def iE (l:Bs):Bs:=(qV l).filter lL
def kH (c:UInt8):Bool:=eG c||dR c
def fH (c:UInt8):UInt8:=if dR c=true then c+32 else c
def dU (c:UInt8):Bool:=kH c||aQ c||decide (c.toNat=43\/c.toNat=45\/c.toNat=46)
def iM (l:Bs):Option (Bs × Bs):=match l with
 |[]=>none
 |c::r=>if kH c=true then match (c::r).dropWhile dU with
   |d::q=>if d.toNat=58 then some (((c::r).takeWhile dU).map fH,q)else none
   |[]=>none
  else none
def AY (c:UInt8):Bool:=decide (c.toNat=47\/c.toNat=92)
def KK:Bs->Bool
 |a::b::_=>AY a&&AY b
 |_=>false
def uM (l:Bs):Bool:=(iM l).isNone&& !KK l
def lZ (p:aO) (s:Bs):Option Bs:=match iM (iE s)with
 |some (n,r)=>if xE p n=true then some (n++58::r)else none
 |none=>if(p.rel&&uM (iE s))=true then some (iE s)else none
theorem Nq {c:UInt8} (h:sL c=true):eI c=true:=by
 unfold sL at h;unfold eI;rw[decide_eq_true_eq]at h ⊢;omega
theorem PQ (l:Bs):(l.dropWhile eI).filter lL=(l.filter lL).dropWhile eI:=by
 induction l with
 |nil=>rfl
 |cons c r ih=>
  by_cases hb:eI c=true
  .rw[nM hb,ih];by_cases hk:lL c=true
   .rw[kK hk,nM hb]
   .rw[List.filter_cons_of_neg hk]
  .have hk:lL c=true:=by
    unfold lL;cases hd:sL c
    .rfl
    .exact absurd (Nq hd) hb
   rw[lF hb,kK hk,lF hb]
theorem ZB (l:Bs):iE l=qV (l.filter lL):=by
 unfold iE qV;rw[List.filter_reverse,PQ,List.filter_reverse,PQ]
structure IG (l:Bs):Prop where
 no: ∀c∈l,lL c=true
 hd: ∀c,l.head? =some c->eI c=false
 lst: ∀c,l.getLast? =some c->eI c=false
theorem PP {l:Bs} (h: ∀c,l.head? =some c->eI c=false):l.dropWhile eI=l:=by
 cases l with
 |nil=>rfl
 |cons c r=>exact lF (by rw[h c rfl];decide)
theorem IG.eq {l:Bs} (h:IG l):iE l=l:=by
 unfold iE qV;rw[PP h.hd,PP (l:=l.reverse) (λc hc=>h.lst c (by rw[List.head?_reverse]at hc;exact hc)),xw];exact List.filter_eq_self.2 h.no
theorem PS (l:Bs): ∀c,(l.dropWhile eI).head? =some c->eI c=false:=by
 intro c hc;have h:=List.head?_dropWhile_not eI l;rw[hc]at h;simpa using h
theorem ZC (l:Bs):IG (iE l):=by
 refine⟨λc hc=>(List.mem_filter.1 hc).2,λc hc=> ?_,λc hc=> ?_⟩
 .rw[ZB]at hc;unfold qV at hc;obtain⟨m,hm⟩: ∃m,(l.filter lL).dropWhile eI=m:=⟨_,rfl⟩;have h1: ∀c,m.head? =some c->eI c=false:=by rw[<-hm];exact PS _
  rw[hm]at hc;obtain⟨k,hk⟩: ∃k,m.reverse.takeWhile eI=k:=⟨_,rfl⟩;have h2:m.reverse=k++m.reverse.dropWhile eI:=by rw[<-hk];exact(Wv).symm
  have h3:m=(m.reverse.dropWhile eI).reverse++k.reverse:=by rw[<-yf,<-h2,xw]
  refine h1 c ?_;rw[h3,List.head?_append,hc];rfl
 .rw[ZB]at hc;unfold qV at hc;rw[List.getLast?_reverse]at hc;exact PS _ c hc
theorem MF {c:UInt8} (h:kH c=true):eG (fH c)=true:=by
 unfold fH;unfold kH at h;by_cases hu:dR c=true
 .rw[if_pos hu];unfold dR at hu;unfold eG;rw[decide_eq_true_eq]at hu ⊢;have:(c+32).toNat=c.toNat+32:=by rw[UInt8.toNat_add];show(c.toNat+32)%256=_;omega
  omega
 .rw[if_neg hu];rcases Bool.or_eq_true _ _ ▸ h with h|h
  .exact h
  .exact absurd h hu
theorem MG {c:UInt8} (h:dU c=true):dU (fH c)=true:=by
 by_cases hl:kH c=true
 .unfold dU kH;rw[MF hl];rfl
 .have hu: ¬dR c=true:=λe=>hl (by unfold kH;rw[e,Bool.or_true]);unfold fH;rw[if_neg hu];exact h
theorem Ie {c:UInt8}:fH (fH c)=fH c:=by
 by_cases hu:dR c=true
 .have h:=MF (c:=c) (by unfold kH;rw[hu,Bool.or_true]);have: ¬dR (fH c)=true:=by
   intro e;unfold eG at h;unfold dR at e;rw[decide_eq_true_eq]at h e;omega
  show(if dR (fH c)=true then fH c+32 else fH c)=fH c;rw[if_neg this]
 .have e:fH c=c:=by unfold fH;rw[if_neg hu]
  rw[e,e]
theorem XI {c:UInt8} (h:dU c=true):eI c=false/\lL c=true:=by
 have h32:32<c.toNat:=by
  unfold dU kH eG dR aQ at h;simp only[Bool.or_eq_true,decide_eq_true_eq]at h;omega
 unfold eI lL sL;rw[decide_eq_false_iff_not,Bool.not_eq_true',decide_eq_false_iff_not];omega
theorem YW: ∀c:UInt8,c.toNat=58->dU c=false:=by
 intro c h;unfold dU kH eG dR aQ;simp only[Bool.or_eq_false_iff,decide_eq_false_iff_not];omega
theorem Pp {c:UInt8} (h:c.toNat=58):c=58:=UInt8.toNat_inj.1 h
theorem DZ {l n r:Bs} (h:iM l=some (n,r)): ∃a m:Bs,l=m++58::r/\n=m.map fH/\(∀c∈m,dU c=true)/\m.head? =some (a.headD 0)/\kH (a.headD 0)=true:=by
 unfold iM at h;split at h
 .cases h
 .next c q=>
  split at h
  .next hl=>
   split at h
   .next d q2 hd=>
    split at h
    .next h58=>
     cases h;have h1:(c::q).takeWhile dU++(c::q).dropWhile dU=c::q:=Wv;rw[hd,Pp h58]at h1;refine⟨[c],(c::q).takeWhile dU,h1.symm,rfl,λx hx=>List.all_eq_true.1 (List.all_takeWhile (p:=dU) (l:=c::q)) x hx, ?_,hl⟩;rw[jo (by unfold dU;rw[hl];rfl)];rfl
    .cases h
   .cases h
  .cases h
theorem U5 {m r:Bs} {c:UInt8} (hg: ∀x∈m,dU x=true) (hc:m.head? =some c) (hl:kH c=true):iM (m++58::r)=some (m.map fH,r):=by
 cases m with
 |nil=>cases hc
 |cons a q=>
  cases hc;have h1:(c::q++58::r).takeWhile dU=c::q:=by
   rw[List.takeWhile_append_of_pos hg,jn (by rw[YW 58 rfl];decide),List.append_nil]
  have h2:(c::q++58::r).dropWhile dU=58::r:=by
   rw[List.dropWhile_append_of_pos hg,lF (by rw[YW 58 rfl];decide)]
  show(if kH c=true then _ else _)=_;rw[if_pos hl];show(match (c::q++58::r).dropWhile dU with|d::q2=>if d.toNat=58 then some (((c::q++58::r).takeWhile dU).map fH,q2)else none|[]=>none)=_;rw[h2,h1];rfl
theorem N5 {s n r:Bs} (h:iM (iE s)=some (n,r)):IG (n++58::r):=by
 obtain⟨a,m,h1,rfl,hg,hh,hl⟩:=DZ h;have hC:=ZC s;rw[h1]at hC;refine⟨λc hc=> ?_,λc hc=> ?_,λc hc=> ?_⟩
 .rcases List.mem_append.1 hc with hc|hc
  .obtain⟨x,hx,rfl⟩:=List.mem_map.1 hc;exact(XI (MG (hg x hx))).2
  .exact hC.no c (List.mem_append_right _ hc)
 .cases m with
  |nil=>cases hh
  |cons x q=>
   cases hc;exact(XI (MG (hg x List.mem_cons_self))).1
 .refine hC.lst c ?_;rw[List.getLast?_append]at hc ⊢;rw[List.getLast?_cons]at hc ⊢;exact hc
theorem U6 {l n r:Bs} (h:iM l=some (n,r)) (v:Bs):iM (n++58::v)=some (n,v):=by
 obtain⟨a,m,h1,rfl,hg,hh,hl⟩:=DZ h;have hm:m.map fH=(m.map fH).map fH:=by
  rw[List.map_map];exact List.map_congr_left λx _=>Ie.symm
 have:=U5 (m:=m.map fH) (r:=v) (c:=fH (a.headD 0)) (λx hx=>by
  obtain⟨y,hy,rfl⟩:=List.mem_map.1 hx;exact MG (hg y hy)) (by rw[List.head?_map,hh];rfl) (by unfold kH;rw[MF hl];rfl)
 rw[<-hm]at this;exact this
theorem M7 {s n r:Bs} (h:iM (iE s)=some (n,r)):iM (n++58::r)=some (n,r):=U6 h r
theorem XR {p:aO} {s a:Bs} (h:lZ p s=some a):iE a=a/\lZ p a=some a/\match iM a with
  |some (n,_)=>xE p n=true
  |none=>(p.rel&&uM a)=true:=by
 unfold lZ at h;split at h
 .next n r hs=>
  split at h
  .next hp=>
   cases h;have hc:=(N5 hs).eq;have ht:=M7 hs;refine⟨hc, ?_, ?_⟩
   .unfold lZ;rw[hc,ht];simp only;rw[if_pos hp]
   .rw[ht];exact hp
  .cases h
 .next hs=>
  split at h
  .next hp=>
   cases h;have hc:=(ZC s).eq;refine⟨hc, ?_, ?_⟩
   .unfold lZ;rw[hc,hs];simp only;rw[if_pos hp]
   .rw[hs];exact hp
  .cases h
open Go.RowKit Go.Shelf
attribute [local go_sem] Oper.semAt_some
def fR (c:UInt8):UInt8:=if dR c then c+32 else c
def bO (s:Bs):Bs:=s.map fR
def kU (c:UInt8):Bool:=dR c||eG c
theorem Hx (c:UInt8):fR c=fH c:=by unfold fR fH;cases dR c<;>rfl
theorem Ib (l:Bs):bO l=l.map fH:=by unfold bO;exact List.map_congr_left λc _=>Hx c
def mD (W:World) (nb:Nat) (e:TypeId) (l:Bs):Prop:=
 ∃C m,W.heap[nb]? =some (.cells C e (m,m+1))/\l.length<=m/\l.length<=C.size/\ ∀k (h:k<l.length),C[k]? =some (bv l[k])
theorem mD.cell {W:World} {nb:Nat} {e:TypeId} {l:Bs} (h:mD W nb e l) (k:Nat) (hk:k<l.length):W.cell? ⟨nb,k,none⟩=some (.int .u8 (l[k].toNat:Int)):=by
 obtain⟨C,m,h1,_,_,h2⟩:=h;simp[World.cell?,h1,h2 k hk,bv]
theorem mD.free {W:World} {nb:Nat} {e:TypeId} {l:Bs} (h:mD W nb e l) (k:Nat) (hk:k<l.length):W.frozen? ⟨nb,k,none⟩=false:=by
 obtain⟨C,m,h1,h3,_,_⟩:=h;simp[World.frozen?,h1];omega
theorem mD.lt {W:World} {nb:Nat} {e:TypeId} {l:Bs} (h:mD W nb e l):nb<W.heap.size:=by
 obtain⟨C,m,h1,_⟩:=h;exact(Array.getElem?_eq_some_iff.1 h1).1
theorem mD.set {W:World} {nb:Nat} {e:TypeId} {l:Bs} (h:mD W nb e l) (k:Nat) (hk:k<l.length) (c:UInt8):mD (W.setCell ⟨nb,k,none⟩ (bv c)) nb e (l.set k c):=by
 have hl:=h.lt;obtain⟨C,m,h1,h2,h3,h4⟩:=h;refine⟨C.setIfInBounds k (bv c),m, ?_,by simpa using h2,by simpa using h3,λj hj=> ?_⟩
 .unfold World.setCell;simp only[Array.getElem?_modify,if_true,h1,Option.map_some];rfl
 .rw[List.length_set]at hj;rw[Array.getElem?_setIfInBounds];by_cases hjk:k=j
  .subst hjk;simp;omega
  .rw[if_neg hjk,h4 j hj];simp[hjk]
theorem mD.new (W:World) (e:TypeId) (s:ByteArray):mD (W.grow (kZ W e s)) W.heap.size e s.data.toList:=by
 have hb:(W.grow (kZ W e s)).heap[W.heap.size]? =some (.cells (nP W e s) e ((nP W e s).size,(nP W e s).size+1)):=by
  simp only[World.grow];rw[Array.getElem?_append_right (bA _),Nat.sub_self];rfl
 have hc: ∀k (h:k<s.data.toList.length),(nP W e s)[k]? =some (bv s.data.toList[k]):=λk hk=>by
  have h:=CU W e s k (by rw[<-cU];exact hk);unfold World.cell? at h;have h3:(nP W e s)[k]? =some (.int .u8 ((s[k]'(by rw[<-cU];exact hk)).toNat:Int)):=by simpa[hb]using h
  exact h3
 have hsz:s.data.toList.length<=(nP W e s).size:=by
  rcases Nat.eq_zero_or_pos s.data.toList.length with h0|h0
  .omega
  .have:=hc (s.data.toList.length-1) om;have:=(Array.getElem?_eq_some_iff.1 this).1;omega
 exact⟨_,_,hb,hsz,hsz,hc⟩
theorem mD.rd {W:World} {nb:Nat} {e:TypeId} {l:Bs} (h:mD W nb e l) (c:Nat) (hm:l.length<=9223372036854775807):Rd W (aF (some ⟨nb,0,none⟩) l.length c) l.length 1 (l.map bv):=
 ⟨by simp,hm,_,c,rfl,λ_=>⟨nb,0,rfl,h.lt,λj u hu=>by
  rw[List.getElem?_map]at hu;obtain⟨hj,_⟩:=List.getElem?_eq_some_iff.1 (show l[j]? =some l[j]!from by
   cases hq:l[j]? with
   |none=>rw[hq]at hu;cases hu
   |some x=>simp[List.getElem!_eq_getElem?_getD,hq])
  rw[eV hj]at hu;simp at hu;rw[Nat.zero_add,h.cell j hj,<-hu];rfl⟩⟩
theorem J8 (c:UInt8) (h:dR c=true):bits .or .u8 c.toNat 32=((fR c).toNat:Int):=by
 have h0: ∀n:Fin 256,(65<=n.val/\n.val<=90)->bits .or .u8 ((n.val:Nat):Int) 32=((n.val+32:Nat):Int):=by decide+kernel
 have h1:=h;simp only[dR,decide_eq_true_eq]at h1;have h2:(fR c).toNat=c.toNat+32:=by
  unfold fR;rw[if_pos h,UInt8.toNat_add];simp;omega
 rw[h2];exact h0 ⟨c.toNat,c.toNat_lt⟩ h1
theorem Qv (c:UInt8):oF c.toNat 65 90=dR c:=by unfold oF dR;rw[bK];simp;omega
theorem Ia (S:Bs) (k:Nat) (h:k<S.length):(bO (S.take k)++S.drop k).set k (fR S[k])=bO (S.take (k+1))++S.drop (k+1):=by
 have h1:(bO (S.take k)).length=k:=by simp[bO];omega
 rw[List.set_append_right _ _ om,h1,Nat.sub_self,iK h,aT,jG h,bO,bO,List.map_append,List.append_assoc];rfl
theorem VK (S:Bs) (k:Nat) (h:k<S.length) (h2:k<(bO (S.take k)++S.drop k).length):(bO (S.take k)++S.drop k)[k]=S[k]:=by
 have h1:(bO (S.take k)).length=k:=by simp[bO];omega
 rw[List.getElem_append_right om];simp[h1]
theorem Ic (S:Bs) (k:Nat):(bO (S.take k)++S.drop k).length=S.length:=by simp[bO];omega
theorem ME (s:ByteArray) (w:World) (hm:s.size<=140737488355328):Calls aE 125 #[aD s] w (aH (aD ⟨(bO s.data.toList).toArray⟩) w):=by
 have hlen:=cU s;have HB:=aA (λW=>mD.new W 5 s);have HL:=aA hlen;have hcv: ∀W:World,(convert 9 130 (aD s)).run aE W= .ok (aF (some ⟨W.heap.size,0,none⟩) s.size (grownCap W s.size 0 5)) (W.grow (kZ W 5 s)):=λW=>AC W _ _ _ s dH pE jO;go_enter Tryz.func125,Tryz.ntmps125;go_wp2_with fail
 go_loopw [10] (λi wr=> ∃k:Nat,k<=s.size/\i=aB aC k/\Hid (Below w.heap.size w wr)/\Hid (mD wr w.heap.size 5 (bO (s.data.toList.take k)++s.data.toList.drop k))) (λi _=>s.size-(intOf i).toNat)
 case atStart=>exact⟨0,by omega,rfl,dG _ _,by show mD _ _ _ _;have:=HB.out w;simpa[bO]using this⟩
 case round=>
  obtain⟨k,hk,rfl,HW,HK⟩:=hrel;by_cases hlt:k<s.size
  .have hk2:k<s.data.toList.length:=by rw[HL.out];exact hlt
   have hk3:k<(bO (s.data.toList.take k)++s.data.toList.drop k).length:=by rw[Ic];exact hk2
   have c0:=HK.out.cell k hk3;rw[VK _ _ hk2]at c0;have f0:=HK.out.free k hk3;have HS:=aA (HK.out.set k hk3 (fR s.data.toList[k]));have HS1:=aA (Ia s.data.toList k hk2);have HU:=aA (J8 s.data.toList[k]);have HU0:Hid (dR s.data.toList[k]=false->fR s.data.toList[k]=s.data.toList[k]):=λh=>by unfold fR;rw[h];rfl
   have HX:Hid (fR s.data.toList[k]=s.data.toList[k]->mD wr w.heap.size 5 (bO (s.data.toList.take (k+1))++s.data.toList.drop (k+1))):=λh=>by
    rw[<-HS1.out,h];have:=HK.out;rwa[<-VK _ _ hk2 hk3,List.set_getElem_self]
   have HBt:Hid (∀W,Calls aE 107 #[.int .u8 s.data.toList[k].toNat,.int .u8 65,.int .u8 90] W λe w'=>e=aL (aI (dR s.data.toList[k]))/\W=w'):=λW=>Qv _ ▸ vB _ 65 90 W;have hlt1:w.heap.size<wr.heap.size:=HK.out.lt;clear hk3;generalize s.data.toList[k]=c at*;cases hu:dR c
   .have HN:=aA (HX.out (HU0.out hu));have HBt2:=aA (show ∀W,Calls aE 107 #[.int .u8 c.toNat,.int .u8 65,.int .u8 90] W λe w'=>e=aL (aI false)/\W=w' from hu ▸ HBt.out);clear hu;go_wp2_with(go_at_call 107;(with_reducible refine zQ (HBt2.out _) ?_))
    go_roundw
    case rel=>exact⟨k+1,by omega,by go_num,HW,HN⟩
    case measure=>simp[intOf];omega
   .have hbits:=HU.out hu;have HBt2:=aA (show ∀W,Calls aE 107 #[.int .u8 c.toNat,.int .u8 65,.int .u8 90] W λe w'=>e=aL (aI true)/\W=w' from hu ▸ HBt.out);clear hu;go_wp2_with(go_at_call 107;(with_reducible refine zQ (HBt2.out _) ?_))
    go_roundw
    case rel=>exact⟨k+1,by omega,by go_num,aA (HW.out.setCell (by simp) _),by have:=HS.out;rw[HS1.out]at this;exact this⟩
    case measure=>simp[intOf];omega
  .have hk2:k=s.size:=by omega
   subst hk2;have hend:Rd wr (aF (some ⟨w.heap.size,0,none⟩) s.size (grownCap w s.size 0 5)) (bO s.data.toList).length 1 ((bO s.data.toList).map bv):=by
    have:=HK.out;rw[<-HL.out,List.take_length,List.drop_length,List.append_nil]at this;have h2:=mD.rd this (grownCap w s.size 0 5) (by simp[bO];have:=HL.out;simp at this;omega);rw[show(bO s.data.toList).length=s.size by rw[bO,List.length_map,HL.out]]at h2 ⊢;exact h2
   have hcv2:=hend.str 130 9 5 pE jO dH;clear hend;go_wp2_with fail
   go_ret;exact aH.of rfl HW.out
open Go.Lib
def iS (r:Nat):Bool:=decide (r<=32)
theorem SN (n b0 b1 b2 b3:Nat) (h:128<=b0):33<=(decodeN n b0 b1 b2 b3).1:=by
 unfold decodeN;repeat' split
 all_goals(simp only;omega)
theorem NU {c:UInt8} (h: ¬c.toNat<128):eI c=false:=by unfold eI;rw[decide_eq_false_iff_not];omega
theorem ZK {r:Nat} (h:33<=r):iS r=false:=by unfold iS;rw[decide_eq_false_iff_not];omega
theorem Qz (s:ByteArray) (pos:Nat):iS (Utf8.decode s pos).1=eI (s.data.toList.getD pos 0)/\(eI (s.data.toList.getD pos 0)=true->(Utf8.decode s pos).2=1):=by
 rw[decode_N];by_cases h:(s.data.toList.getD pos 0).toNat<128
 .rw[decodeN_ascii _ _ _ _ _ h];exact⟨rfl,λ_=>rfl⟩
 .rw[NU h,ZK (SN _ _ _ _ _ om)];exact⟨rfl,λh=>by cases h⟩
theorem Kw {l:Bs} {i:Nat} (h:i<l.length):l.drop i=l.getD i 0::l.drop (i+1):=by
 rw[iK h];congr 1;simp[List.getD,h]
theorem VT (s:ByteArray): ∀(f pos:Nat),s.size<=pos+f->
  (if idxFuncFrom iS false s f pos= -1 then []else s.data.toList.drop (idxFuncFrom iS false s f pos).toNat)=(s.data.toList.drop pos).dropWhile eI
 |0,pos,h=>by
  have:s.data.toList.drop pos=[]:=iG (by rw[<-size_eq];omega);simp[idxFuncFrom,this]
 |f+1,pos,h=>by
  by_cases hp:pos<s.size
  .obtain⟨h1,h2⟩:=Qz s pos;have hd:s.data.toList.drop pos=s.data.toList.getD pos 0::s.data.toList.drop (pos+1):=Kw (by rw[<-size_eq];exact hp);cases hb:eI (s.data.toList.getD pos 0)with
   |true=>
    simp only[idxFuncFrom,if_pos hp,h1,hb,Bool.true_eq_false,if_false,h2 hb];rw[hd,nM (p:=eI) (a:=s.data.toList.getD pos 0) hb];exact VT s f _ om
   |false=>
    simp only[idxFuncFrom,if_pos hp,h1,hb,if_true];rw[if_neg om,Int.toNat_natCast,hd,lF (p:=eI) (a:=s.data.toList.getD pos 0) (by rw[hb];decide)]
  .have:s.data.toList.drop pos=[]:=iG (by rw[<-size_eq];omega);rw[this,idxFuncFrom_end _ _ s _ _ hp,if_pos rfl];rfl
theorem L8 (s:ByteArray):(trimLeftF iS s).data.toList=s.data.toList.dropWhile eI:=by
 have h:=VT s s.size 0 om;rw[fJ]at h;rw[<-h];unfold trimLeftF idxFunc;split
 .rfl
 .rw[extract_data,fI (by rw[bL,<-size_eq];exact bA _)]
theorem Io (l:Bs) (i:Nat) (hi:0<i) (hil:i<=l.length):iS (decodeLastL (l.take i)).1=eI (l.getD (i-1) 0)/\(eI (l.getD (i-1) 0)=true->(decodeLastL (l.take i)).2=1):=by
 rcases last_cases l i hi hil with⟨ha,hd⟩|⟨ha,hd⟩|⟨ha,st,hst,hd,hsum⟩
 .rw[hd];exact⟨rfl,λ_=>rfl⟩
 .rw[hd,NU om];exact⟨rfl,λh=>by cases h⟩
 .rw[hd,NU om];refine⟨?_,λh=>by cases h⟩;rw[decodeL_N,getD_dropU,Nat.add_zero,getD_takeU l i st hst]at hsum ⊢;by_cases hb:(l.getD st 0).toNat<128
  .rw[decodeN_ascii _ _ _ _ _ hb]at hsum;have:st=i-1:=by simp only at hsum;omega
   rw[this]at hb;omega
  .exact ZK (SN _ _ _ _ _ om)
theorem P7 {l:Bs} {i:Nat} (hi:0<i) (hil:i<=l.length):l.take i=l.take (i-1)++[l.getD (i-1) 0]:=by
 obtain⟨j,rfl⟩: ∃j,i=j+1:=⟨i-1,by omega⟩;rw[Nat.add_sub_cancel,List.take_add_one];congr 1;simp[List.getD,show j<l.length by omega]
theorem TC (s:ByteArray): ∀(f i:Nat),i<=f->i<=s.data.toList.length->OpenAt s.data.toList i->
  ((s.data.toList.take i).reverse.dropWhile eI).reverse=s.data.toList.take (if 0<=lastIdxFuncFrom iS false s f i then(lastIdxFuncFrom iS false s f i).toNat+(decodeL (s.data.toList.drop (lastIdxFuncFrom iS false s f i).toNat)).2 else 0)
 |0,i,hf,_,_=>by
  obtain rfl:i=0:=by omega
  simp[lastIdxFuncFrom]
 |f+1,i,hf,hil,ho=>by
  by_cases hi:0<i
  .have hlen:(s.data.toList.take i).length=i:=by rw[bZ];omega
   have hw:=decodeLastL_width (s.data.toList.take i) om;rw[hlen]at hw;obtain⟨h1,h2⟩:=Io s.data.toList i hi hil;have hrev:(s.data.toList.take i).reverse=s.data.toList.getD (i-1) 0::(s.data.toList.take (i-1)).reverse:=by rw[P7 hi hil,yf];rfl
   cases hb:eI (s.data.toList.getD (i-1) 0)with
   |true=>
    simp only[lastIdxFuncFrom,if_pos hi,h1,hb,Bool.true_eq_false,if_false,h2 hb];rw[hrev,nM (p:=eI) (a:=s.data.toList.getD (i-1) 0) hb];refine TC s f _ om om  (.inr λhc=> ?_);unfold eI at hb;rw[decide_eq_true_eq]at hb;omega
   |false=>
    simp only[lastIdxFuncFrom,if_pos hi,h1,hb,if_true];rw[if_pos om,Int.toNat_natCast,fw_width _ i hi hil ho,Nat.sub_add_cancel hw.2,hrev,lF (p:=eI) (a:=s.data.toList.getD (i-1) 0) (by rw[hb];decide),<-hrev,xw]
  .obtain rfl:i=0:=by omega
   rw[lastIdxFuncFrom_zero];simp
theorem VV (s:ByteArray): ∀(f i:Nat),i<=s.size->lastIdxFuncFrom iS false s f i= -1\/(0<=lastIdxFuncFrom iS false s f i/\lastIdxFuncFrom iS false s f i<i)
 |0,_,_=> .inl rfl
 |f+1,i,hi=>by
  unfold lastIdxFuncFrom;split
  .rename_i h0;have hw:=decodeLastL_width (s.data.toList.take i) (by rw[bZ,<-size_eq];omega);rw[bZ,<-size_eq,Nat.min_eq_left hi]at hw;split
   .exact .inr ⟨by omega,by omega⟩
   .rcases VV s f (i-(decodeLastL (s.data.toList.take i)).2) om with h|h
    .exact .inl h
    .exact .inr ⟨h.1,by omega⟩
  .exact .inl rfl
theorem L7 (s:ByteArray):(trimRightF iS s).data.toList=(s.data.toList.reverse.dropWhile eI).reverse:=by
 have h:=TC s s.size s.size (bA _) (by rw[<-size_eq];exact bA _) (.inl (size_eq s));rw[fI (by rw[<-size_eq];exact bA _)]at h;rw[h];unfold trimRightF rightEndF lastIdxFunc;rw[extract_data,fJ,Nat.sub_zero];congr 1;split
 .rename_i h0;congr 2;rcases VV s s.size s.size (bA _)with hm|hlt
  .omega
  .have hx:s.extract (lastIdxFuncFrom iS false s s.size s.size).toNat s.size=⟨(s.data.toList.drop (lastIdxFuncFrom iS false s s.size s.size).toNat).toArray⟩:=by
    rw[extract_eq,fI (by rw[bL,<-size_eq];exact bA _)]
   have hxs:(⟨(s.data.toList.drop (lastIdxFuncFrom iS false s s.size s.size).toNat).toArray⟩:ByteArray).size≠0:=by
    rw[size_eq];simp only[bL];rw[<-size_eq];omega
   rw[hx];unfold decodeGoB decodeL;rw[if_neg hxs]
 .rfl
theorem M2 (s:ByteArray):(trimF iS s).data.toList=qV s.data.toList:=by
 unfold trimF qV;rw[L7,L8]
open Go.RowKit
attribute [local go_sem] Oper.semAt_some
theorem XJ (c:UInt8) (w:World):Calls aE 123 #[.int .u8 c.toNat] w λe w'=>e=aL (aI (dU c))/\w=w':=by
 have e1:((c.toNat:Int)==43)=decide (c.toNat=43):=by rw[bK];simp;omega
 have e2:((c.toNat:Int)==45)=decide (c.toNat=45):=by rw[bK];simp;omega
 have e3:((c.toNat:Int)==46)=decide (c.toNat=46):=by rw[bK];simp;omega
 have HE:Hid (dU c=((dR c||eG c)||aQ c||(decide (c.toNat=43)||(decide (c.toNat=45)||decide (c.toNat=46))))):=by
  show _=_;unfold dU kH;rw[Bool.or_comm (eG c)];congr 1;rw[bK];simp
 have HL:=aA (λW=>MJ c W);have HD:=aA (λW=>qD c W);generalize dU c=G at*;generalize(dR c||eG c)=L at*;generalize aQ c=D at*;generalize decide (c.toNat=43)=b1 at*;generalize decide (c.toNat=45)=b2 at*;generalize decide (c.toNat=46)=b3 at*;cases L;rotate_left
 .go_enter Tryz.func123,Tryz.ntmps123;go_wp2_with(first|(go_at_call 124;(with_reducible refine zQ (HL.out _) ?_))|(go_at_call 109;(with_reducible refine zQ (HD.out _) ?_)))
  go_ret;exact⟨by rw[HE.out];rfl,rfl⟩
 cases D;rotate_left
 .go_enter Tryz.func123,Tryz.ntmps123;go_wp2_with(first|(go_at_call 124;(with_reducible refine zQ (HL.out _) ?_))|(go_at_call 109;(with_reducible refine zQ (HD.out _) ?_)))
  go_ret;exact⟨by rw[HE.out];rfl,rfl⟩
 cases b1<;>cases b2;all_goals
  go_enter Tryz.func123,Tryz.ntmps123;go_wp2_with(first|(go_at_call 124;(with_reducible refine zQ (HL.out _) ?_))|(go_at_call 109;(with_reducible refine zQ (HD.out _) ?_)))
  go_ret;exact⟨by rw[HE.out];rfl,rfl⟩
theorem Hz {c:UInt8} (h:kH c=true):dU c=true:=by unfold dU;rw[h];rfl
theorem PO (p:UInt8->Bool) (l:Bs):l.dropWhile p=l.drop (l.takeWhile p).length/\l.takeWhile p=l.take (l.takeWhile p).length:=by
 have h:=Wv (p:=p) (l:=l);constructor
 .conv=>rhs;arg 2;rw[<-h]
  rw[List.drop_left]
 .conv=>rhs;arg 2;rw[<-h]
  rw[List.take_left]
theorem V7 (l:Bs) (h:(l.takeWhile dU).length=0\/(l.takeWhile dU).length=l.length):iM l=none:=by
 unfold iM;cases l with
 |nil=>rfl
 |cons c r=>
  by_cases hl:kH c=true
  .simp only[hl,if_true];have hd:=(PO dU (c::r)).1;rcases h with h|h
   .rw[jo (Hz hl)]at h;simp at h
   .rw[h,List.drop_length]at hd;rw[hd]
  .simp only[hl];rfl
theorem U9 (l:Bs) (K:Nat) (hK:(l.takeWhile dU).length=K) (h:K<l.length) (h0:0<K):iM l=if(l[K].toNat=58/\kH (l[0]' om)=true)then some ((l.take K).map fH,l.drop (K+1))else none:=by
 unfold iM;cases l with
 |nil=>simp at h
 |cons c r=>
  obtain⟨hd,ht⟩:=PO dU (c::r);rw[hK]at hd ht;rw[iK h]at hd;by_cases hl:kH c=true
  .simp only[hl,if_true,hd];by_cases h58:(c::r)[K].toNat=58
   .rw[if_pos h58,if_pos ⟨h58,by simpa using hl⟩,ht]
   .rw[if_neg h58,if_neg (λh=>h58 h.1)]
  .dsimp only;rw[if_neg hl,if_neg (λh=>hl h.2)]
def KI (s:ByteArray):Option (Bs × Bs)->Value
 |none=> aN #[aD ⟨#[]⟩,aD s,aI false]
 |some x=> aN #[aD ⟨x.1.toArray⟩,aD ⟨x.2.toArray⟩,aI true]
theorem K7 {p:UInt8->Bool} {c:UInt8} {r:Bs} (h:p c=false):((c::r).takeWhile p).length=0:=by rw[jn (by simp[h])];rfl
theorem K8 {p:UInt8->Bool} {c:UInt8} {r:Bs} (h:p c=true):((c::r).takeWhile p).length=(r.takeWhile p).length+1:=by rw[jo h];rfl
theorem RS (s:ByteArray) (w:World) (hm:s.size<=140737488355328):Calls aE 72 #[aD s] w (aH (KI s (iM s.data.toList)) w):=by
 have hmx:=bX;obtain⟨K,hK⟩: ∃K,(s.data.toList.takeWhile dU).length=K:=⟨_,rfl⟩;have HK0:Hid (K=0+((s.data.toList.drop 0).takeWhile dU).length):=by show _=_;rw[fJ,hK];omega
 have hlen:s.data.toList.length=s.size:=cU s;have hKs:K<=s.size:=by rw[<-hK,<-hlen];exact(List.takeWhile_prefix _).length_le
 have HN:=aA (V7 s.data.toList);have HS:=aA (U9 s.data.toList K hK);obtain⟨R,hR⟩: ∃R,iM s.data.toList=R:=⟨_,rfl⟩;rw[hR]at HN HS ⊢;rw[hK]at HN;have HLn:=aA hlen;clear hK hR hlen;go_enter Tryz.func72,Tryz.ntmps72;go_wp2_with fail
 go_loopw [5] (λi wr=> ∃k:Nat,k<=s.size/\i=aB aC (k:Nat)/\Hid (K=k+((s.data.toList.drop k).takeWhile dU).length)/\wr=w) (λi _=>s.size-(intOf i).toNat)
 case atStart=>exact⟨0,by omega,rfl,HK0.out,rfl⟩
 case round=>
  clear HK0;obtain⟨k,hk,rfl,HK,rfl⟩:=hrel;by_cases hgo: ∃h:k<s.size,dU s[k]=true
  .obtain⟨hlt,hg⟩:=hgo;have HT:Hid (K=k+1+((s.data.toList.drop (k+1)).takeWhile dU).length):=by
    show _=_;rw[HK.out,oB s k hlt,K8 hg];omega
   have HG:=aA (λW=>hg ▸ XJ s[k] W);clear HK hg HN HS;go_wp2_with(go_at_call 123;(with_reducible refine zQ (HG.out _) ?_))
   go_roundw
   case rel=>exact⟨k+1,by omega,by go_num,HT.out,by first|rfl|trivial⟩
   case measure=>simp[intOf];omega
  .have hkK:k=K:=by
    have h1:=HK.out;by_cases hlt:k<s.size
    .have hg:dU s[k]=false:=by
      cases hq:dU s[k]
      .rfl
      .exact absurd ⟨hlt,hq⟩ hgo
     rw[oB s k hlt,K7 hg]at h1;omega
    .rw[uW s k om]at h1;simp at h1;omega
   subst hkK;clear HK;by_cases hlt:k<s.size
   .have hg:dU s[k]=false:=by
     cases hq:dU s[k]
     .rfl
     .exact absurd ⟨hlt,hq⟩ hgo
    have HG:=aA (λW=>hg ▸ XJ s[k] W);clear hgo hg;have hkl:k<s.data.toList.length:=by rw[HLn.out];exact hlt
    by_cases h0:k=0
    .have HR:Hid (R=none):=HN.out (.inl h0);have b0:((k:Int)==0)=true:=by rw[h0];rfl
     clear HN HS h0;go_wp2_with(go_at_call 123;(with_reducible refine zQ (HG.out _) ?_))
     go_ret3
     exact aH.of (by rw[HR.out];rfl) aG
    .have HSx:=aA (HS.out hkl om);have b0:((k:Int)==0)=false:=by simp;omega
     have b1:((k:Int)==(s.size:Int))=false:=by simp;omega
     have hz:0<s.size:=by omega
     have e58:((s[k].toNat:Int) !=58)= !decide (s[k].toNat=58):=by rw[bK];simp;omega
     have HLt:=aA (λW=>MJ (s[0]'hz) W);have hsk:s.data.toList[k]=s[k]:=rfl;have hs0:s.data.toList[0]' om =s[0]'hz:=rfl;have HSy:Hid (R=if(s[k].toNat=58/\(dR (s[0]'hz)||eG (s[0]'hz))=true)then some ((s.data.toList.take k).map fH,s.data.toList.drop (k+1))else none):=by
      show _=_;rw[HSx.out,hsk,hs0];unfold kH;rw[Bool.or_comm]
     clear HN HS HSx hsk hs0;by_cases h58:s[k].toNat=58;rotate_left
     .have HR:Hid (R=none):=by show _=_;rw[HSy.out,if_neg (λh=>h58 h.1)]
      rw[decide_eq_false h58]at e58;clear HSy h58 h0;go_wp2_with(go_at_call 123;(with_reducible refine zQ (HG.out _) ?_))
      go_ret3
      exact aH.of (by rw[HR.out];rfl) aG
     rw[decide_eq_true h58]at e58;cases hl:(dR (s[0]'hz)||eG (s[0]'hz))with
     |false=>
      have HR:Hid (R=none):=by show _=_;rw[HSy.out,hl,if_neg (λh=>by cases h.2)]
      rw[hl]at HLt;clear HSy h58 h0 hl;go_wp2_with(first|(go_at_call 123;(with_reducible refine zQ (HG.out _) ?_))|(go_at_call 124;(with_reducible refine zQ (HLt.out _) ?_)))
      go_ret3
      exact aH.of (by rw[HR.out];rfl) aG
     |true=>
      have HR:Hid (R=some ((s.data.toList.take k).map fH,s.data.toList.drop (k+1))):=by show _=_;rw[HSy.out,hl,if_pos ⟨h58,rfl⟩]
      rw[hl]at HLt;have HLo:=aA (λW=>ME (s.extract 0 k) W (by rw[ByteArray.size_extract];omega));have HV:Hid (aN #[aD ⟨(bO (s.extract 0 k).data.toList).toArray⟩,aD (s.extract (k+1) s.size),aI true]=KI s (some ((s.data.toList.take k).map fH,s.data.toList.drop (k+1)))):=by
       show _=_;have h1:(s.extract 0 k).data.toList=s.data.toList.take k:=by rw[Lib.extract_data];simp
       have h2:s.extract (k+1) s.size=⟨(s.data.toList.drop (k+1)).toArray⟩:=yB (by rw[Lib.extract_data,fI (by rw[bL,HLn.out];omega)]);rw[h1,h2,Ib];rfl
      have hw1:aC.wrap ((k:Int)+1)=((k+1:Nat):Int):=by rw[IntKind.wrap_i64];omega
      clear HSy h58 h0 hl;go_upto_region 6 with(first|(go_at_call 123;(with_reducible refine zQ (HG.out _) ?_))|(go_at_call 124;(with_reducible refine zQ (HLt.out _) ?_)))
      refine qS 9 [(0,true),(1,true),(2,true),(4,true),(5,true),(6,true),(7,true),(3,false),(8,true)] (λ_=>True) hmx kr kr kr dc  rfl (λc a d v w h=>by first|exact h|(obtain⟨x,y⟩:=(h:_/\_);cases d<;>exact⟨x,y⟩)) kr trivial ?_;refine eM (v:= aD s) 39 rfl rfl rfl ee ?_;simp only[Act.put,aU,aV,aT];refine eM (v:= aB aC (k:Nat)) 40 rfl rfl rfl ee ?_;simp only[Act.put,aU,aV,aT];refine eM (v:= aD (s.extract 0 k)) 41 rfl rfl rfl (λW hW=>by simp[execOp,go_sem];omega) ?_;simp only[Act.put,aU,aV,aT];refine eM (v:= aD s) 43 rfl rfl rfl ee ?_;simp only[Act.put,aU,aV,aT];refine eM (v:= aB aC (k:Nat)) 44 rfl rfl rfl ee ?_;simp only[Act.put,aU,aV,aT];refine eM (v:= aB aC ((k+1:Nat):Int)) 45 rfl rfl rfl (λW hW=>by simp[execOp,go_sem,hw1]) ?_;simp only[Act.put,aU,aV,aT];refine eM (v:= aD (s.extract (k+1) s.size)) 46 rfl rfl rfl (λW hW=>by simp[execOp,go_sem];omega) ?_;simp only[Act.put,aU,aV,aT];refine cC rfl rfl λKc hKc=> ?_;unfold Oper.wp;simp[execOp,go_sem];refine(HLo.out _).mono ?_;rintro e W1 ⟨rfl,X1,rfl⟩;show Kc _ _;apply hKc;refine⟨trivial, ?_⟩;refine eM (v:= aD ⟨(bO (s.extract 0 k).data.toList).toArray⟩) 2 rfl rfl rfl ee ?_;simp only[Act.put,aU,aV,aT];simp only[dD,List.drop];go_wp2_with fail
      go_ret3
      exact aH.of (by rw[HR.out];exact HV.out) aG
   .have hkn:k=s.size:=by omega
    have HR:Hid (R=none):=HN.out (.inr (by rw[HLn.out];exact hkn));have b1:((k:Int)==(s.size:Int))=true:=by rw[hkn];simp
    have b2:decide ((k:Int)<s.size)=false:=by simp;omega
    clear HN HS hgo hkn;by_cases h0:k=0
    .have b0:((k:Int)==0)=true:=by rw[h0];rfl
     clear h0;go_wp2_with fail
     go_ret3
     exact aH.of (by rw[HR.out];rfl) aG
    .have b0:((k:Int)==0)=false:=by simp;omega
     clear h0;go_wp2_with fail
     go_ret3
     exact aH.of (by rw[HR.out];rfl) aG
open Go.RowKit
attribute [local go_sem] Oper.semAt_some
def uC (s:ByteArray) (k:Nat):Bool:=match s.data.toList[k]? with
 |some c=>AY c
 |none=>false
theorem Q9 (s:ByteArray) (B k:Nat) (w:World) (hc:w.cell? ⟨B,0,none⟩=some (aD s)) (_hB:B<w.heap.size) (_hk:k<=1) (_hm:s.size<=140737488355328):Calls aE 126 #[aB aC (k:Nat),aM (some ⟨B,0,none⟩)] w (aH (aI (uC s k)) w):=by
 have hmx:=bX;unfold uC;by_cases hlt:k<s.size
 .have hg:s.data.toList[k]? =some (s[k]'hlt):=eV (by rw[cU];exact hlt);rw[hg];have e1:((s[k].toNat:Int)==47)=decide (s[k].toNat=47):=by rw[bK];simp;omega
  have e2:((s[k].toNat:Int)==92)=decide (s[k].toNat=92):=by rw[bK];simp;omega
  have HE:Hid (AY s[k]=(decide (s[k].toNat=47)||decide (s[k].toNat=92))):=by show _=_;unfold AY;rw[bK];simp
  dsimp only;rw[HE.out];clear HE hg;generalize decide (s[k].toNat=47)=b1 at*;generalize decide (s[k].toNat=92)=b2 at*;have hb1:decide ((k:Int)<s.size)=true:=by simp;omega
  cases b1;all_goals
   go_enter Tryz.func126,Tryz.ntmps126;go_wp2_with fail
   go_ret;exact aH.of rfl aG
 .have hg:s.data.toList[k]? =none:=List.getElem?_eq_none (by rw[cU];omega);rw[hg];have hb1:decide ((k:Int)<s.size)=false:=by simp;omega
  go_enter Tryz.func126,Tryz.ntmps126;go_wp2_with fail
  go_ret;exact aH.of rfl aG
theorem g8 (s:ByteArray):KK s.data.toList=(uC s 0&&uC s 1):=by
 unfold KK uC;match s.data.toList with
 |[]=>rfl
 |[a]=>simp
 |a::b::r=>rfl
theorem Ig (s:ByteArray) (w:World) (hm:s.size<=140737488355328):Calls aE 75 #[aD s] w (aH (aI (uM s.data.toList)) w):=by
 have hmx:=bX;have HSp:=aA (λW=>RS s W hm);have HSt:=aA (λB W k hc hB hk=>Q9 s B k W hc hB hk hm);have HE:Hid (uM s.data.toList=((iM s.data.toList).isNone&& !(uC s 0&&uC s 1))):=by show _=_;unfold uM;rw[g8]
 rw[HE.out];clear HE hm;obtain⟨R,hR⟩: ∃R,iM s.data.toList=R:=⟨_,rfl⟩;rw[hR]at HSp ⊢;clear hR;cases R with
 |some x=>
  have HSq:=aA (λW=>show Calls aE 72 #[aD s] W (aH (aN #[aD ⟨x.1.toArray⟩,aD ⟨x.2.toArray⟩,aI true]) W)from HSp.out W);clear HSp;go_enter Tryz.func75,Tryz.ntmps75;go_wp2_with(go_at_call 72;(with_reducible refine zG (HSq.out _) λX1=>?_))
  go_ret;exact aH.of rfl aG
 |none=>
  have HSq:=aA (λW=>show Calls aE 72 #[aD s] W (aH (aN #[aD ⟨#[]⟩,aD s,aI false]) W)from HSp.out W);clear HSp;go_enter Tryz.func75,Tryz.ntmps75;go_upto_region 3 with(go_at_call 72;(with_reducible refine zG (HSq.out _) λX1=>?_))
  refine dL λW0 hW0=> ?_;obtain⟨B,hB⟩: ∃B,w.heap.size=B:=⟨_,rfl⟩;have hb0:Below w.heap.size w W0:=by rw[hW0];exact aG
  have c0:W0.cell? ⟨B,0,none⟩=some (aD s):=by rw[hW0,<-hB];simp[go_sem]
  have hBl:=World.block_lt_of_cell? W0 _ c0;have H0:=aA (λW (hb:Below W0.heap.size W0 W)=>show Calls aE 126 #[aB aC 0,aM (some ⟨B,0,none⟩)] W _ from HSt.out B W 0 ((hb.cell (p:=⟨B,0,none⟩) hBl).trans c0) (bQ hBl hb.size) om);have H1:=aA (λW (hb:Below W0.heap.size W0 W)=>show Calls aE 126 #[aB aC 1,aM (some ⟨B,0,none⟩)] W _ from HSt.out B W 1 ((hb.cell (p:=⟨B,0,none⟩) hBl).trans c0) (bQ hBl hb.size) om);have HB0:=aA (λW (hb:Below W0.heap.size W0 W)=>show Below w.heap.size w W from hb0.trans (hb.mono hb0.size));rw[hB];generalize uC s 0=b0 at*;generalize uC s 1=b1 at*;clear hW0 hb0 HSt;cases b0;all_goals
   go_wp2_with(first
    |(go_at_call 126;(with_reducible refine zG (H0.out _ aG) λY1=>?_))
    |(go_at_call 126;(with_reducible refine zF (H1.out _ aG) λY2=>?_)))
   go_ret;exact aH.of rfl (HB0.out _ aG)
open Go.RowKit
attribute [local go_sem] Oper.semAt_some
def U8 (w:World):Prop:=Lib.Utf8Tabs 1 2 w
theorem U8.below {w w':World} (h:U8 w) (hb:Below w.heap.size w w'):U8 w':=Utf8Tabs_below h hb
theorem Qs:jX aE 130 5 (.int .u8 0) 1 1:=⟨by kernel_rfl,by kernel_rfl,by kernel_rfl,by decide⟩
theorem Qu {W:World} {B:Nat} {v:Value} {l:Bs} (h:W.ownsRow B 5 1 v l.length (l.map bv)):(convert 130 9 v).run aE W= .ok (aD ⟨l.toArray⟩) W:=
 (Rd.own h).str 130 9 5 pE jO dH
theorem Rb (x:Nat) (w:World):Calls aE 120 #[.int .i32 (x:Nat)] w λe w'=>e=aL (aI (iS x))/\w=w':=by
 have h0:decide ((0:Int)<=(x:Nat))=true:=by simp
 have h1:decide (((x:Nat):Int)<=32)=iS x:=by unfold iS;rw[bK];simp;omega
 generalize iS x=D at*;go_enter Tryz.func120,Tryz.ntmps120;go_wp2_with fail
 go_ret;exact⟨rfl,rfl⟩
theorem Nt (c:UInt8) (w:World):Calls aE 121 #[.int .u8 c.toNat] w λe w'=>e=aL (aI (sL c))/\w=w':=by
 have e1:((c.toNat:Int)==9)=decide (c.toNat=9):=by rw[bK];simp;omega
 have e2:((c.toNat:Int)==10)=decide (c.toNat=10):=by rw[bK];simp;omega
 have e3:((c.toNat:Int)==13)=decide (c.toNat=13):=by rw[bK];simp;omega
 have HE:Hid (sL c=(decide (c.toNat=9)||(decide (c.toNat=10)||decide (c.toNat=13)))):=by
  show _=_;unfold sL;rw[bK];simp
 rw[HE.out];clear HE;generalize decide (c.toNat=9)=b1 at*;generalize decide (c.toNat=10)=b2 at*;generalize decide (c.toNat=13)=b3 at*;cases b1<;>cases b2;all_goals
  go_enter Tryz.func121,Tryz.ntmps121;go_wp2_with fail
  go_ret;exact⟨rfl,rfl⟩
theorem Jf (t:Bs) (k:Nat) (h:k<t.length):(t.take (k+1)).filter lL=if sL t[k]=true then(t.take k).filter lL else(t.take k).filter lL++[t[k]]:=by
 rw[jG h,List.filter_append];unfold lL;cases hd:sL t[k]<;>simp[hd]
theorem Qg (s:ByteArray) (w:World) (hT:U8 w) (hm:s.size<=35184372088832):Calls aE 71 #[aD s] w (aH (aD ⟨(iE s.data.toList).toArray⟩) w):=by
 have htr:=M2 s;have hpa:PredAt aE 120 #[] encR iS w:=λW x _=>by
  refine(Rb x W).mono λe w' h=> ?_;obtain⟨h1,rfl⟩:=h;exact⟨h1,0,rfl⟩
 have HTr:=aA (show Calls aE 122 #[aD s,.func (.func 120) #[] #[]] w _ from Tryz.strings_TrimFunc 120 #[] (enters_of Tryz.func120 kr rfl) iS s w om hT hpa);obtain⟨T,hTt⟩: ∃T,Lib.trimF iS s=T:=⟨_,rfl⟩;rw[hTt]at HTr htr;have hTs:T.size<=35184372088832:=by
  rw[<-cU,htr];refine bG ?_ hm;rw[<-cU];unfold qV;rw[Xe];refine bG (Xu _).length_le ?_;rw[Xe];exact(Xu _).length_le
 have HC:Hid (iE s.data.toList=(T.data.toList.take T.size).filter lL):=by
  show _=_;unfold iE;rw[<-htr,fI (by rw[cU];exact bA _)]
 obtain⟨R,hR⟩: ∃R,iE s.data.toList=R:=⟨_,rfl⟩;rw[hR]at HC ⊢;clear hR htr hTt hpa hT hm;have hcv: ∀W:World,(convert 9 130 (aD T)).run aE W= .ok (aF (some ⟨W.heap.size,0,none⟩) T.size (grownCap W T.size 0 5)) (W.grow (kZ W 5 T)):=λW=>AC W _ _ _ T dH pE jO;go_enter Tryz.func71,Tryz.ntmps71;go_wp2_with(go_at_call 122;(with_reducible refine HTr.out.mono ?_);rintro e W1 ⟨rfl,hb1⟩;have HB1:=aA hb1;clear hb1)
 refine dL λW2 hW2=> ?_;obtain⟨nb,hnb⟩: ∃B,W1.heap.size=B:=⟨_,rfl⟩;have hb2:Below W1.heap.size W1 W2:=by rw[hW2];exact aG
 have hby2:iV W2 nb 5 T:=by rw[hW2,<-hnb];exact iV.new W1 5 T
 have HB2:=aA (HB1.out.trans (hb2.mono HB1.out.size));have HY2:=aA hby2;rw[hnb];clear hW2 hb2 hby2 HB1 HTr;go_loopw [5,13] (λv i wr=> ∃(k:Nat) (out:Bs),k<=T.size/\out=(T.data.toList.take k).filter lL/\i=aB aC (k:Nat)/\Below w.heap.size w wr/\wr.ownsRow w.heap.size 5 1 v out.length (out.map bv)/\iV wr nb 5 T) (λ_ i _=>T.size-(intOf i).toNat)
 case atStart=>exact⟨0,[],by omega,by simp,rfl,HB2.out,World.ownsRow_nil _ _ _ _,HY2.out⟩
 case round=>
  clear HB2 HY2;obtain⟨k,out,hk,hout,rfl,hB,hown,hby⟩:=hrel;have hsz:=hB.size;have hol:out.length<=35184372088832:=by
   rw[hout];refine bG (List.length_filter_le _ _) ?_;rw[bZ];omega
  have HOut:=aA hout;clear hout;by_cases hlt:k<T.size
  .have hc:=hby.cell k hlt;have hkl:k<T.data.toList.length:=by rw[cU];exact hlt
   have HS:=aA (Jf T.data.toList k hkl);have hsk:T.data.toList[k]=T[k]:=rfl;have HBY:=aA hby;have HB:=aA hB;have HO:=aA hown;have HDr:=aA (λW=>Nt T[k] W);rw[hsk]at HS;clear hB hby hsk;cases hd:sL T[k]
   .rw[hd]at HDr HS;have HL:Hid ((out++[T[k]]).map bv=out.map bv++[.int .u8 (T[k].toNat:Int)]):=by show _=_;simp[bv]
    have HL2:Hid ((out++[T[k]]).length=out.length+1):=by show _=_;simp
    have HN:Hid (out++[T[k]]=(T.data.toList.take (k+1)).filter lL):=by show _=_;rw[HS.out,if_neg dc,HOut.out]
    clear HS hd;go_wp2_with(first
     |(go_at_call 121;(with_reducible refine zQ (HDr.out _) ?_))
     |(at_builtin;refine mJ rfl _ _ 130 rfl Qs w.heap.size rfl (hown.alloc _) (by simp;omega) ⟨_,0,none⟩ 1 1 [.int .u8 (T[k].toNat:Int)] rfl rfl (eR (c:= #[.int .u8 (T[k].toNat:Int)]) (by simp[go_sem])) (by simp[Value.oneCell']) (by unfold maxLen;omega) om ?_;intro v1 W1 hown1 hg1;have hB1:=aA (HB.out.trans (((Below.refl _ _).alloc hsz _).trans (xZ (hown.alloc _) hg1 (bA _) (by simp;omega))));have hBy1:=aA ((HBY.out.alloc _).kept (hown.alloc _) hg1);clear hg1))
    go_roundw
    case rel=>exact⟨k+1,out++[T[k]],by omega,HN.out,by go_num,hB1.out,by rw[HL.out,HL2.out];exact hown1,hBy1.out⟩
    case measure=>simp[intOf];omega
   .rw[hd]at HDr HS;have HN:Hid (out=(T.data.toList.take (k+1)).filter lL):=by show _=_;rw[HS.out,if_pos rfl,HOut.out]
    clear HS hd;go_wp2_with(go_at_call 121;(with_reducible refine zQ (HDr.out _) ?_))
    go_roundw
    case rel=>exact⟨k+1,out,by omega,HN.out,by go_num,HB.out,HO.out,HBY.out⟩
    case measure=>simp[intOf];omega
  .have hkn:k=T.size:=by omega
   have HR:Hid (R=out):=by show _=_;rw[HC.out,HOut.out,hkn]
   have HB:=aA hB;have hcs:=Qu hown;clear hB hby hkn;go_wp2_with fail
   go_ret;exact aH.of (by rw[HR.out];rfl) HB.out
open Go.RowKit
attribute [local go_sem] Oper.semAt_some
def sI:Option Bs->Value
 |some x=> aN #[aD ⟨x.toArray⟩,aI true]
 |none=> aN #[aD ⟨#[]⟩,aI false]
theorem KJ {l:Bs} {x:Bs × Bs} (h:iM l=some x):x.1.length<=l.length/\x.2.length<=l.length:=by
 unfold iM at h;cases l with
 |nil=>cases h
 |cons c r=>
  by_cases hl:kH c=true
  .simp only[hl,if_true]at h;split at h
   .next d q hq=>
    split at h
    .cases h;simp only[List.length_map];have h9:=(Xu dU (l:=c::r)).length_le;rw[hq,List.length_cons]at h9;exact⟨(List.takeWhile_prefix _).length_le,by omega⟩
    .cases h
   .cases h
  .dsimp only at h;rw[if_neg hl]at h;cases h
theorem Qb (l:Bs):(iE l).length<=l.length:=by
 unfold iE;refine bG (List.length_filter_le _ _) ?_;unfold qV;rw[Xe];refine bG (Xu _).length_le ?_;rw[Xe];exact(Xu _).length_le
theorem Qo (a b:Bs):(⟨a.toArray⟩:ByteArray)++⟨#[58]⟩++⟨b.toArray⟩=⟨(a++58::b).toArray⟩:=by
 refine yB ?_;simp
theorem XQ (g:Nat) (P:aO) (s:ByteArray) (w:World) (hr:gB w g P) (hT:U8 w) (hm:s.size<=1000000):Calls aE 36 #[aM (some ⟨g,0,none⟩),aD s] w (aH (sI (lZ P s.data.toList)) w):=by
 have hmx:=bX;have HCl:=aA (λW (hb:Below w.heap.size w W)=>Qg s W (hT.below hb) om);have HF:Hid (lZ P s.data.toList=match iM (iE s.data.toList)with
  |some (n,r)=>if xE P n=true then some (n++58::r)else none
  |none=>if(P.rel&&uM (iE s.data.toList))=true then some (iE s.data.toList)else none):=rfl
 have hcl:(iE s.data.toList).length<=1000000:=bG (Qb _) (by rw[cU];exact hm);obtain⟨F,hF⟩: ∃F,lZ P s.data.toList=F:=⟨_,rfl⟩;obtain⟨C,hC⟩: ∃C,iE s.data.toList=C:=⟨_,rfl⟩;rw[hF,hC]at HF;rw[hC]at HCl hcl;rw[hF];have hxs:(⟨C.toArray⟩:ByteArray).size<=1000000:=by show C.toArray.size<=_;simpa using hcl
 have HSp:=aA (λW=>show Calls aE 72 #[aD ⟨C.toArray⟩] W (aH (KI ⟨C.toArray⟩ (iM C)) W)from RS ⟨C.toArray⟩ W om);have HLo:=aA (λW=>show Calls aE 75 #[aD ⟨C.toArray⟩] W (aH (aI (uM C)) W)from Ig ⟨C.toArray⟩ W om);have HRl:=aA hr;have hgl:=hr.lt;clear hF hC hT hr hm;cases hs:iM C with
 |some x=>
  obtain⟨n,r⟩:=x;have hn:n.length<=maxLen:=bG (KJ hs).1 (bG hcl (by simp[maxLen]));have hnb1:(⟨n.toArray⟩:ByteArray).size<=1000000:=by show n.toArray.size<=_;have:=(KJ hs).1;simp at this ⊢;omega
  have hrb1:(⟨r.toArray⟩:ByteArray).size<=1000000:=by show r.toArray.size<=_;have:=(KJ hs).2;simp at this ⊢;omega
  have HSq:=aA (λW=>show Calls aE 72 #[aD ⟨C.toArray⟩] W (aH (aN #[aD ⟨n.toArray⟩,aD ⟨r.toArray⟩,aI true]) W)from(by have h9:=HSp.out W;rw[hs]at h9;exact h9));have HSc:=aA (λW (hb:Below w.heap.size w W)=>show Calls aE 73 #[aM (some ⟨g,0,none⟩),aD ⟨n.toArray⟩] W _ from q5 g P n W (HRl.out.below hb) hn);rw[hs]at HF;have HF2:Hid (F=if xE P n=true then some (n++58::r)else none):=HF.out;have HV:=aA (Qo n r);clear HF hs hn HSp hcl hxs;obtain⟨D,hD⟩: ∃D,xE P n=D:=⟨_,rfl⟩;rw[hD]at HF2 HSc;clear hD;generalize hx:(⟨C.toArray⟩:ByteArray)=x at*;generalize hnb:(⟨n.toArray⟩:ByteArray)=nb at*;generalize hrb:(⟨r.toArray⟩:ByteArray)=rb at*;clear hx hnb hrb;cases D with
  |true=>
   have HR:Hid (F=some (n++58::r)):=HF2.out;go_enter Tryz.func36,Tryz.ntmps36;go_wp2_with(first
    |(go_at_call 71;(with_reducible refine zG (HCl.out _ aG) λY1=>?_))
    |(go_at_call 72;(with_reducible refine zF (HSq.out _) λY2=>?_))
    |(go_at_call 73;(with_reducible refine zF (HSc.out _ aG) λY3=>?_)))
   go_ret2;exact aH.of (by rw[HR.out];show _=aN #[aD ⟨(n++58::r).toArray⟩,aI true];rw[<-HV.out];rfl) aG
  |false=>
   have HR:Hid (F=none):=HF2.out;go_enter Tryz.func36,Tryz.ntmps36;go_wp2_with(first
    |(go_at_call 71;(with_reducible refine zG (HCl.out _ aG) λY1=>?_))
    |(go_at_call 72;(with_reducible refine zF (HSq.out _) λY2=>?_))
    |(go_at_call 73;(with_reducible refine zF (HSc.out _ aG) λY3=>?_)))
   go_ret2;exact aH.of (by rw[HR.out];rfl) aG
 |none=>
  have HSq:=aA (λW=>show Calls aE 72 #[aD ⟨C.toArray⟩] W (aH (aN #[aD ⟨#[]⟩,aD ⟨C.toArray⟩,aI false]) W)from(by have h9:=HSp.out W;rw[hs]at h9;exact h9));have HRe:=aA (λW (hb:Below w.heap.size w W)=>Bn g P W (HRl.out.below hb));rw[hs]at HF;have HF2:Hid (F=if(P.rel&&uM C)=true then some C else none):=HF.out;have HFV:Hid (sI (some C)=aN #[aD ⟨C.toArray⟩,aI true]):=rfl;clear HF hs HSp hcl hxs;generalize P.rel=D at*;generalize uM C=E at*;generalize(⟨C.toArray⟩:ByteArray)=x at*;cases D<;>cases E;all_goals
   have HR:=aA HF2.out;clear HF2;go_enter Tryz.func36,Tryz.ntmps36;go_wp2_with(first
    |(go_at_call 71;(with_reducible refine zG (HCl.out _ aG) λY1=>?_))
    |(go_at_call 72;(with_reducible refine zF (HSq.out _) λY2=>?_))
    |(go_at_call 74;(with_reducible refine zF (HRe.out _ aG) λY3=>?_))
    |(go_at_call 75;(with_reducible refine zF (HLo.out _) λY4=>?_)))
   go_ret2;exact aH.of (by rw[HR.out];first|rfl|(simp only[Bool.and_self,if_true];rw[HFV.out];rfl)) aG
open Go.RowKit
attribute [local go_sem] Oper.semAt_some
def WX:List Bs:=["href","src","action","formaction","cite","poster","background","longdesc","ping","manifest","data","usemap"].map (λs=>s.toUTF8.data.toList)
def CC (t:Bs):Bool:=decide (t∈WX)
theorem Kj:WX=[[104,114,101,102],[115,114,99],[97,99,116,105,111,110],[102,111,114,109,97,99,116,105,111,110],[99,105,116,101],[112,111,115,116,101,114],[98,97,99,107,103,114,111,117,110,100],[108,111,110,103,100,101,115,99],[112,105,110,103],[109,97,110,105,102,101,115,116],[100,97,116,97],[117,115,101,109,97,112]]:=by kernel_rfl
theorem Ki (t:Bs) (w:World):Calls aE 35 #[sv t] w (aH (aI (CC t)) w):=by
 unfold CC;rw[Kj];unfold sv;by_cases hm:t∈[[104,114,101,102],[115,114,99],[97,99,116,105,111,110],[102,111,114,109,97,99,116,105,111,110],[99,105,116,101],[112,111,115,116,101,114],[98,97,99,107,103,114,111,117,110,100],[108,111,110,103,100,101,115,99],[112,105,110,103],[109,97,110,105,102,101,115,116],[100,97,116,97],[117,115,101,109,97,112]]
 .rw[decide_eq_true hm];simp only[List.mem_cons,List.not_mem_nil,or_false]at hm;rcases hm with rfl|rfl|rfl|rfl|rfl|rfl|rfl|rfl|rfl|rfl|rfl|rfl
  all_goals
   go_enter Tryz.func35,Tryz.ntmps35;go_wp2_with fail
   go_ret;exact aH.of rfl aG
 .rw[decide_eq_false hm];simp only[List.mem_cons,List.not_mem_nil,or_false,not_or]at hm;obtain⟨n0,n1,n2,n3,n4,n5,n6,n7,n8,n9,n10,n11⟩:=hm;have m0:((⟨t.toArray⟩:ByteArray).toList==[104,114,101,102])=false:=by rw[eU];exact decide_eq_false n0
  have m1:((⟨t.toArray⟩:ByteArray).toList==[115,114,99])=false:=by rw[eU];exact decide_eq_false n1
  have m2:((⟨t.toArray⟩:ByteArray).toList==[97,99,116,105,111,110])=false:=by rw[eU];exact decide_eq_false n2
  have m3:((⟨t.toArray⟩:ByteArray).toList==[102,111,114,109,97,99,116,105,111,110])=false:=by rw[eU];exact decide_eq_false n3
  have m4:((⟨t.toArray⟩:ByteArray).toList==[99,105,116,101])=false:=by rw[eU];exact decide_eq_false n4
  have m5:((⟨t.toArray⟩:ByteArray).toList==[112,111,115,116,101,114])=false:=by rw[eU];exact decide_eq_false n5
  have m6:((⟨t.toArray⟩:ByteArray).toList==[98,97,99,107,103,114,111,117,110,100])=false:=by rw[eU];exact decide_eq_false n6
  have m7:((⟨t.toArray⟩:ByteArray).toList==[108,111,110,103,100,101,115,99])=false:=by rw[eU];exact decide_eq_false n7
  have m8:((⟨t.toArray⟩:ByteArray).toList==[112,105,110,103])=false:=by rw[eU];exact decide_eq_false n8
  have m9:((⟨t.toArray⟩:ByteArray).toList==[109,97,110,105,102,101,115,116])=false:=by rw[eU];exact decide_eq_false n9
  have m10:((⟨t.toArray⟩:ByteArray).toList==[100,97,116,97])=false:=by rw[eU];exact decide_eq_false n10
  have m11:((⟨t.toArray⟩:ByteArray).toList==[117,115,101,109,97,112])=false:=by rw[eU];exact decide_eq_false n11
  clear n0 n1 n2 n3 n4 n5 n6 n7 n8 n9 n10 n11;generalize(⟨t.toArray⟩:ByteArray)=x at*;go_enter Tryz.func35,Tryz.ntmps35;go_wp2_with fail
  go_ret;exact aH.of rfl aG
open Go.RowKit
theorem JO {l:List (String × DataW Unit)} {W:World} (h:laidMetH aE l W) (hf:(l.filter λx=>x.1== "unicode/utf8.acceptRanges" ||x.1== "unicode/utf8.first")=[("unicode/utf8.acceptRanges",Lib.acceptData),("unicode/utf8.first",Lib.firstData)]):U8 W:=by
 have h1:=h.filter (λx=>x.1== "unicode/utf8.acceptRanges" ||x.1== "unicode/utf8.first");rw[hf,MakeChecks.laidMetH_plain _ _ _ kr]at h1;exact utf8Tabs_of_readsT (ρ:=Tryz.lays237_ren) {Tryz.lays237 with} ⟨by kernel_rfl,by kernel_rfl,by kernel_rfl,by kernel_rfl,by kernel_rfl,by kernel_rfl,by kernel_rfl⟩ (Lib.laidMet.reads h1 (.tail _ (.head _))) (Lib.laidMet.reads h1 (.head _))
section
variable {H:Type} {enc:TypeId × Value->H}
theorem MV {a:Assume} {C:Checked} {os:Os} {f:FuncId} {fn:Func} {s:ChangeSpec} {conds:List PathCond} {apart fresh handsOn again:Bool} {X:World->Array Value->Prop}
  (hX: ∀(w w':World) (args:Array Value),w.heap=w'.heap->X w args->X w' args)
  (own:ownKnob C.prog.godebug=none) (started:os.Started) (noInit:C.prog.inits.idxOf? f=none) (hfn:C.prog.funcs[f]? =some fn)
  (witness: ∃(w:World) (tape:Tape) (i:Input),w.os=os/\(w.forCall tape i).Shaped C.prog/\i.vars=[]/\Input.okWide C.prog (w.forCall tape i) .any w.heap.size f i/\
   ((s.pre enc C.prog fn conds apart (w.forCall tape i).memory i.args/\X (w.forCall tape i).memory i.args)/\sizedMet enc C.prog fn (OpenSpec.ofChange s) apart (w.forCall tape i).memory i.args)/\a.holds C.prog (lone (Frame.enter C.prog f i.args .normal) [] (w.forCall tape i)))
  (contract: ∀(W:World) (base:Nat) (args:Array Value) (ds gs:List (DataW H)) (before:List MemPlace),
   (∀(j:Nat) t v,fn.params[j]? =some t->args[j]? =some v->Value.okWide C.prog W .any base t v)->
   DataW.Whole enc C.prog fn.params.toList s.vars apart W args.toList ds gs before->
   X W args->W.ShapedOpen C.prog->
   Calls C.prog f args W λe W'=> ∃v,e=aL v/\s.post enc C.prog fn apart fresh handsOn again W args v W'):
  ReturnsInHanded a C os f .any (λw args=>(s.pre enc C.prog fn conds apart w args/\X w args)/\sizedMet enc C.prog fn (OpenSpec.ofChange s) apart w args) (s.post enc C.prog fn apart fresh handsOn again):=by
 refine returnsInHanded_of_calls own started noInit witness λw tape i _ hsh _ hok hpre _=> ?_;obtain⟨_,_,_,g,hg,_,_,_,_,hval⟩:=hok;obtain rfl:g=fn:=Option.some.inj (hg.symm.trans hfn);obtain⟨⟨⟨ds,gs,before,hw,_⟩,hx⟩,_⟩:=hpre;exact(contract _ w.heap.size i.args ds gs before hval (DataW.Whole.of_heap (w':=w.forCall tape i) (by rfl) hw) (hX _ _ _ (by rfl) hx) hsh).mono λe W' ⟨v,he,hp⟩=>by
  subst he;exact ChangeSpec.post_blind hp
end
