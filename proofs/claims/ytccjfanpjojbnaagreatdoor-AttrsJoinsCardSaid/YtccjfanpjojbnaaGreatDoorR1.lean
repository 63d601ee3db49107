import Derived.Test.YtccjfanpjojbnaaGreatDoorWN
import Derived.Test.YtccjfanpjojbnaaGreatDoorLC
namespace Go.Proofs.YtccjfanpjojbnaaGreatDoor
open Go.Ending renaming returned→aL
open Go.IntKind renaming i64→aC
open Lib renaming hid→aA
open List renaming length_append→aZ,length_cons→aY,length_nil→dY
open Nat renaming lt_of_lt_of_le→bQ
open Option renaming some→jP
open Tryz renaming ntmps90→zr,prog→aE,underlying3→lR,underlying53→Xv,underlying9→dH
open Go.Value renaming agg→aR,bool→aI,int→aB,pointer→aM,slice→aF,string→aD
set_option maxRecDepth 100000
set_option maxHeartbeats 4000000
open Go.RowKit
structure cI (en M:Nat) (l:List Lx) (W:World):Prop where
 rest: ∃A c,W.cell? ⟨M+1,0,none⟩=some (aF A l.length c)/\l.length<=c/\Rx W (λb=>M<=b) (aF A l.length c) l.length 3 (kG l)
 end_:W.cell? ⟨M+1,1,none⟩=some (aB aC en)
 fz: ∀j,W.frozen? ⟨M+1,j,none⟩=false
def Lx.agg (x:Lx):Value:= aR #[aB aC x.kind,aB aC x.at_,aD ⟨x.text.toArray⟩]
theorem Rd.lx {w:World} {A:Option Addr} {n c:Nat} {l:List Lx} {x:Lx} (h:Rd w (aF A n c) (x::l).length 3 (kG (x::l))): ∃b off,A=some ⟨b,off,none⟩/\b<w.heap.size/\w.cell? ⟨b,off,none⟩=some (aB aC x.kind)/\w.cell? ⟨b,off+1,none⟩=some (aB aC x.at_)/\w.cell? ⟨b,off+2,none⟩=some (aD ⟨x.text.toArray⟩):=by
 obtain⟨_,_,A',c',e,h4⟩:=h;cases e;obtain⟨b,off,rfl,hb,hc⟩:=h4 (by simp);exact⟨b,off,rfl,hb,hc 0 _ rfl,hc 1 _ rfl,hc 2 _ rfl⟩
theorem Oy (v:Value) (ts:List Bs) (t:Bs) (w:World) (h:Rd w v ts.length 1 (ts.map sv)):Calls aE 153 #[v,aD ⟨t.toArray⟩] w λe w'=>e=aL (aI (decide (t∈ts)))/\w=w':=by
 obtain⟨h1,h2,A,c,rfl,h4⟩:=h;by_cases h0:ts=[]
 .subst h0;refine(Tryz.slices_Contains_string_empty A c _ w).mono ?_;rintro e w' ⟨rfl,rfl⟩;exact⟨by simp,rfl⟩
 .obtain⟨b,off,rfl,hb,hc⟩:=h4 (List.length_pos_iff.2 h0);have hz:(ts.map λu:Bs=>(⟨u.toArray⟩:ByteArray)).length=ts.length:=List.length_map ..;refine(Tryz.slices_Contains_string b off ts.length c (ts.map λu=>⟨u.toArray⟩) _ w om h2 (λj hj=> ?_)).mono ?_
  .rw[hz]at hj;rw[hc j (sv ts[j]) (by simp[hj])];simp[sv,hj]
  .rintro e w' ⟨rfl,rfl⟩;refine⟨?_,rfl⟩;congr 2;rw[List.take_of_length_le om,Bool.eq_iff_iff,Lib.containsS_iff,decide_eq_true_eq,List.mem_map];constructor
   .rintro⟨u,hu,he⟩;have:u=t:=congrArg (λb:ByteArray=>b.data.toList) he;exact this ▸ hu
   .exact λh=>⟨t,h,rfl⟩
theorem ZN (en M:Nat) (l:List Lx) (W:World) (h:cI en M l W):Calls aE 91 #[aM (some ⟨M+1,0,none⟩)] W λe w'=>e=aL (aB aC (sO en l))/\W=w':=by
 obtain⟨A,c,hc,_,A',c',he,_,hr,_⟩:=h.rest;cases he;have he:=h.end_;clear h;cases l with
 |nil=>
  clear hr;simp only[dY]at hc;go_enter Tryz.func91,Tryz.ntmps91;go_wp2_with fail
  go_ret;exact⟨rfl,rfl⟩
 |cons x r=>
  obtain⟨b,off,rfl,hb,x0,x1,x2⟩:=Rd.lx hr;have hp:0<(x::r).length:=by simp
  generalize(x::r).length=N at*;clear hr;go_enter Tryz.func91,Tryz.ntmps91;go_wp2_with fail
  go_ret;exact⟨rfl,rfl⟩
theorem BR (en M:Nat) (l:List Lx) (k:Nat) (v:Value) (ts:List Bs) (W:World) (h:cI en M l W) (hv:Rd W v ts.length 1 (ts.map sv)):Calls aE 90 #[aM (some ⟨M+1,0,none⟩),aB aC k,v] W λe w'=>e=aL (aI (bM k ts l))/\W=w':=by
 obtain⟨A,c,hc,_,A',c',he,_,hr,_⟩:=h.rest;cases he;obtain⟨Av,cv,rfl⟩: ∃A c,v=aF A ts.length c:=by obtain⟨_,_,A,c,e,_⟩:=hv;exact⟨A,c,e⟩
 clear h;cases l with
 |nil=>
  clear hr hv;simp only[dY]at hc;go_enter Tryz.func90,zr;go_wp2_with fail
  go_ret;exact⟨rfl,rfl⟩
 |cons x r=>
  obtain⟨b,off,rfl,hb,x0,x1,x2⟩:=Rd.lx hr;have HC:=aA (Oy _ ts x.text W hv);have hp:0<(x::r).length:=by simp
  have HN:Hid (bM k ts (x::r)=(decide (x.kind=k)&&(ts.isEmpty||decide (x.text∈ts)))):=rfl;obtain⟨D,hD⟩: ∃D,bM k ts (x::r)=D:=⟨_,rfl⟩;rw[hD]at HN ⊢;generalize(x::r).length=N at*;generalize(⟨x.text.toArray⟩:ByteArray)=a1 at*;generalize x.at_=xa at*;clear hr hv hD;by_cases hk:x.kind=k
  .rw[hk]at x0;rw[decide_eq_true hk,Bool.true_and]at HN;clear hk;cases ts with
   |nil=>
    have HN2:Hid (D=true):=HN.out;clear HC;simp only[dY];go_enter Tryz.func90,zr;go_wp2_with fail
    go_ret;exact⟨by rw[HN2.out];rfl,rfl⟩
   |cons t ts=>
    have HN2:Hid (D=decide (x.text∈t::ts)):=HN.out;have hn:(((t::ts).length:Int)==0)=false:=by rw[beq_eq_false_iff_ne];simp;omega
    generalize decide (x.text∈t::ts)=E at*;generalize(t::ts).length=m at*;clear HN;go_enter Tryz.func90,zr;go_wp2_with(go_at_call 153;(with_reducible refine HC.out.mono ?_);rintro e w' ⟨rfl,rfl⟩)
    go_ret;exact⟨by rw[HN2.out];rfl,rfl⟩
  .have hkb:((x.kind:Int) !=(k:Int))=true:=by simp;omega
   have HN2:Hid (D=false):=by show _=_;rw[HN.out,decide_eq_false hk];rfl
   generalize x.kind=xk at*;clear HC HN hk;go_enter Tryz.func90,zr;go_wp2_with fail
   go_ret;exact⟨by rw[HN2.out];rfl,rfl⟩
structure cA (M j:Nat) (W W':World):Prop where
 turned:aJ (λb=>b=M+1) W W'
 cell: ∀i,i≠j->W'.cell? ⟨M+1,i,none⟩=W.cell? ⟨M+1,i,none⟩
 fz: ∀i,W'.frozen? ⟨M+1,i,none⟩=W.frozen? ⟨M+1,i,none⟩
theorem tK {en k:Nat} {ts:List Bs} {l r:List Lx} {x:Lx} (h:dE en k ts l= .ok (x,r)):l=x::r/\bM k ts l=true:=by
 obtain⟨rfl,hi⟩:=iI h;exact⟨rfl,hi⟩
theorem Ff {en k:Nat} {ts:List Bs} {l:List Lx} {f:lC} (h:dE en k ts l= .error f):bM k ts l=false/\f=⟨sO en l,2⟩:=by
 cases l with
 |nil=>cases h;exact⟨rfl,rfl⟩
 |cons y q=>
  have h:(if cD k ts y=true then Except.ok (y,q)else .error ⟨y.at_,2⟩:Rs (Lx × List Lx))= .error f:=h;by_cases hi:cD k ts y=true
  .rw[if_pos hi]at h;cases h
  .rw[if_neg hi]at h;cases h;exact⟨by simpa[bM]using hi,rfl⟩
def zW (f:lC):Value:= .iface 71 (aR #[aB aC f.at_,aB aC f.code])
def Tl (w:World) (f:lC) (e:Ending) (w':World):Prop:=e= .panicked [{v:=zW f,recovered:=false}]/\Below w.heap.size w w'
theorem cI.lt {en M:Nat} {l:List Lx} {W:World} (h:cI en M l W):M+1<W.heap.size:=World.block_lt_of_cell? W _ h.end_
theorem cI.grown {en M:Nat} {l:List Lx} {W W':World} (h:cI en M l W) (hb:Below W.heap.size W W'):cI en M l W':=by
 have hl:=h.lt;obtain⟨A,c,hc,hcl,hr⟩:=h.rest;exact⟨⟨A,c,(hb.cell hl).trans hc,hcl,hr.below hb⟩,(hb.cell hl).trans h.end_,λj=>(World.frozen?_of_block (hb.block _ hl)).trans (h.fz j)⟩
theorem Rd.lxrest {W:World} {b off c N:Nat} {x:Lx} {r:List Lx} (h:Rd W (aF (some ⟨b,off,none⟩) N c) (x::r).length 3 (kG (x::r))) (hN:r.length=N-1):Rd W (aF (some ⟨b,off+3,none⟩) (N-1) (c-1)) r.length 3 (kG r):=by
 obtain⟨_,h2,A',c',e,h4⟩:=h;cases e;refine⟨Hv r,by omega,_,_,by rw[hN],λh0=> ?_⟩;obtain⟨b2,off2,h5,hb,hc⟩:=h4 (by simp);cases h5;refine⟨b,off+3,rfl,hb,λj u hu=> ?_⟩;have h9:=hc (j+3) u (by
  show(kG (x::r))[j+3]? =some u;have:kG (x::r)=x.cells++kG r:=rfl;rw[this,List.getElem?_append_right (by simp[Lx.cells])];simpa[Lx.cells]using hu)
 rw[show off+3+j=off+(j+3) by omega];exact h9
theorem cA.set {M j:Nat} {W:World} (v:Value):cA M j W (W.setCell ⟨M+1,j,none⟩ v):=
 ⟨aJ.setCell (pv:=λb=>b=M+1) (p:=⟨M+1,j,none⟩) (aJ.refl _ W) (.inr rfl) _,λi hi=>World.cell?_setCell_other _ _ _ _ (by intro e;cases e;exact hi rfl),λi=>World.frozen?_setCell _ _ _ _⟩
theorem cA.below {M j:Nat} {W V W':World} (h:cA M j W V) (hl:M+1<V.heap.size) (hb:Below V.heap.size V W'):cA M j W W':=
 ⟨h.turned.trans (aJ.of_below hb),λi hi=>(hb.cell hl).trans (h.cell i hi),λi=>(World.frozen?_of_block (hb.block _ hl)).trans (h.fz i)⟩
theorem cI.took {en M:Nat} {x:Lx} {r:List Lx} {W W':World} (h:cI en M (x::r) W) {A:Option Addr} {c n:Nat} (hn:n=r.length) (hc:W'.cell? ⟨M+1,0,none⟩=some (aF A n c)) (hcl:n<=c) (hr:Rx W (λb=>M<=b) (aF A n c) r.length 3 (kG r)) (hu:cA M 0 W W'):cI en M r W':=by
 subst hn;exact⟨⟨A,c,hc,hcl,hr.turned (hu.turned.mono λb hb=>by omega)⟩,(hu.cell 1 om).trans h.end_,λj=>(hu.fz j).trans (h.fz j)⟩
theorem QW {en M:Nat} {x:Lx} {r:List Lx} {W W':World} (h:cI en M (x::r) W) {A:Option Addr} {c n:Nat} (hb:Below (W.setCell ⟨M+1,0,none⟩ (aF A n c)).heap.size (W.setCell ⟨M+1,0,none⟩ (aF A n c)) W') (hn:n=r.length) (hcl:n<=c) (hr:Rx W (λb=>M<=b) (aF A n c) r.length 3 (kG r)):cI en M r W'/\cA M 0 W W':=by
 have hl:M+1<(W.setCell ⟨M+1,0,none⟩ (aF A n c)).heap.size:=bQ h.lt (cA.set (M:=M) (j:=0) (W:=W) (aF A n c)).turned.size;have hu:=(cA.set (M:=M) (j:=0) (W:=W) (aF A n c)).below hl hb;obtain⟨A0,c0,hc0,_⟩:=h.rest;exact⟨h.took hn ((hb.cell hl).trans (World.cell?_setCell_same _ _ _ hc0)) hcl hr hu,hu⟩
theorem QV (en M k:Nat) (x:Lx) (r:List Lx) (v:Value) (ts:List Bs) (W:World) (h:cI en M (x::r) W) (hv:Rd W v ts.length 1 (ts.map sv)) (hi:bM k ts (x::r)=true):
  Calls aE 42 #[aM (some ⟨M+1,0,none⟩),aB aC k,v] W λe w'=>e=aL x.agg/\cI en M r w'/\cA M 0 W w':=by
 have HNx:=aA (λW' (hb:Below W.heap.size W W')=>hi ▸ BR en M (x::r) k v ts W' (h.grown hb) (by obtain⟨X,rfl⟩:=cV hb;exact hv.grow X));have hlt:=h.lt;have HPar:=aA h;obtain⟨A,c,hc,hcl,A',c',he,hA0,hr,hbl⟩:=h.rest;cases he;have hf:=h.fz 0;obtain⟨b,off,rfl,hb,x0,x1,x2⟩:=Rd.lx hr;have HR:=aA hr;have HBl:=aA (hbl (by simp) b off none rfl);clear h hv hi hr hbl hA0;obtain⟨N,hN⟩: ∃N,(x::r).length=N:=⟨_,rfl⟩;have hrN:r.length=N-1:=by rw[<-hN];simp
 have HN:=aA hrN;have hN1:1<=N:=by rw[<-hN];simp
 rw[hN]at hc hcl HR;have HRl:=aA (show Rd W (aF (some ⟨b,off,none⟩) N c) (x::r).length 3 (kG (x::r)) by rw[hN];exact HR.out);clear hN hrN HR;unfold Lx.agg;generalize(⟨x.text.toArray⟩:ByteArray)=a1 at*;generalize x.at_=xa at*;generalize x.kind=xk at*;have i1:(0:Int)<=1/\(1:Int)<=N/\(N:Int)<=c:=by omega
 have i2:0<N:=by omega
 have hlt2:M<W.heap.size:=by omega
 have hne: ¬M+1=W.heap.size:=by omega
 by_cases hc1:c=1
 .have HE:Hid (r=[]):=List.eq_nil_of_length_eq_zero (by have:=HN.out;omega);have hN2:N=1:=by omega
  subst hc1 hN2;go_enter Tryz.func42,Tryz.ntmps42;go_wp2_with(go_at_call 90;(with_reducible refine zQ (HNx.out _ aG) ?_))
  ((try simp only[Exit.inBlock,Exit.then]);refine bodyPost_ret (v:= aR #[aB aC xk,aB aC xa,.string a1]) (by(first|rw[results_cell_tmp rfl]|rw[fB rfl]);go_simp) rfl ?_);exact⟨rfl,QW (A:=some ⟨b,off,none⟩) (c:=0) (n:=0) HPar.out aG (by have:=HN.out;omega) om (by rw[HE.out];exact⟨_,0,rfl,⟨λh=>(by cases h),Nat.le_refl _⟩,Rd.empty,λh=>absurd h (Nat.lt_irrefl 0)⟩)⟩
 .have hc2:1<=c:=by omega
  go_enter Tryz.func42,Tryz.ntmps42;go_wp2_with(go_at_call 90;(with_reducible refine zQ (HNx.out _ aG) ?_))
  ((try simp only[Exit.inBlock,Exit.then]);refine bodyPost_ret (v:= aR #[aB aC xk,aB aC xa,.string a1]) (by(first|rw[results_cell_tmp rfl]|rw[fB rfl]);go_simp) rfl ?_);have h9:=Rd.lxrest HRl.out HN.out;exact⟨rfl,QW (A:=some ⟨b,off+3,none⟩) (c:=c-1) (n:=N-1) HPar.out aG (by have:=HN.out;omega) om ⟨some ⟨b,off+3,none⟩,c-1,by rw[HN.out],⟨λh=>(by cases h),(by have:=HN.out;omega)⟩,h9,λ_ b' off' s' he=>(by cases he;exact HBl.out)⟩⟩
theorem P8 (en M k:Nat) (l:List Lx) (v:Value) (ts:List Bs) (W:World) (f:lC) (h:cI en M l W) (hv:Rd W v ts.length 1 (ts.map sv)) (hi:dE en k ts l= .error f):
  Calls aE 42 #[aM (some ⟨M+1,0,none⟩),aB aC k,v] W (Tl W f):=by
 obtain⟨hn,rfl⟩:=Ff hi;have HNx:=aA (λW' (hb:Below W.heap.size W W')=>hn ▸ BR en M l k v ts W' (h.grown hb) (by obtain⟨X,rfl⟩:=cV hb;exact hv.grow X));have HAt:=aA (λW' (hb:Below W.heap.size W W')=>ZN en M l W' (h.grown hb));clear h hv hi hn;go_enter Tryz.func42,Tryz.ntmps42;go_wp2_with(first|(go_at_call 90;(with_reducible refine zQ (HNx.out _ aG) ?_))|(go_at_call 91;(with_reducible refine zQ (HAt.out _ aG) ?_)))
 exact⟨rfl,rfl,aG⟩
def tU (M:Nat) (w:World) (f:lC) (e:Ending) (w':World):Prop:=e= .panicked [{v:=zW f,recovered:=false}]/\Below M w w'
def vF {α:Type} (M:Nat) (w:World) (r:Rs α) (ok:α->Ending->World->Prop) (e:Ending) (w':World):Prop:=match r with
 | .ok a=>ok a e w'
 | .error f=>tU M w f e w'
theorem cA.below' {M j:Nat} {W W':World} (h:cA M j W W') (hl:M+1<W.heap.size):Below M W W':=h.turned.below om (λk hk=>by omega)
theorem cA.trans {M j:Nat} {A B C:World} (h:cA M j A B) (k:cA M j B C):cA M j A C:=⟨h.turned.trans k.turned,λi hi=>(k.cell i hi).trans (h.cell i hi),λi=>(k.fz i).trans (h.fz i)⟩
theorem cA.refl (M j:Nat) (W:World):cA M j W W:=⟨aJ.refl _ _,λ_ _=>rfl,λ_=>rfl⟩
theorem oV {W:World} {c:Array Value} {e:TypeId} {n B:Nat} {ts:List Bs} (hB:B=W.heap.size) (he:c=(ts.map sv).toArray) (hn:n=ts.length) (h9:ts.length<=1000):Rd (W.alloc (.cells c e)) (aF (some ⟨B,0,none⟩) n n) ts.length 1 (ts.map sv):=by
 subst hB he hn;have:=Rd.own (lW (W:=W) (e:=e) (c:=(ts.map sv).toArray) (n:=ts.length) (size:=1) (by simp) (by unfold maxLen;omega));simpa using this
theorem CM (a b c:Value) (W:World):(Instr.field 92 (aR #[a,b,c]) 2).run aE W= .ok c W:=by
 simp[Instr.field,go_sem];rfl
def vU (M:Nat) (W:World):Nat:=match W.cell? ⟨M+1,0,none⟩with
 |some (aF _ n _)=>n
 |_=>0
theorem cI.len {en M:Nat} {l:List Lx} {W:World} (h:cI en M l W):vU M W=l.length:=by
 obtain⟨A,c,hc,_⟩:=h.rest;unfold vU;rw[hc]
theorem UD {M j:Nat} {W W':World} (h:cA M j W W') {B:Nat} {e:TypeId} {size n:Nat} {v:Value} {xs:List Value} (ho:W.ownsRow B e size v n xs) (hB:M+1<B):W'.ownsRow B e size v n xs:=h.turned.own ho (λk hk=>by omega)
theorem qX (en M k:Nat) (l:List Lx) (v:Value) (ts:List Bs) (W:World) (h:cI en M l W) (hv:Rd W v ts.length 1 (ts.map sv)):
  Calls aE 42 #[aM (some ⟨M+1,0,none⟩),aB aC k,v] W (vF M W (dE en k ts l) λp e w'=>e=aL p.1.agg/\cI en M p.2 w'/\cA M 0 W w'):=by
 cases ht:dE en k ts l with
 |error f=>exact(P8 en M k l v ts W f h hv ht).mono λe w' ⟨h1,h2⟩=>⟨h1,h2.mono (by have:=h.lt;omega)⟩
 |ok p=>
  obtain⟨x,r⟩:=p;obtain⟨rfl,hn⟩:=tK ht;exact QV en M k x r v ts W h hv hn
theorem wZ {P:Program} {f:FuncId} {args:Array Value} {en M:Nat} {l:List Lx} {W W':World} {r:Rs (Lx × List Lx)} (_hp:cI en M l W) (hb:Below W.heap.size W W') (hl:M+1<W.heap.size) (h:Calls P f args W' (vF M W' r λp e w'=>e=aL p.1.agg/\cI en M p.2 w'/\cA M 0 W' w')):Calls P f args W' (vF M W r λp e w'=>e=aL p.1.agg/\cI en M p.2 w'/\cA M 0 W w'):=by
 refine h.mono λe w' h9=> ?_;cases r with
 |ok p=>exact⟨h9.1,h9.2.1,((cA.refl M 0 W).below hl hb).trans h9.2.2⟩
 |error f=>exact⟨h9.1,(hb.mono om).trans h9.2⟩
theorem UV {en M:Nat} {l:List Lx} {W:World} (h:cI en M l W):Calls aE 90 #[aM (some ⟨M+1,0,none⟩),aB aC 1,aF none 0 0] W λe w'=>e=aL (aI (bM 1 [] l))/\W=w':=BR en M l 1 _ [] W h (Rd.nil _ _)
theorem cI.turned {en M:Nat} {l:List Lx} {W W':World} {pv:Nat->Prop} (h:cI en M l W) (ht:aJ pv W W') (hp: ∀b,pv b->M+2<=b):cI en M l W':=by
 have hl:=h.lt;have hn: ¬pv (M+1):=λhb=>by have:=hp _ hb;omega
 have hb:=ht.block _ hl hn;obtain⟨A,c,hc,hcl,hr⟩:=h.rest;exact⟨⟨A,c,(World.cell?_of_block hb).trans hc,hcl,hr.turned (ht.mono λb hb=>by have:=hp b hb;omega) |>.mono λb _ hx=>hx⟩,(World.cell?_of_block hb).trans h.end_,λj=>(World.frozen?_of_block hb).trans (h.fz j)⟩
theorem cA.own {M j:Nat} {W V W':World} (h:cA M j W V) (hl:M+1<W.heap.size) (ht:aJ (λb=>W.heap.size<=b) V W'):cA M j W W':=by
 have hs:=h.turned.size;have hb:=ht.block (M+1) om om;exact⟨⟨ht.os.trans h.turned.os,ht.tape.trans h.turned.tape,ht.output.trans h.turned.output,Nat.le_trans hs ht.size,λk hk hn=>(ht.block k om om).trans (h.turned.block k hk hn)⟩,λi hi=>(World.cell?_of_block hb).trans (h.cell i hi),λi=>(World.frozen?_of_block hb).trans (h.fz i)⟩
theorem Fj {q:List Lx} (h:bM 1 [] q=false):q.takeWhile (cD 1 [])=[]/\q.dropWhile (cD 1 [])=q:=by
 cases q with
 |nil=>exact⟨rfl,rfl⟩
 |cons y q=>
  have hy:cD 1 [] y=false:=h;exact⟨by rw[List.takeWhile_cons,hy];rfl,by rw[List.dropWhile_cons,hy];rfl⟩
theorem AQ (en M:Nat) (l:List Lx) (W:World) (h:cI en M l W) (hl:l.length<=1000000):
  Calls aE 43 #[aM (some ⟨M+1,0,none⟩)] W (vF M W (eP en l) λp e w'=> ∃v,e=aL v/\w'.ownsRow W.heap.size 9 1 v p.1.length (p.1.map sv)/\cI en M p.2 w'/\cA M 0 W w'):=by
 have hmx:=bX;have HP:=aA h;have HT1:=aA (show Calls aE 42 #[aM (some ⟨M+1,0,none⟩),aB aC 1,aF none 0 0] W _ from qX en M 1 l _ [] W h (Rd.nil _ _));have hlt:=h.lt;clear h;cases ht:dE en 1 [] l with
 |error f=>
  rw[ht]at HT1;have HW:Hid (eP en l= .error f):=by show _=_;unfold eP;rw[ht]
  rw[HW.out];clear ht HW HP;go_enter Tryz.func43,Tryz.ntmps43;go_wp2_with(go_at_call 42;(with_reducible refine HT1.out.mono ?_);rintro e W1 ⟨rfl,hb1⟩;have HB1:=aA hb1;clear hb1)
  exact⟨rfl,rfl,HB1.out⟩
 |ok p=>
  obtain⟨x,r⟩:=p;rw[ht]at HT1;have HW:Hid (eP en l=match pZ en r with
   | .error f=> .error f
   | .ok (ws,q)=> .ok (x.text::ws,q)):=by show _=_;unfold eP;rw[ht];rfl
  have hle:r.length<=1000000:=by
   obtain⟨rfl,_⟩:=tK ht;simp only[aY]at hl;omega
  clear ht HP;obtain⟨R,hR⟩: ∃R,eP en l=R:=⟨_,rfl⟩;rw[hR]at HW ⊢;clear hR;have HT2:=aA (show Calls aE 42 #[aM (some ⟨M+1,0,none⟩),aB aC 1,aF none 0 0] W (λe w'=>e=aL x.agg/\cI en M r w'/\cA M 0 W w')from HT1.out);simp only[Lx.agg]at HT2;clear HT1;have hsx:sv x.text=aD ⟨x.text.toArray⟩:=rfl;have HSx:=aA hsx;clear hsx;generalize(⟨x.text.toArray⟩:ByteArray)=xs at*;have hfl:=CM;go_enter Tryz.func43,Tryz.ntmps43;go_wp2_with(go_at_call 42;(with_reducible refine HT2.out.mono ?_);rintro e W1 ⟨rfl,hp1,hu1⟩;have HP1:=aA hp1;have HU1:=aA hu1;clear hp1 hu1)
  go_loopw [3] (λvo wr=> ∃(ws:List Bs) (q:List Lx),q.length+ws.length=r.length/\Hid (wr.ownsRow W.heap.size 9 1 vo (ws.length+1) ((x.text::ws).map sv))/\Hid (cI en M q wr)/\Hid (cA M 0 W wr)/\Hid ((r.takeWhile (cD 1 [])).map Lx.text=ws++(q.takeWhile (cD 1 [])).map Lx.text/\r.dropWhile (cD 1 [])=q.dropWhile (cD 1 []))) (λ_ wr=>vU M wr)
  case atStart=>
   have hb:Below W1.heap.size W1 (W1.alloc (.cells #[.string xs] 9)):=aG;have hs1:=HU1.out.turned.size;have ho:=zL (lW (W:=W1) (c:= #[.string xs]) (e:=9) (n:=1) (size:=1) rfl (by unfold maxLen;omega)) hs1;refine⟨[],r,by simp, ?_,HP1.out.grown hb,HU1.out.below om hb,⟨rfl,rfl⟩⟩;show World.ownsRow _ _ _ _ _ _ _;rw[List.map_cons,HSx.out];exact ho
  case round=>
   clear HP1 HU1;obtain⟨ws,q,hq,HO,HPq,HU,HK⟩:=hrel;obtain⟨Ao,co,rfl,_⟩:=dF HO.out;have hs1:=HU.out.turned.size;cases hn:bM 1 [] q
   .have HNx:=aA (hn ▸ UV HPq.out);have HE:Hid (pZ en r=match dE en 4 [fP] q with
     | .error f=> .error f
     | .ok (_,q2)=> .ok (ws,q2)):=by
     show _=_
     obtain⟨h1,h2⟩:=HK.out
     obtain⟨h3,h4⟩:=Fj hn
     unfold pZ
     rw[h1,h2,h3,h4];simp;rfl
    have HTk:=aA (λW' (hb:Below wr.heap.size wr W') v (hv:Rd W' v [fP].length 1 ([fP].map sv))=>show Calls aE 42 #[aM (some ⟨M+1,0,none⟩),aB aC 4,v] W' _ from wZ HPq.out hb om (qX en M 4 q v [fP] W' (HPq.out.grown hb) hv));clear hn HK HPq;cases ht:dE en 4 [fP] q with
    |error f=>
     rw[ht]at HE HTk;have HR:Hid (R= .error f):=by show _=_;rw[HW.out,HE.out]
     clear ht HE HW;go_wp2_with(first
      |(go_at_call 90;(with_reducible refine HNx.out.mono ?_);rintro e w' ⟨rfl,rfl⟩)
      |(go_at_call 42;(refine(HTk.out _ aG _ (oV (ts:=[fP]) (by simp) rfl rfl (by simp))).mono ?_);rintro e W1 ⟨rfl,hb1⟩;have HB1:=aA hb1;clear hb1))
     refine⟨rfl, ?_⟩;rw[HR.out];exact⟨rfl,(HU.out.below' hlt).trans HB1.out⟩
    |ok p=>
     obtain⟨y,q2⟩:=p;rw[ht]at HE HTk;have HR:Hid (R= .ok (x.text::ws,q2)):=by show _=_;rw[HW.out,HE.out]
     have HTk2:=aA (λW' hb v hv=>show Calls aE 42 #[aM (some ⟨M+1,0,none⟩),aB aC 4,v] W' (λe w'=>e=aL y.agg/\cI en M q2 w'/\cA M 0 wr w')from HTk.out W' hb v hv);clear ht HE HW HTk;go_wp2_with(first
      |(go_at_call 90;(with_reducible refine HNx.out.mono ?_);rintro e w' ⟨rfl,rfl⟩)
      |(go_at_call 42;(refine(HTk2.out _ aG _ (oV (ts:=[fP]) (by simp) rfl rfl (by simp))).mono ?_);rintro e W1 ⟨rfl,hp1,hu1⟩;have HP1:=aA hp1;have HU1:=aA hu1;clear hp1 hu1))
     go_ret;rw[HR.out];have hu2:=HU.out.trans HU1.out;refine⟨_,rfl, ?_,HP1.out,hu2⟩;have ho:=UD HU1.out HO.out hlt;exact ho
   .obtain⟨y,q2,rfl⟩: ∃y q2,q=y::q2:=by
     cases q with
     |nil=>cases hn
     |cons y q2=>exact⟨y,q2,rfl⟩
    have HNx:=aA (hn ▸ UV HPq.out);have HTk:=aA (show Calls aE 42 #[aM (some ⟨M+1,0,none⟩),aB aC 1,aF none 0 0] wr (λe w'=>e=aL y.agg/\cI en M q2 w'/\cA M 0 wr w')from QV en M 1 y q2 _ [] wr HPq.out (Rd.nil _ _) hn);have HK2:Hid ((r.takeWhile (cD 1 [])).map Lx.text=(ws++[y.text])++(q2.takeWhile (cD 1 [])).map Lx.text/\r.dropWhile (cD 1 [])=q2.dropWhile (cD 1 [])):=by
     obtain⟨h1,h2⟩:=HK.out;have hy:cD 1 [] y=true:=hn;rw[List.takeWhile_cons,if_pos hy]at h1;rw[List.dropWhile_cons,if_pos hy]at h2;exact⟨by rw[h1];simp,h2⟩
    have HLn:=aA HPq.out.len;simp only[aY]at hq;simp only[Lx.agg]at HTk;have HSy:Hid (sv y.text=aD ⟨y.text.toArray⟩):=rfl;clear hn HK HPq;generalize(⟨y.text.toArray⟩:ByteArray)=ys at*;go_wp2_with(first
     |(go_at_call 90;(with_reducible refine HNx.out.mono ?_);rintro e w' ⟨rfl,rfl⟩)
     |(go_at_call 42;(with_reducible refine HTk.out.mono ?_);rintro e W1 ⟨rfl,hp1,hu1⟩;have HP1:=aA hp1;have HU1:=aA hu1;have HO1:=aA (UD hu1 HO.out hlt);have hs2:=hu1.turned.size;clear hp1 hu1)
     |(at_builtin;refine mJ rfl _ _ 44 rfl yX W.heap.size rfl (HO1.out.alloc _) (by simp[go_sem]<;>omega) ⟨_,0,none⟩ 1 1 [.string ys] rfl rfl (eR (c:= #[.string ys]) (by simp[go_sem])) (by simp[Value.oneCell']) (by unfold maxLen;omega) om ?_;intro v2 W2 ho2 hg2;have HT2:=aA (((aJ.refl (λb=>W.heap.size<=b) W1).alloc _).trans (aJ.of_own hg2 (HO1.out.alloc _)));have HO2:=aA ho2;clear ho2 hg2))
    go_roundw
    case rel=>
     have hp2:=HP1.out.turned HT2.out (λb hb=>by omega);have hu2:=(HU.out.trans HU1.out).own hlt HT2.out;refine⟨ws++[y.text],q2,by rw[aZ];simp only[aY,dY];omega, ?_,hp2,hu2,HK2.out⟩;show World.ownsRow _ _ _ _ _ _ _;rw[<-List.cons_append,List.map_append,List.map_singleton,HSy.out,aZ];exact HO2.out
    case measure=>
     have hp2:=HP1.out.turned HT2.out (λb hb=>by omega);have h1:=hp2.len;have h2:=HLn.out;simp only[aY]at h2;show vU M W2<vU M wr;omega
def tQ (M:Nat) (told:List Bs) (W:World):Prop:= ∃(n:Nat) (D:DataW Nat),n<=told.length/\told.length<=1000000/\W.ownsMap aE 9 (plainElem aE 3) M n D/\Maps.IsMap D/\ ∀t:Bs,Maps.has D (.string t)=decide (t∈told)
def fT (j:Nat):TypeId:=if j=4 then 65 else if j=5 then 81 else 9
structure cW (en M:Nat) (s:Ps) (W:World):Prop where
 r:cI en M s.rest W
 row: ∀j,j<6-> ∃v,W.cell? ⟨M+1,2+j,none⟩=some v/\W.ownsRow (M+2) (fT j) (fS j) v (fN s.pol j) (fC s.pol j)
 apart: ∀i j v u b,i<6->j<6->i≠j->W.cell? ⟨M+1,2+i,none⟩=some v->W.cell? ⟨M+1,2+j,none⟩=some u->v.ownBlock=some b->u.ownBlock≠some b
 c8:W.cell? ⟨M+1,8,none⟩=some (aI s.pol.rel)
 c9:W.cell? ⟨M+1,9,none⟩=some (aB aC s.pol.depth)
 c10:W.cell? ⟨M+1,10,none⟩=some (aB aC s.pol.name)
 c11:W.cell? ⟨M+1,11,none⟩=some (aB aC s.pol.value)
 c12:W.cell? ⟨M+1,12,none⟩=some (.map (some M))
 told:tQ M s.told W
theorem tQ.kept {M:Nat} {told:List Bs} {W W':World} (h:tQ M told W) (hb:W'.heap[M]? =W.heap[M]?):tQ M told W':=by
 obtain⟨n,D,h1,h2,⟨es,clock,h3,h4⟩,h5⟩:=h;exact⟨n,D,h1,h2,⟨es,clock,hb.trans h3,h4⟩,h5⟩
theorem tQ.lt {M:Nat} {told:List Bs} {W:World} (h:tQ M told W):M<W.heap.size:=by
 obtain⟨n,D,_,_,h3,_⟩:=h;exact h3.lt
theorem xK {pv:Nat->Prop} {W W':World} (ht:aJ pv W W') {B:Nat} {e:TypeId} {size n:Nat} {v:Value} {xs:List Value} (ho:W.ownsRow B e size v n xs) (hp: ∀b,v.ownBlock=some b-> ¬pv b):W'.ownsRow B e size v n xs:=by
 refine⟨ho.1, ?_⟩;rcases ho.2 with h|⟨g,cap,cur,rfl,hg1,hg2,r⟩
 .exact .inl h
 .exact .inr ⟨g,cap,cur,rfl,hg1,(ht.block g (Array.getElem?_eq_some_iff.1 hg2).1 (hp g rfl)).trans hg2,r⟩
theorem cW.took {en M:Nat} {s:Ps} {q:List Lx} {W W':World} (h:cW en M s W) (hr:cI en M q W') (hu:cA M 0 W W'):cW en M ⟨q,s.pol,s.told⟩ W' where
 r:=hr
 row j hj:=by
  obtain⟨v,hv,ho⟩:=h.row j hj;exact⟨v,(hu.cell _ om).trans hv,xK hu.turned ho (λb hb hx=>by have:=(ho.lt b hb).1;omega)⟩
 apart i j v u b hi hj hij hv hu':=h.apart i j v u b hi hj hij ((hu.cell _ om).symm.trans hv) ((hu.cell _ om).symm.trans hu')
 c8:=(hu.cell _ om).trans h.c8
 c9:=(hu.cell _ om).trans h.c9
 c10:=(hu.cell _ om).trans h.c10
 c11:=(hu.cell _ om).trans h.c11
 c12:=(hu.cell _ om).trans h.c12
 told:=h.told.kept (hu.turned.block M h.told.lt om)
theorem cW.grown {en M:Nat} {s:Ps} {W W':World} (h:cW en M s W) (hb:Below W.heap.size W W'):cW en M s W':=h.took (h.r.grown hb) ((cA.refl M 0 W).below h.r.lt hb)
theorem cW.tell {en M:Nat} {s:Ps} {W W':World} (h:cW en M s W) (hg:W.grownBy W' (some M)) {told':List Bs} (ht:tQ M told' W'):cW en M ⟨s.rest,s.pol,told'⟩ W':=by
 have hl:=h.r.lt;have htu:aJ (λb=>b=M) W W':=⟨hg.os,hg.tape,hg.output,hg.size,λk hk hn=>hg.block k hk (λe=>hn (jP.inj e))⟩;have hb:=hg.block (M+1) hl (λe=>by have:=jP.inj e;omega);have hc: ∀j,W'.cell? ⟨M+1,j,none⟩=W.cell? ⟨M+1,j,none⟩:=λj=>World.cell?_of_block hb;obtain⟨A,c,h1,h2,h3⟩:=h.r.rest;refine⟨⟨⟨A,c,(hc 0).trans h1,h2,h3.turned (htu.mono λb hb=>by omega)⟩,(hc 1).trans h.r.end_,λj=>(World.frozen?_of_block hb).trans (h.r.fz j)⟩,λj hj=> ?_,λi j v u b hi hj hij hv hu'=>h.apart i j v u b hi hj hij ((hc _).symm.trans hv) ((hc _).symm.trans hu'),(hc 8).trans h.c8,(hc 9).trans h.c9,(hc 10).trans h.c10,(hc 11).trans h.c11,(hc 12).trans h.c12,ht⟩;obtain⟨v,hv,ho⟩:=h.row j hj;exact⟨v,(hc _).trans hv,xK htu ho (λb hb hx=>by have:=(ho.lt b hb).1;omega)⟩
theorem tQ.more {M:Nat} {told:List Bs} {W':World} {t:Bs} {n:Nat} {D:DataW Nat} {d:DataW Nat} (hn:n<=told.length) (hl:told.length<1000000) (hm:Maps.IsMap D) (hh: ∀t:Bs,Maps.has D (.string t)=decide (t∈told)) (ho:W'.ownsMap aE 9 (plainElem aE 3) M (n+1) (D.put (.string t) d)):tQ M (t::told) W':=by
 refine⟨n+1,_,by simp only[aY];omega,by simp only[aY];omega,ho,hm.put _ _,λu=> ?_⟩;by_cases he:u=t
 .subst he;rw[Maps.has_put_same hm (by trivial)];simp
 .rw[Maps.has_put_other (by intro e;cases e;exact he rfl),hh u];simp[he]
theorem LJ (en M a:Nat) (what:Bs) (s:Ps) (W:World) (h:cW en M s W) (hw:what.length<=1000000) (ha:a<=1000000000) (hs:s.told.length<1000000):
  Calls aE 45 #[aM (some ⟨M+1,0,none⟩),aB aC a,aD ⟨what.toArray⟩] W (vF M W (iB en a what s.rest s.told) λp e w'=>e=aL (Value.tuple #[])/\cW en M ⟨p.1,s.pol,p.2⟩ w'/\aJ (λb=>b=M\/b=M+1) W w'/\ ∀i,i≠0->w'.cell? ⟨M+1,i,none⟩=W.cell? ⟨M+1,i,none⟩):=by
 have hmx:=bX;have hlt:=h.r.lt;have HTk:=aA (λW' (hb:Below W.heap.size W W') v (hv:Rd W' v [fP].length 1 ([fP].map sv))=>show Calls aE 42 #[aM (some ⟨M+1,0,none⟩),aB aC 4,v] W' _ from wZ h.r hb om (qX en M 4 s.rest v [fP] W' (h.r.grown hb) hv));have HPar:=aA h;have HK:Hid (keyOf aE 9 (aD ⟨what.toArray⟩)=some (.string what)):=WideMaps.keyOf_string_mk kr (by show what.length<=_;unfold maxLen;omega);have HW:Hid (iB en a what s.rest s.told=match dE en 4 [fP] s.rest with
  | .error f=> .error f
  | .ok (_,q)=>if what∈s.told then .error ⟨a,5⟩else .ok (q,what::s.told)):=rfl
 obtain⟨R,hR⟩: ∃R,iB en a what s.rest s.told=R:=⟨_,rfl⟩;rw[hR]at HW ⊢;clear hR h;cases ht:dE en 4 [fP] s.rest with
 |error f=>
  rw[ht]at HW HTk;rw[HW.out];clear ht HW HK;go_enter Tryz.func45,Tryz.ntmps45;go_wp2_with(go_at_call 42;(refine(HTk.out _ aG _ (oV (ts:=[fP]) (by simp) rfl rfl (by simp))).mono ?_);rintro e W1 ⟨rfl,hb1⟩;have HB1:=aA hb1;clear hb1)
  exact⟨rfl,rfl,HB1.out⟩
 |ok p=>
  obtain⟨y,q⟩:=p;rw[ht]at HW HTk;have HTk2:=aA (λW' hb v hv=>show Calls aE 42 #[aM (some ⟨M+1,0,none⟩),aB aC 4,v] W' (λe w'=>e=aL y.agg/\cI en M q w'/\cA M 0 W w')from HTk.out W' hb v hv);have HW2:Hid (R=if what∈s.told then .error ⟨a,5⟩else .ok (q,what::s.told)):=HW.out;clear ht HW HTk;generalize(⟨what.toArray⟩:ByteArray)=ws at*;go_enter Tryz.func45,Tryz.ntmps45;go_upto_region 1 with(go_at_call 42;(refine(HTk2.out _ aG _ (oV (ts:=[fP]) (by simp) rfl rfl (by simp))).mono ?_);rintro e W1 ⟨rfl,hp1,hu1⟩;have HP1:=aA (HPar.out.took hp1 hu1);have HU1:=aA hu1;clear hp1 hu1)
  have x12:=HP1.out.c12;obtain⟨n,D,hn1,hn2,hown,hmap,hhas⟩:=HP1.out.told;have HO:=aA hown;have HH:=aA (hhas what);have HM:=aA (And.intro hmap hhas);clear hown hmap hhas HTk2;have hz:(zeroValue 3).run aE W1= .ok (aB aC 0) W1:=by kernel_rfl
  by_cases hin:what∈s.told
  .rw[decide_eq_true hin]at HH;have HR:Hid (R= .error ⟨a,5⟩):=by show _=_;rw[HW2.out,if_pos hin]
   clear hin HW2;go_wp2_with(at_lookup;(refine wpList_lookup_own_ok_int _ rfl _ _ 53 rfl 9 3 .i64 (Maps.string_keyed dH) Xv lR hz M n D rfl HO.out _ _ rfl HK.out ?_);intro c hat hwc;rw[HH.out])
   refine⟨rfl, ?_⟩;rw[HR.out];exact⟨rfl,HU1.out.below' hlt⟩
  .rw[decide_eq_false hin]at HH;have HR:Hid (R= .ok (q,what::s.told)):=by show _=_;rw[HW2.out,if_neg hin]
   clear hin HW2;have hai:(Lit.int .i64 (a:Int)).wf=true:=by
    have e1:aC.min= -9223372036854775808:=rfl;have e2:aC.max=9223372036854775807:=rfl;simp only[Lit.wf,e1,e2,Bool.and_eq_true,decide_eq_true_eq];omega
   go_wp2_with(first
    |(at_lookup;(refine wpList_lookup_own_ok_int _ rfl _ _ 53 rfl 9 3 .i64 (Maps.string_keyed dH) Xv lR hz M n D rfl HO.out _ _ rfl HK.out ?_);intro c hat hwc;rw[HH.out])
    |(at_mapUpdate;(refine wpList_mapUpdate_own _ rfl _ _ _ 53 rfl 9 3 (Maps.string_keyed dH) Xv _ M n D rfl HO.out (by unfold maxLen;omega) _ _ (.string what) rfl rfl HK.out _ [] (plainElem_int lR hai) ?_);intro W2 hown2 hg2;have HO2:=aA hown2;have HG2:=aA hg2;clear hown2 hg2))
   go_end0;rw[HR.out];refine⟨rfl,HP1.out.tell HG2.out (tQ.more hn1 hs HM.out.1 HM.out.2 HO2.out), ?_,λi hi=>(World.cell?_of_block (HG2.out.block (M+1) HP1.out.r.lt (λe=>by have:=jP.inj e;omega))).trans (HU1.out.cell i hi)⟩;exact(HU1.out.turned.mono λb hb=> .inr hb).trans ⟨HG2.out.os,HG2.out.tape,HG2.out.output,HG2.out.size,λk hk hn=>HG2.out.block k hk (λe=>hn (.inl (jP.inj e)))⟩
theorem cW.put {en M j:Nat} {s:Ps} {W W1:World} {v v':Value} {p:aO} (h:cW en M s W) (hj:j<6) (hv:W.cell? ⟨M+1,2+j,none⟩=some v) (hT:aJ (λb=>v.ownBlock=some b) W W1) (ho:W1.ownsRow (M+2) (fT j) (fS j) v' (fN p j) (fC p j))
  (hat:v'.ownBlock=v.ownBlock\/ ∃g,v'.ownBlock=some g/\W.heap.size<=g) (hp: ∀i,i<6->i≠j->fN p i=fN s.pol i/\fC p i=fC s.pol i) (h8:p.rel=s.pol.rel) (h9:p.depth=s.pol.depth) (h10:p.name=s.pol.name) (h11:p.value=s.pol.value):
  cW en M ⟨s.rest,p,s.told⟩ (W1.setCell ⟨M+1,2+j,none⟩ v')/\Below M W (W1.setCell ⟨M+1,2+j,none⟩ v'):=by
 have hl:=h.r.lt;have hM:=h.told.lt;obtain⟨v9,hv9,hov⟩:=h.row j hj;rw[hv]at hv9;cases hv9;have hvb: ∀b,v.ownBlock=some b->M+2<=b:=λb hb=>(hov.lt b hb).1;have hb1:=hT.block (M+1) hl (λhb=>by have:=hvb _ hb;omega);have hl1:M+1<W1.heap.size:=bQ hl hT.size;have hc: ∀i,W1.cell? ⟨M+1,i,none⟩=W.cell? ⟨M+1,i,none⟩:=λi=>World.cell?_of_block hb1;have hs: ∀i,i≠2+j->(W1.setCell ⟨M+1,2+j,none⟩ v').cell? ⟨M+1,i,none⟩=W.cell? ⟨M+1,i,none⟩:=λi hi=>by
  rw[World.cell?_setCell_other _ _ _ _ (by intro e;cases e;exact hi rfl)];exact hc i
 have hsj:(W1.setCell ⟨M+1,2+j,none⟩ v').cell? ⟨M+1,2+j,none⟩=some v':=World.cell?_setCell_same _ _ _ ((hc _).trans hv);have hTs:aJ (λb=>v.ownBlock=some b\/b=M+1) W (W1.setCell ⟨M+1,2+j,none⟩ v'):=aJ.setCell (pv:=λb=>v.ownBlock=some b\/b=M+1) (p:=⟨M+1,2+j,none⟩) (hT.mono λb hb=> .inl hb) (.inr (.inr rfl)) _;have hT1:aJ (λb=>b=M+1) W1 (W1.setCell ⟨M+1,2+j,none⟩ v'):=aJ.setCell (pv:=λb=>b=M+1) (p:=⟨M+1,2+j,none⟩) (aJ.refl _ W1) (.inr rfl) _;refine⟨⟨⟨?_, ?_,λi=> ?_⟩,λi hi=> ?_,λi k u1 u2 b hi hk hik hu1 hu2 hb=> ?_, ?_, ?_, ?_, ?_, ?_, ?_⟩,hTs.below om (λk hk=>hk.elim (λhk=>by have:=hvb k hk;omega) (λhk=>by omega))⟩
 .obtain⟨A,c,h1,h2,h3⟩:=h.r.rest;refine⟨A,c,(hs 0 om).trans h1,h2,h3.turned (hTs.mono λb hb=> ?_)⟩;rcases hb with hb|hb
  .have:=hvb b hb;omega
  .omega
 .exact(hs 1 om).trans h.r.end_
 .rw[World.frozen?_setCell,World.frozen?_of_block hb1];exact h.r.fz i
 .by_cases hij:i=j
  .subst hij;exact⟨v',hsj,xK hT1 ho (λb hb hx=>by have:=(ho.lt b hb).1;omega)⟩
  .obtain⟨u,hu,hou⟩:=h.row i hi;refine⟨u,(hs _ om).trans hu, ?_⟩;obtain⟨e1,e2⟩:=hp i hi hij;show World.ownsRow _ _ _ _ _ (fN p i) (fC p i);rw[e1,e2];refine xK hTs hou (λb hb hx=> ?_);rcases hx with hx|hx
   .exact h.apart i j u v b hi hj hij hu hv hb hx
   .have:=(hou.lt b hb).1;omega
 .by_cases hij:i=j
  .subst hij;rw[hsj]at hu1;cases hu1;rw[hs _ om]at hu2;obtain⟨u,hu,hou⟩:=h.row k hk;rw[hu]at hu2;cases hu2;intro hb2;rcases hat with hat|⟨g,hat,hg⟩
   .exact h.apart i k v _ b hi hk hik hv hu (hat ▸ hb) hb2
   .rw[hat]at hb;cases hb;have:=(hou.lt _ hb2).2;omega
  .by_cases hkj:k=j
   .subst hkj;rw[hsj]at hu2;cases hu2;rw[hs _ om]at hu1;obtain⟨u,hu,hou⟩:=h.row i hi;rw[hu]at hu1;cases hu1;intro hb2;rcases hat with hat|⟨g,hat,hg⟩
    .exact h.apart i k _ v b hi hk hik hu hv hb (hat ▸ hb2)
    .rw[hat]at hb2;cases hb2;have:=(hou.lt _ hb).2;omega
   .rw[hs _ om]at hu1 hu2;exact h.apart i k u1 u2 b hi hk hik hu1 hu2 hb
 .show _=some (aI p.rel);rw[h8];exact(hs 8 om).trans h.c8
 .show _=some (aB _ p.depth);rw[h9];exact(hs 9 om).trans h.c9
 .show _=some (aB _ p.name);rw[h10];exact(hs 10 om).trans h.c10
 .show _=some (aB _ p.value);rw[h11];exact(hs 11 om).trans h.c11
 .exact(hs 12 om).trans h.c12
 .have hbM:=hTs.block M hM (λhb=>hb.elim (λhb=>by have:=hvb _ hb;omega) (λhb=>by omega));exact h.told.kept hbM
