/- The walks of the parser: pieces taken, words, what may be told but once. -/
import Derived.BigRegion
import Derived.Maps.OwnOps
import Derived.Maps.OwnSet
import Derived.StringKeys
import Derived.Maps.AppendAt
import Derived.Test.YtiikamobcmgekaaGreatDoorShelf
import Derived.Test.YtiikamobcmgekaaGreatDoorWN
import Derived.Test.YtiikamobcmgekaaGreatDoorLC
namespace Go.Proofs.YtiikamobcmgekaaGreatDoor
open Lib renaming hid→z2c
open List renaming length_cons→z2i,length_nil→z28
open Tryz renaming ntmps188→z6i,prog→z2f
set_option maxRecDepth 100000
set_option maxHeartbeats 4000000
open Go.RowKit
attribute [local go_sem] Oper.semAt_some
structure ParR (en M:Nat) (l:List Lx) (W:World):Prop where
 rest: ∃A c,W.cell? ⟨M+1,0,none⟩=some (.slice A l.length c)/\l.length<=c/\Rx W (fun b=>M<=b) (.slice A l.length c) l.length 3 (za6 l)
 end_:W.cell? ⟨M+1,1,none⟩=some (.int .i64 en)
 fz: ∀j,W.frozen? ⟨M+1,j,none⟩=false
def Lx.agg (x:Lx):Value:= .agg #[.int .i64 x.kind,.int .i64 x.at_,.string ⟨x.text.toArray⟩]
theorem Rd.lx {w:World} {A:Option Addr} {n c:Nat} {l:List Lx} {x:Lx} (h:Rd w (.slice A n c) (x::l).length 3 (za6 (x::l))): ∃b off,A=some ⟨b,off,none⟩/\b<w.heap.size/\w.cell? ⟨b,off,none⟩=some (.int .i64 x.kind)/\w.cell? ⟨b,off+1,none⟩=some (.int .i64 x.at_)/\w.cell? ⟨b,off+2,none⟩=some (.string ⟨x.text.toArray⟩):=by
 obtain⟨_,_,A',c',e,h4⟩:=h;cases e;obtain⟨b,off,rfl,hb,hc⟩:=h4 (by simp);exact⟨b,off,rfl,hb,hc 0 _ rfl,hc 1 _ rfl,hc 2 _ rfl⟩
theorem zpc (v:Value) (ts:List Bs) (t:Bs) (w:World) (h:Rd w v ts.length 1 (ts.map sv)):Calls z2f 255 #[v,.string ⟨t.toArray⟩] w fun e w'=>e= .returned (.bool (decide (t∈ts)))/\w=w':=by
 obtain⟨h1,h2,A,c,rfl,h4⟩:=h;by_cases h0:ts=[]
 ·subst h0;refine(Tryz.slices_Contains_string_empty A c _ w).mono ?_;rintro e w' ⟨rfl,rfl⟩;exact⟨by simp,rfl⟩
 ·obtain⟨b,off,rfl,hb,hc⟩:=h4 (List.length_pos_iff.2 h0);have hz:(ts.map fun u:Bs=>(⟨u.toArray⟩:ByteArray)).length=ts.length:=List.length_map ..;refine(Tryz.slices_Contains_string b off ts.length c (ts.map fun u=>⟨u.toArray⟩) _ w (by omega) h2 (fun j hj=> ?_)).mono ?_
  ·rw[hz]at hj;rw[hc j (sv ts[j]) (by simp[hj])];simp[sv,hj]
  ·rintro e w' ⟨rfl,rfl⟩;refine⟨?_,rfl⟩;congr 2;rw[List.take_of_length_le (by omega),Bool.eq_iff_iff,Lib.containsS_iff,decide_eq_true_eq,List.mem_map];constructor
   ·rintro⟨u,hu,he⟩;have:u=t:=congrArg (fun b:ByteArray=>b.data.toList) he;exact this ▸ hu
   ·exact fun h=>⟨t,h,rfl⟩
theorem z08 (en M:Nat) (l:List Lx) (W:World) (h:ParR en M l W):Calls z2f 189 #[.pointer (some ⟨M+1,0,none⟩)] W fun e w'=>e= .returned (.int .i64 (atP en l))/\W=w':=by
 obtain⟨A,c,hc,_,A',c',he,_,hr,_⟩:=h.rest;cases he;have he:=h.end_;clear h;cases l with
 |nil=>
  clear hr;simp only[z28]at hc;go_enter Tryz.func189,Tryz.ntmps189;go_wp2_with fail
  go_ret;exact⟨rfl,rfl⟩
 |cons x r=>
  obtain⟨b,off,rfl,hb,x0,x1,x2⟩:=Rd.lx hr;have hp:0<(x::r).length:=by simp
  generalize(x::r).length=N at*;clear hr;go_enter Tryz.func189,Tryz.ntmps189;go_wp2_with fail
  go_ret;exact⟨rfl,rfl⟩
theorem zhj (en M:Nat) (l:List Lx) (k:Nat) (v:Value) (ts:List Bs) (W:World) (h:ParR en M l W) (hv:Rd W v ts.length 1 (ts.map sv)):Calls z2f 188 #[.pointer (some ⟨M+1,0,none⟩),.int .i64 k,v] W fun e w'=>e= .returned (.bool (za2 k ts l))/\W=w':=by
 obtain⟨A,c,hc,_,A',c',he,_,hr,_⟩:=h.rest;cases he;obtain⟨Av,cv,rfl⟩: ∃A c,v= .slice A ts.length c:=by obtain⟨_,_,A,c,e,_⟩:=hv;exact⟨A,c,e⟩
 clear h;cases l with
 |nil=>
  clear hr hv;simp only[z28]at hc;go_enter Tryz.func188,z6i;go_wp2_with fail
  go_ret;exact⟨rfl,rfl⟩
 |cons x r=>
  obtain⟨b,off,rfl,hb,x0,x1,x2⟩:=Rd.lx hr;have HC:=z2c (zpc _ ts x.text W hv);have hp:0<(x::r).length:=by simp
  have HN:Hid (za2 k ts (x::r)=(decide (x.kind=k)&&(ts.isEmpty||decide (x.text∈ts)))):=rfl;obtain⟨D,hD⟩: ∃D,za2 k ts (x::r)=D:=⟨_,rfl⟩;rw[hD]at HN ⊢;generalize(x::r).length=N at*;generalize(⟨x.text.toArray⟩:ByteArray)=a1 at*;generalize x.at_=xa at*;clear hr hv hD;by_cases hk:x.kind=k
  ·rw[hk]at x0;rw[decide_eq_true hk,Bool.true_and]at HN;clear hk;cases ts with
   |nil=>
    have HN2:Hid (D=true):=HN.out;clear HC;simp only[z28];go_enter Tryz.func188,z6i;go_wp2_with fail
    go_ret;exact⟨by rw[HN2.out];rfl,rfl⟩
   |cons t ts=>
    have HN2:Hid (D=decide (x.text∈t::ts)):=HN.out;have hn:(((t::ts).length:Int)==0)=false:=by rw[beq_eq_false_iff_ne];simp;omega
    generalize decide (x.text∈t::ts)=E at*;generalize(t::ts).length=m at*;clear HN;go_enter Tryz.func188,z6i;go_wp2_with(go_at_call 255;(with_reducible refine HC.out.mono ?_);rintro e w' ⟨rfl,rfl⟩)
    go_ret;exact⟨by rw[HN2.out];rfl,rfl⟩
  ·have hkb:((x.kind:Int) !=(k:Int))=true:=by simp;omega
   have HN2:Hid (D=false):=by show _=_;rw[HN.out,decide_eq_false hk];rfl
   generalize x.kind=xk at*;clear HC HN hk;go_enter Tryz.func188,z6i;go_wp2_with fail
   go_ret;exact⟨by rw[HN2.out];rfl,rfl⟩
structure Upd (M j:Nat) (W W':World):Prop where
 turned:zab (fun b=>b=M+1) W W'
 cell: ∀i,i≠j->W'.cell? ⟨M+1,i,none⟩=W.cell? ⟨M+1,i,none⟩
 fz: ∀i,W'.frozen? ⟨M+1,i,none⟩=W.frozen? ⟨M+1,i,none⟩
theorem zgp {en k:Nat} {ts:List Bs} {l r:List Lx} {x:Lx} (h:zb0 en k ts l= .ok (x,r)):l=x::r/\za2 k ts l=true:=by
 obtain⟨rfl,hi⟩:=za1 h;exact⟨rfl,hi⟩
theorem zz5 {en k:Nat} {ts:List Bs} {l:List Lx} {f:Flt} (h:zb0 en k ts l= .error f):za2 k ts l=false/\f=⟨atP en l,2⟩:=by
 cases l with
 |nil=>cases h;exact⟨rfl,rfl⟩
 |cons y q=>
  have h:(if isP k ts y=true then Except.ok (y,q)else .error ⟨y.at_,2⟩:Rs (Lx × List Lx))= .error f:=h;by_cases hi:isP k ts y=true
  ·rw[if_pos hi]at h;cases h
  ·rw[if_neg hi]at h;cases h;exact⟨by simpa[za2]using hi,rfl⟩
def fltV (f:Flt):Value:= .iface 90 (.agg #[.int .i64 f.at_,.int .i64 f.code])
def Dies (w:World) (f:Flt) (e:Ending) (w':World):Prop:=e= .panicked [{v:=fltV f,recovered:=false}]/\Below w.heap.size w w'
theorem ParR.lt {en M:Nat} {l:List Lx} {W:World} (h:ParR en M l W):M+1<W.heap.size:=World.block_lt_of_cell? W _ h.end_
theorem ParR.grown {en M:Nat} {l:List Lx} {W W':World} (h:ParR en M l W) (hb:Below W.heap.size W W'):ParR en M l W':=by
 have hl:=h.lt;obtain⟨A,c,hc,hcl,hr⟩:=h.rest;exact⟨⟨A,c,(hb.cell hl).trans hc,hcl,hr.below hb⟩,(hb.cell hl).trans h.end_,fun j=>(World.frozen?_of_block (hb.block _ hl)).trans (h.fz j)⟩
theorem Rd.lxrest {W:World} {b off c N:Nat} {x:Lx} {r:List Lx} (h:Rd W (.slice (some ⟨b,off,none⟩) N c) (x::r).length 3 (za6 (x::r))) (hN:r.length=N-1):Rd W (.slice (some ⟨b,off+3,none⟩) (N-1) (c-1)) r.length 3 (za6 r):=by
 obtain⟨_,h2,A',c',e,h4⟩:=h;cases e;refine⟨zj8 r,by omega,_,_,by rw[hN],fun h0=> ?_⟩;obtain⟨b2,off2,h5,hb,hc⟩:=h4 (by simp);cases h5;refine⟨b,off+3,rfl,hb,fun j u hu=> ?_⟩;have h9:=hc (j+3) u (by
  show(za6 (x::r))[j+3]? =some u;have:za6 (x::r)=x.cells++za6 r:=rfl;rw[this,List.getElem?_append_right (by simp[Lx.cells])];simpa[Lx.cells]using hu)
 rw[show off+3+j=off+(j+3) by omega];exact h9
theorem Upd.set {M j:Nat} {W:World} (v:Value):Upd M j W (W.setCell ⟨M+1,j,none⟩ v):=
 ⟨zab.setCell (pv:=fun b=>b=M+1) (p:=⟨M+1,j,none⟩) (zab.refl _ W) (.inr rfl) _,fun i hi=>World.cell?_setCell_other _ _ _ _ (by intro e;cases e;exact hi rfl),fun i=>World.frozen?_setCell _ _ _ _⟩
theorem Upd.below {M j:Nat} {W V W':World} (h:Upd M j W V) (hl:M+1<V.heap.size) (hb:Below V.heap.size V W'):Upd M j W W':=
 ⟨h.turned.trans (zab.of_below hb),fun i hi=>(hb.cell hl).trans (h.cell i hi),fun i=>(World.frozen?_of_block (hb.block _ hl)).trans (h.fz i)⟩
theorem ParR.took {en M:Nat} {x:Lx} {r:List Lx} {W W':World} (h:ParR en M (x::r) W) {A:Option Addr} {c n:Nat} (hn:n=r.length) (hc:W'.cell? ⟨M+1,0,none⟩=some (.slice A n c)) (hcl:n<=c) (hr:Rx W (fun b=>M<=b) (.slice A n c) r.length 3 (za6 r)) (hu:Upd M 0 W W'):ParR en M r W':=by
 subst hn;exact⟨⟨A,c,hc,hcl,hr.turned (hu.turned.mono fun b hb=>by omega)⟩,(hu.cell 1 (by omega)).trans h.end_,fun j=>(hu.fz j).trans (h.fz j)⟩
theorem zr1 {en M:Nat} {x:Lx} {r:List Lx} {W W':World} (h:ParR en M (x::r) W) {A:Option Addr} {c n:Nat} (hb:Below (W.setCell ⟨M+1,0,none⟩ (.slice A n c)).heap.size (W.setCell ⟨M+1,0,none⟩ (.slice A n c)) W') (hn:n=r.length) (hcl:n<=c) (hr:Rx W (fun b=>M<=b) (.slice A n c) r.length 3 (za6 r)):ParR en M r W'/\Upd M 0 W W':=by
 have hl:M+1<(W.setCell ⟨M+1,0,none⟩ (.slice A n c)).heap.size:=Nat.lt_of_lt_of_le h.lt (Upd.set (M:=M) (j:=0) (W:=W) (.slice A n c)).turned.size;have hu:=(Upd.set (M:=M) (j:=0) (W:=W) (.slice A n c)).below hl hb;obtain⟨A0,c0,hc0,_⟩:=h.rest;exact⟨h.took hn ((hb.cell hl).trans (World.cell?_setCell_same _ _ _ hc0)) hcl hr hu,hu⟩
theorem zv1 (en M k:Nat) (x:Lx) (r:List Lx) (v:Value) (ts:List Bs) (W:World) (h:ParR en M (x::r) W) (hv:Rd W v ts.length 1 (ts.map sv)) (hi:za2 k ts (x::r)=true):
  Calls z2f 111 #[.pointer (some ⟨M+1,0,none⟩),.int .i64 k,v] W fun e w'=>e= .returned x.agg/\ParR en M r w'/\Upd M 0 W w':=by
 have HNx:=z2c (fun W' (hb:Below W.heap.size W W')=>hi ▸ zhj en M (x::r) k v ts W' (h.grown hb) (by obtain⟨X,rfl⟩:=zao hb;exact hv.grow X));have hlt:=h.lt;have HPar:=z2c h;obtain⟨A,c,hc,hcl,A',c',he,hA0,hr,hbl⟩:=h.rest;cases he;have hf:=h.fz 0;obtain⟨b,off,rfl,hb,x0,x1,x2⟩:=Rd.lx hr;have HR:=z2c hr;have HBl:=z2c (hbl (by simp) b off none rfl);clear h hv hi hr hbl hA0;obtain⟨N,hN⟩: ∃N,(x::r).length=N:=⟨_,rfl⟩;have hrN:r.length=N-1:=by rw[<-hN];simp
 have HN:=z2c hrN;have hN1:1<=N:=by rw[<-hN];simp
 rw[hN]at hc hcl HR;have HRl:=z2c (show Rd W (.slice (some ⟨b,off,none⟩) N c) (x::r).length 3 (za6 (x::r)) by rw[hN];exact HR.out);clear hN hrN HR;unfold Lx.agg;generalize(⟨x.text.toArray⟩:ByteArray)=a1 at*;generalize x.at_=xa at*;generalize x.kind=xk at*;have i1:(0:Int)<=1/\(1:Int)<=N/\(N:Int)<=c:=by omega
 have i2:0<N:=by omega
 have hlt2:M<W.heap.size:=by omega
 have hne: ¬M+1=W.heap.size:=by omega
 by_cases hc1:c=1
 ·have HE:Hid (r=[]):=List.eq_nil_of_length_eq_zero (by have:=HN.out;omega);have hN2:N=1:=by omega
  subst hc1 hN2;go_enter Tryz.func111,Tryz.ntmps111;go_wp2_with(go_at_call 188;(with_reducible refine(HNx.out _ bel).mono ?_);rintro e w' ⟨rfl,rfl⟩)
  ((try simp only[Exit.inBlock,Exit.then]);refine bodyPost_ret (v:= .agg #[.int .i64 xk,.int .i64 xa,.string a1]) (by(first|rw[results_cell_tmp rfl]|rw[zde rfl]);go_simp) rfl ?_);exact⟨rfl,zr1 (A:=some ⟨b,off,none⟩) (c:=0) (n:=0) HPar.out bel (by have:=HN.out;omega) (by omega) (by rw[HE.out];exact⟨_,0,rfl,⟨fun h=>(by cases h),Nat.le_refl _⟩,Rd.empty,fun h=>absurd h (Nat.lt_irrefl 0)⟩)⟩
 ·have hc2:1<=c:=by omega
  go_enter Tryz.func111,Tryz.ntmps111;go_wp2_with(go_at_call 188;(with_reducible refine(HNx.out _ bel).mono ?_);rintro e w' ⟨rfl,rfl⟩)
  ((try simp only[Exit.inBlock,Exit.then]);refine bodyPost_ret (v:= .agg #[.int .i64 xk,.int .i64 xa,.string a1]) (by(first|rw[results_cell_tmp rfl]|rw[zde rfl]);go_simp) rfl ?_);have h9:=Rd.lxrest HRl.out HN.out;exact⟨rfl,zr1 (A:=some ⟨b,off+3,none⟩) (c:=c-1) (n:=N-1) HPar.out bel (by have:=HN.out;omega) (by omega) ⟨some ⟨b,off+3,none⟩,c-1,by rw[HN.out],⟨fun h=>(by cases h),(by have:=HN.out;omega)⟩,h9,fun _ b' off' s' he=>(by cases he;exact HBl.out)⟩⟩
theorem zzk (en M k:Nat) (l:List Lx) (v:Value) (ts:List Bs) (W:World) (f:Flt) (h:ParR en M l W) (hv:Rd W v ts.length 1 (ts.map sv)) (hi:zb0 en k ts l= .error f):
  Calls z2f 111 #[.pointer (some ⟨M+1,0,none⟩),.int .i64 k,v] W (Dies W f):=by
 obtain⟨hn,rfl⟩:=zz5 hi;have HNx:=z2c (fun W' (hb:Below W.heap.size W W')=>hn ▸ zhj en M l k v ts W' (h.grown hb) (by obtain⟨X,rfl⟩:=zao hb;exact hv.grow X));have HAt:=z2c (fun W' (hb:Below W.heap.size W W')=>z08 en M l W' (h.grown hb));clear h hv hi hn;go_enter Tryz.func111,Tryz.ntmps111;go_wp2_with(first|(go_at_call 188;(with_reducible refine(HNx.out _ bel).mono ?_);rintro e w' ⟨rfl,rfl⟩)|(go_at_call 189;(with_reducible refine(HAt.out _ bel).mono ?_);rintro e w' ⟨rfl,rfl⟩))
 exact⟨rfl,rfl,bel⟩
def zlb (M:Nat) (w:World) (f:Flt) (e:Ending) (w':World):Prop:=e= .panicked [{v:=fltV f,recovered:=false}]/\Below M w w'
def Out {α:Type} (M:Nat) (w:World) (r:Rs α) (ok:α->Ending->World->Prop) (e:Ending) (w':World):Prop:=match r with
 | .ok a=>ok a e w'
 | .error f=>zlb M w f e w'
theorem Upd.below' {M j:Nat} {W W':World} (h:Upd M j W W') (hl:M+1<W.heap.size):Below M W W':=h.turned.below (by omega) (fun k hk=>by omega)
theorem Upd.trans {M j:Nat} {A B C:World} (h:Upd M j A B) (k:Upd M j B C):Upd M j A C:=⟨h.turned.trans k.turned,fun i hi=>(k.cell i hi).trans (h.cell i hi),fun i=>(k.fz i).trans (h.fz i)⟩
theorem Upd.refl (M j:Nat) (W:World):Upd M j W W:=⟨zab.refl _ _,fun _ _=>rfl,fun _=>rfl⟩
theorem zdg {W:World} {c:Array Value} {e:TypeId} {n B:Nat} {ts:List Bs} (hB:B=W.heap.size) (he:c=(ts.map sv).toArray) (hn:n=ts.length) (h9:ts.length<=1000):Rd (W.alloc (.cells c e)) (.slice (some ⟨B,0,none⟩) n n) ts.length 1 (ts.map sv):=by
 subst hB he hn;have:=Rd.own (za5 (W:=W) (e:=e) (c:=(ts.map sv).toArray) (n:=ts.length) (size:=1) (by simp) (by unfold maxLen;omega));simpa using this
theorem zeb (a b c:Value) (W:World):(Instr.field 112 (.agg #[a,b,c]) 2).run z2f W= .ok c W:=by
 simp[Instr.field,go_sem];rfl
def zfz (M:Nat) (W:World):Nat:=match W.cell? ⟨M+1,0,none⟩with
 |some (.slice _ n _)=>n
 |_=>0
theorem ParR.len {en M:Nat} {l:List Lx} {W:World} (h:ParR en M l W):zfz M W=l.length:=by
 obtain⟨A,c,hc,_⟩:=h.rest;unfold zfz;rw[hc]
theorem zxg {M j:Nat} {W W':World} (h:Upd M j W W') {B:Nat} {e:TypeId} {size n:Nat} {v:Value} {xs:List Value} (ho:W.ownsRow B e size v n xs) (hB:M+1<B):W'.ownsRow B e size v n xs:=h.turned.own ho (fun k hk=>by omega)
theorem zc2 (en M k:Nat) (l:List Lx) (v:Value) (ts:List Bs) (W:World) (h:ParR en M l W) (hv:Rd W v ts.length 1 (ts.map sv)):
  Calls z2f 111 #[.pointer (some ⟨M+1,0,none⟩),.int .i64 k,v] W (Out M W (zb0 en k ts l) fun p e w'=>e= .returned p.1.agg/\ParR en M p.2 w'/\Upd M 0 W w'):=by
 cases ht:zb0 en k ts l with
 |error f=>exact(zzk en M k l v ts W f h hv ht).mono fun e w' ⟨h1,h2⟩=>⟨h1,h2.mono (by have:=h.lt;omega)⟩
 |ok p=>
  obtain⟨x,r⟩:=p;obtain⟨rfl,hn⟩:=zgp ht;exact zv1 en M k x r v ts W h hv hn
theorem zei {P:Program} {f:FuncId} {args:Array Value} {en M:Nat} {l:List Lx} {W W':World} {r:Rs (Lx × List Lx)} (_hp:ParR en M l W) (hb:Below W.heap.size W W') (hl:M+1<W.heap.size) (h:Calls P f args W' (Out M W' r fun p e w'=>e= .returned p.1.agg/\ParR en M p.2 w'/\Upd M 0 W' w')):Calls P f args W' (Out M W r fun p e w'=>e= .returned p.1.agg/\ParR en M p.2 w'/\Upd M 0 W w'):=by
 refine h.mono fun e w' h9=> ?_;cases r with
 |ok p=>exact⟨h9.1,h9.2.1,((Upd.refl M 0 W).below hl hb).trans h9.2.2⟩
 |error f=>exact⟨h9.1,(hb.mono (by omega)).trans h9.2⟩
theorem zox {en M:Nat} {l:List Lx} {W:World} (h:ParR en M l W):Calls z2f 188 #[.pointer (some ⟨M+1,0,none⟩),.int .i64 1,.slice none 0 0] W fun e w'=>e= .returned (.bool (za2 1 [] l))/\W=w':=zhj en M l 1 _ [] W h (Rd.nil _ _)
theorem ParR.turned {en M:Nat} {l:List Lx} {W W':World} {pv:Nat->Prop} (h:ParR en M l W) (ht:zab pv W W') (hp: ∀b,pv b->M+2<=b):ParR en M l W':=by
 have hl:=h.lt;have hn: ¬pv (M+1):=fun hb=>by have:=hp _ hb;omega
 have hb:=ht.block _ hl hn;obtain⟨A,c,hc,hcl,hr⟩:=h.rest;exact⟨⟨A,c,(World.cell?_of_block hb).trans hc,hcl,hr.turned (ht.mono fun b hb=>by have:=hp b hb;omega) |>.mono fun b _ hx=>hx⟩,(World.cell?_of_block hb).trans h.end_,fun j=>(World.frozen?_of_block hb).trans (h.fz j)⟩
theorem Upd.own {M j:Nat} {W V W':World} (h:Upd M j W V) (hl:M+1<W.heap.size) (ht:zab (fun b=>W.heap.size<=b) V W'):Upd M j W W':=by
 have hs:=h.turned.size;have hb:=ht.block (M+1) (by omega) (by omega);exact⟨⟨ht.os.trans h.turned.os,ht.tape.trans h.turned.tape,ht.output.trans h.turned.output,Nat.le_trans hs ht.size,fun k hk hn=>(ht.block k (by omega) (by omega)).trans (h.turned.block k hk hn)⟩,fun i hi=>(World.cell?_of_block hb).trans (h.cell i hi),fun i=>(World.frozen?_of_block hb).trans (h.fz i)⟩
theorem z1t {q:List Lx} (h:za2 1 [] q=false):q.takeWhile (isP 1 [])=[]/\q.dropWhile (isP 1 [])=q:=by
 cases q with
 |nil=>exact⟨rfl,rfl⟩
 |cons y q=>
  have hy:isP 1 [] y=false:=h;exact⟨by rw[List.takeWhile_cons,hy];rfl,by rw[List.dropWhile_cons,hy];rfl⟩
theorem zft (en M:Nat) (l:List Lx) (W:World) (h:ParR en M l W) (hl:l.length<=1000000):
  Calls z2f 112 #[.pointer (some ⟨M+1,0,none⟩)] W (Out M W (zbm en l) fun p e w'=> ∃v,e= .returned v/\w'.ownsRow W.heap.size 9 1 v p.1.length (p.1.map sv)/\ParR en M p.2 w'/\Upd M 0 W w'):=by
 have hmx:=mxd;have HP:=z2c h;have HT1:=z2c (show Calls z2f 111 #[.pointer (some ⟨M+1,0,none⟩),.int .i64 1,.slice none 0 0] W _ from zc2 en M 1 l _ [] W h (Rd.nil _ _));have hlt:=h.lt;clear h;cases ht:zb0 en 1 [] l with
 |error f=>
  rw[ht]at HT1;have HW:Hid (zbm en l= .error f):=by show _=_;unfold zbm;rw[ht]
  rw[HW.out];clear ht HW HP;go_enter Tryz.func112,Tryz.ntmps112;go_wp2_with(go_at_call 111;(with_reducible refine HT1.out.mono ?_);rintro e W1 ⟨rfl,hb1⟩;have HB1:=z2c hb1;clear hb1)
  exact⟨rfl,rfl,HB1.out⟩
 |ok p=>
  obtain⟨x,r⟩:=p;rw[ht]at HT1;have HW:Hid (zbm en l=match zh5 en r with
   | .error f=> .error f
   | .ok (ws,q)=> .ok (x.text::ws,q)):=by show _=_;unfold zbm;rw[ht];rfl
  have hle:r.length<=1000000:=by
   obtain⟨rfl,_⟩:=zgp ht;simp only[z2i]at hl;omega
  clear ht HP;obtain⟨R,hR⟩: ∃R,zbm en l=R:=⟨_,rfl⟩;rw[hR]at HW ⊢;clear hR;have HT2:=z2c (show Calls z2f 111 #[.pointer (some ⟨M+1,0,none⟩),.int .i64 1,.slice none 0 0] W (fun e w'=>e= .returned x.agg/\ParR en M r w'/\Upd M 0 W w')from HT1.out);simp only[Lx.agg]at HT2;clear HT1;have hsx:sv x.text= .string ⟨x.text.toArray⟩:=rfl;have HSx:=z2c hsx;clear hsx;generalize(⟨x.text.toArray⟩:ByteArray)=xs at*;have hfl:=zeb;go_enter Tryz.func112,Tryz.ntmps112;go_wp2_with(go_at_call 111;(with_reducible refine HT2.out.mono ?_);rintro e W1 ⟨rfl,hp1,hu1⟩;have HP1:=z2c hp1;have HU1:=z2c hu1;clear hp1 hu1)
  go_loopw [3] (fun vo wr=> ∃(ws:List Bs) (q:List Lx),q.length+ws.length=r.length/\Hid (wr.ownsRow W.heap.size 9 1 vo (ws.length+1) ((x.text::ws).map sv))/\Hid (ParR en M q wr)/\Hid (Upd M 0 W wr)/\Hid ((r.takeWhile (isP 1 [])).map Lx.text=ws++(q.takeWhile (isP 1 [])).map Lx.text/\r.dropWhile (isP 1 [])=q.dropWhile (isP 1 []))) (fun _ wr=>zfz M wr)
  case atStart=>
   have hb:Below W1.heap.size W1 (W1.alloc (.cells #[.string xs] 9)):=bel;have hs1:=HU1.out.turned.size;have ho:=zcp (za5 (W:=W1) (c:= #[.string xs]) (e:=9) (n:=1) (size:=1) rfl (by unfold maxLen;omega)) hs1;refine⟨[],r,by simp, ?_,HP1.out.grown hb,HU1.out.below (by omega) hb,⟨rfl,rfl⟩⟩;show World.ownsRow _ _ _ _ _ _ _;rw[List.map_cons,HSx.out];exact ho
  case round=>
   clear HP1 HU1;obtain⟨ws,q,hq,HO,HPq,HU,HK⟩:=hrel;obtain⟨Ao,co,rfl,_⟩:=zah HO.out;have hs1:=HU.out.turned.size;cases hn:za2 1 [] q
   ·have HNx:=z2c (hn ▸ zox HPq.out);have HE:Hid (zh5 en r=match zb0 en 4 [zbr] q with
     | .error f=> .error f
     | .ok (_,q2)=> .ok (ws,q2)):=by
     show _=_
     obtain⟨h1,h2⟩:=HK.out
     obtain⟨h3,h4⟩:=z1t hn
     unfold zh5
     rw[h1,h2,h3,h4];simp;rfl
    have HTk:=z2c (fun W' (hb:Below wr.heap.size wr W') v (hv:Rd W' v [zbr].length 1 ([zbr].map sv))=>show Calls z2f 111 #[.pointer (some ⟨M+1,0,none⟩),.int .i64 4,v] W' _ from zei HPq.out hb (by omega) (zc2 en M 4 q v [zbr] W' (HPq.out.grown hb) hv));clear hn HK HPq;cases ht:zb0 en 4 [zbr] q with
    |error f=>
     rw[ht]at HE HTk;have HR:Hid (R= .error f):=by show _=_;rw[HW.out,HE.out]
     clear ht HE HW;go_wp2_with(first
      |(go_at_call 188;(with_reducible refine HNx.out.mono ?_);rintro e w' ⟨rfl,rfl⟩)
      |(go_at_call 111;(refine(HTk.out _ bel _ (zdg (ts:=[zbr]) (by simp) rfl rfl (by simp))).mono ?_);rintro e W1 ⟨rfl,hb1⟩;have HB1:=z2c hb1;clear hb1))
     refine⟨rfl, ?_⟩;rw[HR.out];exact⟨rfl,(HU.out.below' hlt).trans HB1.out⟩
    |ok p=>
     obtain⟨y,q2⟩:=p;rw[ht]at HE HTk;have HR:Hid (R= .ok (x.text::ws,q2)):=by show _=_;rw[HW.out,HE.out]
     have HTk2:=z2c (fun W' hb v hv=>show Calls z2f 111 #[.pointer (some ⟨M+1,0,none⟩),.int .i64 4,v] W' (fun e w'=>e= .returned y.agg/\ParR en M q2 w'/\Upd M 0 wr w')from HTk.out W' hb v hv);clear ht HE HW HTk;go_wp2_with(first
      |(go_at_call 188;(with_reducible refine HNx.out.mono ?_);rintro e w' ⟨rfl,rfl⟩)
      |(go_at_call 111;(refine(HTk2.out _ bel _ (zdg (ts:=[zbr]) (by simp) rfl rfl (by simp))).mono ?_);rintro e W1 ⟨rfl,hp1,hu1⟩;have HP1:=z2c hp1;have HU1:=z2c hu1;clear hp1 hu1))
     go_ret;rw[HR.out];have hu2:=HU.out.trans HU1.out;refine⟨_,rfl, ?_,HP1.out,hu2⟩;have ho:=zxg HU1.out HO.out hlt;exact ho
   ·obtain⟨y,q2,rfl⟩: ∃y q2,q=y::q2:=by
     cases q with
     |nil=>cases hn
     |cons y q2=>exact⟨y,q2,rfl⟩
    have HNx:=z2c (hn ▸ zox HPq.out);have HTk:=z2c (show Calls z2f 111 #[.pointer (some ⟨M+1,0,none⟩),.int .i64 1,.slice none 0 0] wr (fun e w'=>e= .returned y.agg/\ParR en M q2 w'/\Upd M 0 wr w')from zv1 en M 1 y q2 _ [] wr HPq.out (Rd.nil _ _) hn);have HK2:Hid ((r.takeWhile (isP 1 [])).map Lx.text=(ws++[y.text])++(q2.takeWhile (isP 1 [])).map Lx.text/\r.dropWhile (isP 1 [])=q2.dropWhile (isP 1 [])):=by
     obtain⟨h1,h2⟩:=HK.out;have hy:isP 1 [] y=true:=hn;rw[List.takeWhile_cons,if_pos hy]at h1;rw[List.dropWhile_cons,if_pos hy]at h2;exact⟨by rw[h1];simp,h2⟩
    have HLn:=z2c HPq.out.len;simp only[z2i]at hq;simp only[Lx.agg]at HTk;have HSy:Hid (sv y.text= .string ⟨y.text.toArray⟩):=rfl;clear hn HK HPq;generalize(⟨y.text.toArray⟩:ByteArray)=ys at*;go_wp2_with(first
     |(go_at_call 188;(with_reducible refine HNx.out.mono ?_);rintro e w' ⟨rfl,rfl⟩)
     |(go_at_call 111;(with_reducible refine HTk.out.mono ?_);rintro e W1 ⟨rfl,hp1,hu1⟩;have HP1:=z2c hp1;have HU1:=z2c hu1;have HO1:=z2c (zxg hu1 HO.out hlt);have hs2:=hu1.turned.size;clear hp1 hu1)
     |(at_builtin;refine zar rfl _ _ 47 rfl sltS W.heap.size rfl (HO1.out.alloc _) (by simp[go_sem]<;>omega) ⟨_,0,none⟩ 1 1 [.string ys] rfl rfl (zaf (c:= #[.string ys]) (by simp[go_sem])) (by simp[Value.oneCell']) (by unfold maxLen;omega) (by omega) ?_;intro v2 W2 ho2 hg2;have HT2:=z2c (((zab.refl (fun b=>W.heap.size<=b) W1).alloc _).trans (zab.of_own hg2 (HO1.out.alloc _)));have HO2:=z2c ho2;clear ho2 hg2))
    go_roundw
    case rel=>
     have hp2:=HP1.out.turned HT2.out (fun b hb=>by omega);have hu2:=(HU.out.trans HU1.out).own hlt HT2.out;refine⟨ws++[y.text],q2,by rw[List.length_append];simp only[z2i,z28];omega, ?_,hp2,hu2,HK2.out⟩;show World.ownsRow _ _ _ _ _ _ _;rw[<-List.cons_append,List.map_append,List.map_singleton,HSy.out,List.length_append];exact HO2.out
    case measure=>
     have hp2:=HP1.out.turned HT2.out (fun b hb=>by omega);have h1:=hp2.len;have h2:=HLn.out;simp only[z2i]at h2;show zfz M W2<zfz M wr;omega
def Told (M:Nat) (told:List Bs) (W:World):Prop:= ∃(n:Nat) (D:DataW Nat),n<=told.length/\told.length<=1000000/\W.ownsMap z2f 9 (plainElem z2f 3) M n D/\Maps.IsMap D/\ ∀t:Bs,Maps.has D (.string t)=decide (t∈told)
def fT (j:Nat):TypeId:=if j=4 then 101 else if j=5 then 103 else 9
structure Par (en M:Nat) (s:Ps) (W:World):Prop where
 r:ParR en M s.rest W
 row: ∀j,j<6-> ∃v,W.cell? ⟨M+1,2+j,none⟩=some v/\W.ownsRow (M+2) (fT j) (fS j) v (fN s.pol j) (fC s.pol j)
 apart: ∀i j v u b,i<6->j<6->i≠j->W.cell? ⟨M+1,2+i,none⟩=some v->W.cell? ⟨M+1,2+j,none⟩=some u->v.ownBlock=some b->u.ownBlock≠some b
 c8:W.cell? ⟨M+1,8,none⟩=some (.bool s.pol.rel)
 c9:W.cell? ⟨M+1,9,none⟩=some (.int .i64 s.pol.depth)
 c10:W.cell? ⟨M+1,10,none⟩=some (.int .i64 s.pol.name)
 c11:W.cell? ⟨M+1,11,none⟩=some (.int .i64 s.pol.value)
 c12:W.cell? ⟨M+1,12,none⟩=some (.map (some M))
 told:Told M s.told W
theorem Told.kept {M:Nat} {told:List Bs} {W W':World} (h:Told M told W) (hb:W'.heap[M]? =W.heap[M]?):Told M told W':=by
 obtain⟨n,D,h1,h2,⟨es,clock,h3,h4⟩,h5⟩:=h;exact⟨n,D,h1,h2,⟨es,clock,hb.trans h3,h4⟩,h5⟩
theorem Told.lt {M:Nat} {told:List Bs} {W:World} (h:Told M told W):M<W.heap.size:=by
 obtain⟨n,D,_,_,h3,_⟩:=h;exact h3.lt
theorem za4 {pv:Nat->Prop} {W W':World} (ht:zab pv W W') {B:Nat} {e:TypeId} {size n:Nat} {v:Value} {xs:List Value} (ho:W.ownsRow B e size v n xs) (hp: ∀b,v.ownBlock=some b-> ¬pv b):W'.ownsRow B e size v n xs:=by
 refine⟨ho.1, ?_⟩;rcases ho.2 with h|⟨g,cap,cur,rfl,hg1,hg2,r⟩
 ·exact .inl h
 ·exact .inr ⟨g,cap,cur,rfl,hg1,(ht.block g (Array.getElem?_eq_some_iff.1 hg2).1 (hp g rfl)).trans hg2,r⟩
theorem Par.took {en M:Nat} {s:Ps} {q:List Lx} {W W':World} (h:Par en M s W) (hr:ParR en M q W') (hu:Upd M 0 W W'):Par en M ⟨q,s.pol,s.told⟩ W' where
 r:=hr
 row j hj:=by
  obtain⟨v,hv,ho⟩:=h.row j hj;exact⟨v,(hu.cell _ (by omega)).trans hv,za4 hu.turned ho (fun b hb hx=>by have:=(ho.lt b hb).1;omega)⟩
 apart i j v u b hi hj hij hv hu':=h.apart i j v u b hi hj hij ((hu.cell _ (by omega)).symm.trans hv) ((hu.cell _ (by omega)).symm.trans hu')
 c8:=(hu.cell _ (by omega)).trans h.c8
 c9:=(hu.cell _ (by omega)).trans h.c9
 c10:=(hu.cell _ (by omega)).trans h.c10
 c11:=(hu.cell _ (by omega)).trans h.c11
 c12:=(hu.cell _ (by omega)).trans h.c12
 told:=h.told.kept (hu.turned.block M h.told.lt (by omega))
theorem Par.grown {en M:Nat} {s:Ps} {W W':World} (h:Par en M s W) (hb:Below W.heap.size W W'):Par en M s W':=h.took (h.r.grown hb) ((Upd.refl M 0 W).below h.r.lt hb)
theorem Par.tell {en M:Nat} {s:Ps} {W W':World} (h:Par en M s W) (hg:W.grownBy W' (some M)) {told':List Bs} (ht:Told M told' W'):Par en M ⟨s.rest,s.pol,told'⟩ W':=by
 have hl:=h.r.lt;have htu:zab (fun b=>b=M) W W':=⟨hg.os,hg.tape,hg.output,hg.size,fun k hk hn=>hg.block k hk (fun e=>hn (Option.some.inj e))⟩;have hb:=hg.block (M+1) hl (fun e=>by have:=Option.some.inj e;omega);have hc: ∀j,W'.cell? ⟨M+1,j,none⟩=W.cell? ⟨M+1,j,none⟩:=fun j=>World.cell?_of_block hb;obtain⟨A,c,h1,h2,h3⟩:=h.r.rest;refine⟨⟨⟨A,c,(hc 0).trans h1,h2,h3.turned (htu.mono fun b hb=>by omega)⟩,(hc 1).trans h.r.end_,fun j=>(World.frozen?_of_block hb).trans (h.r.fz j)⟩,fun j hj=> ?_,fun i j v u b hi hj hij hv hu'=>h.apart i j v u b hi hj hij ((hc _).symm.trans hv) ((hc _).symm.trans hu'),(hc 8).trans h.c8,(hc 9).trans h.c9,(hc 10).trans h.c10,(hc 11).trans h.c11,(hc 12).trans h.c12,ht⟩;obtain⟨v,hv,ho⟩:=h.row j hj;exact⟨v,(hc _).trans hv,za4 htu ho (fun b hb hx=>by have:=(ho.lt b hb).1;omega)⟩
theorem Told.more {M:Nat} {told:List Bs} {W':World} {t:Bs} {n:Nat} {D:DataW Nat} {d:DataW Nat} (hn:n<=told.length) (hl:told.length<1000000) (hm:Maps.IsMap D) (hh: ∀t:Bs,Maps.has D (.string t)=decide (t∈told)) (ho:W'.ownsMap z2f 9 (plainElem z2f 3) M (n+1) (D.put (.string t) d)):Told M (t::told) W':=by
 refine⟨n+1,_,by simp only[z2i];omega,by simp only[z2i];omega,ho,hm.put _ _,fun u=> ?_⟩;by_cases he:u=t
 ·subst he;rw[Maps.has_put_same hm (by trivial)];simp
 ·rw[Maps.has_put_other (by intro e;cases e;exact he rfl),hh u];simp[he]
theorem zm1 (en M a:Nat) (what:Bs) (s:Ps) (W:World) (h:Par en M s W) (hw:what.length<=1000000) (ha:a<=1000000000) (hs:s.told.length<1000000):
  Calls z2f 114 #[.pointer (some ⟨M+1,0,none⟩),.int .i64 a,.string ⟨what.toArray⟩] W (Out M W (zdj en a what s.rest s.told) fun p e w'=>e= .returned (.tuple #[])/\Par en M ⟨p.1,s.pol,p.2⟩ w'/\zab (fun b=>b=M\/b=M+1) W w'/\ ∀i,i≠0->w'.cell? ⟨M+1,i,none⟩=W.cell? ⟨M+1,i,none⟩):=by
 have hmx:=mxd;have hlt:=h.r.lt;have HTk:=z2c (fun W' (hb:Below W.heap.size W W') v (hv:Rd W' v [zbr].length 1 ([zbr].map sv))=>show Calls z2f 111 #[.pointer (some ⟨M+1,0,none⟩),.int .i64 4,v] W' _ from zei h.r hb (by omega) (zc2 en M 4 s.rest v [zbr] W' (h.r.grown hb) hv));have HPar:=z2c h;have HK:Hid (keyOf z2f 9 (.string ⟨what.toArray⟩)=some (.string what)):=WideMaps.keyOf_string_mk (by kernel_rfl) (by show what.length<=_;unfold maxLen;omega);have HW:Hid (zdj en a what s.rest s.told=match zb0 en 4 [zbr] s.rest with
  | .error f=> .error f
  | .ok (_,q)=>if what∈s.told then .error ⟨a,5⟩else .ok (q,what::s.told)):=rfl
 obtain⟨R,hR⟩: ∃R,zdj en a what s.rest s.told=R:=⟨_,rfl⟩;rw[hR]at HW ⊢;clear hR h;cases ht:zb0 en 4 [zbr] s.rest with
 |error f=>
  rw[ht]at HW HTk;rw[HW.out];clear ht HW HK;go_enter Tryz.func114,Tryz.ntmps114;go_wp2_with(go_at_call 111;(refine(HTk.out _ bel _ (zdg (ts:=[zbr]) (by simp) rfl rfl (by simp))).mono ?_);rintro e W1 ⟨rfl,hb1⟩;have HB1:=z2c hb1;clear hb1)
  exact⟨rfl,rfl,HB1.out⟩
 |ok p=>
  obtain⟨y,q⟩:=p;rw[ht]at HW HTk;have HTk2:=z2c (fun W' hb v hv=>show Calls z2f 111 #[.pointer (some ⟨M+1,0,none⟩),.int .i64 4,v] W' (fun e w'=>e= .returned y.agg/\ParR en M q w'/\Upd M 0 W w')from HTk.out W' hb v hv);have HW2:Hid (R=if what∈s.told then .error ⟨a,5⟩else .ok (q,what::s.told)):=HW.out;clear ht HW HTk;generalize(⟨what.toArray⟩:ByteArray)=ws at*;go_enter Tryz.func114,Tryz.ntmps114;go_upto_region 1 with(go_at_call 111;(refine(HTk2.out _ bel _ (zdg (ts:=[zbr]) (by simp) rfl rfl (by simp))).mono ?_);rintro e W1 ⟨rfl,hp1,hu1⟩;have HP1:=z2c (HPar.out.took hp1 hu1);have HU1:=z2c hu1;clear hp1 hu1)
  have x12:=HP1.out.c12;obtain⟨n,D,hn1,hn2,hown,hmap,hhas⟩:=HP1.out.told;have HO:=z2c hown;have HH:=z2c (hhas what);have HM:=z2c (And.intro hmap hhas);clear hown hmap hhas HTk2;have hz:(zeroValue 3).run z2f W1= .ok (.int .i64 0) W1:=by kernel_rfl
  by_cases hin:what∈s.told
  ·rw[decide_eq_true hin]at HH;have HR:Hid (R= .error ⟨a,5⟩):=by show _=_;rw[HW2.out,if_pos hin]
   clear hin HW2;go_wp2_with(at_lookup;(refine wpList_lookup_own_ok_int _ rfl _ _ 93 rfl 9 3 .i64 (Maps.string_keyed Tryz.underlying9) Tryz.underlying93 Tryz.underlying3 hz M n D rfl HO.out _ _ rfl HK.out ?_);intro c hat hwc;rw[HH.out])
   refine⟨rfl, ?_⟩;rw[HR.out];exact⟨rfl,HU1.out.below' hlt⟩
  ·rw[decide_eq_false hin]at HH;have HR:Hid (R= .ok (q,what::s.told)):=by show _=_;rw[HW2.out,if_neg hin]
   clear hin HW2;have hai:(Lit.int .i64 (a:Int)).wf=true:=by
    have e1:IntKind.i64.min= -9223372036854775808:=rfl;have e2:IntKind.i64.max=9223372036854775807:=rfl;simp only[Lit.wf,e1,e2,Bool.and_eq_true,decide_eq_true_eq];omega
   go_wp2_with(first
    |(at_lookup;(refine wpList_lookup_own_ok_int _ rfl _ _ 93 rfl 9 3 .i64 (Maps.string_keyed Tryz.underlying9) Tryz.underlying93 Tryz.underlying3 hz M n D rfl HO.out _ _ rfl HK.out ?_);intro c hat hwc;rw[HH.out])
    |(at_mapUpdate;(refine wpList_mapUpdate_own _ rfl _ _ _ 93 rfl 9 3 (Maps.string_keyed Tryz.underlying9) Tryz.underlying93 _ M n D rfl HO.out (by unfold maxLen;omega) _ _ (.string what) rfl rfl HK.out _ [] (plainElem_int Tryz.underlying3 hai) ?_);intro W2 hown2 hg2;have HO2:=z2c hown2;have HG2:=z2c hg2;clear hown2 hg2))
   go_end0;rw[HR.out];refine⟨rfl,HP1.out.tell HG2.out (Told.more hn1 hs HM.out.1 HM.out.2 HO2.out), ?_,fun i hi=>(World.cell?_of_block (HG2.out.block (M+1) HP1.out.r.lt (fun e=>by have:=Option.some.inj e;omega))).trans (HU1.out.cell i hi)⟩;exact(HU1.out.turned.mono fun b hb=> .inr hb).trans ⟨HG2.out.os,HG2.out.tape,HG2.out.output,HG2.out.size,fun k hk hn=>HG2.out.block k hk (fun e=>hn (.inl (Option.some.inj e)))⟩
theorem Par.put {en M j:Nat} {s:Ps} {W W1:World} {v v':Value} {p:Pol} (h:Par en M s W) (hj:j<6) (hv:W.cell? ⟨M+1,2+j,none⟩=some v) (hT:zab (fun b=>v.ownBlock=some b) W W1) (ho:W1.ownsRow (M+2) (fT j) (fS j) v' (fN p j) (fC p j))
  (hat:v'.ownBlock=v.ownBlock\/ ∃g,v'.ownBlock=some g/\W.heap.size<=g) (hp: ∀i,i<6->i≠j->fN p i=fN s.pol i/\fC p i=fC s.pol i) (h8:p.rel=s.pol.rel) (h9:p.depth=s.pol.depth) (h10:p.name=s.pol.name) (h11:p.value=s.pol.value):
  Par en M ⟨s.rest,p,s.told⟩ (W1.setCell ⟨M+1,2+j,none⟩ v')/\Below M W (W1.setCell ⟨M+1,2+j,none⟩ v'):=by
 have hl:=h.r.lt;have hM:=h.told.lt;obtain⟨v9,hv9,hov⟩:=h.row j hj;rw[hv]at hv9;cases hv9;have hvb: ∀b,v.ownBlock=some b->M+2<=b:=fun b hb=>(hov.lt b hb).1;have hb1:=hT.block (M+1) hl (fun hb=>by have:=hvb _ hb;omega);have hl1:M+1<W1.heap.size:=Nat.lt_of_lt_of_le hl hT.size;have hc: ∀i,W1.cell? ⟨M+1,i,none⟩=W.cell? ⟨M+1,i,none⟩:=fun i=>World.cell?_of_block hb1;have hs: ∀i,i≠2+j->(W1.setCell ⟨M+1,2+j,none⟩ v').cell? ⟨M+1,i,none⟩=W.cell? ⟨M+1,i,none⟩:=fun i hi=>by
  rw[World.cell?_setCell_other _ _ _ _ (by intro e;cases e;exact hi rfl)];exact hc i
 have hsj:(W1.setCell ⟨M+1,2+j,none⟩ v').cell? ⟨M+1,2+j,none⟩=some v':=World.cell?_setCell_same _ _ _ ((hc _).trans hv);have hTs:zab (fun b=>v.ownBlock=some b\/b=M+1) W (W1.setCell ⟨M+1,2+j,none⟩ v'):=zab.setCell (pv:=fun b=>v.ownBlock=some b\/b=M+1) (p:=⟨M+1,2+j,none⟩) (hT.mono fun b hb=> .inl hb) (.inr (.inr rfl)) _;have hT1:zab (fun b=>b=M+1) W1 (W1.setCell ⟨M+1,2+j,none⟩ v'):=zab.setCell (pv:=fun b=>b=M+1) (p:=⟨M+1,2+j,none⟩) (zab.refl _ W1) (.inr rfl) _;refine⟨⟨⟨?_, ?_,fun i=> ?_⟩,fun i hi=> ?_,fun i k u1 u2 b hi hk hik hu1 hu2 hb=> ?_, ?_, ?_, ?_, ?_, ?_, ?_⟩,hTs.below (by omega) (fun k hk=>hk.elim (fun hk=>by have:=hvb k hk;omega) (fun hk=>by omega))⟩
 ·obtain⟨A,c,h1,h2,h3⟩:=h.r.rest;refine⟨A,c,(hs 0 (by omega)).trans h1,h2,h3.turned (hTs.mono fun b hb=> ?_)⟩;rcases hb with hb|hb
  ·have:=hvb b hb;omega
  ·omega
 ·exact(hs 1 (by omega)).trans h.r.end_
 ·rw[World.frozen?_setCell,World.frozen?_of_block hb1];exact h.r.fz i
 ·by_cases hij:i=j
  ·subst hij;exact⟨v',hsj,za4 hT1 ho (fun b hb hx=>by have:=(ho.lt b hb).1;omega)⟩
  ·obtain⟨u,hu,hou⟩:=h.row i hi;refine⟨u,(hs _ (by omega)).trans hu, ?_⟩;obtain⟨e1,e2⟩:=hp i hi hij;show World.ownsRow _ _ _ _ _ (fN p i) (fC p i);rw[e1,e2];refine za4 hTs hou (fun b hb hx=> ?_);rcases hx with hx|hx
   ·exact h.apart i j u v b hi hj hij hu hv hb hx
   ·have:=(hou.lt b hb).1;omega
 ·by_cases hij:i=j
  ·subst hij;rw[hsj]at hu1;cases hu1;rw[hs _ (by omega)]at hu2;obtain⟨u,hu,hou⟩:=h.row k hk;rw[hu]at hu2;cases hu2;intro hb2;rcases hat with hat|⟨g,hat,hg⟩
   ·exact h.apart i k v _ b hi hk hik hv hu (hat ▸ hb) hb2
   ·rw[hat]at hb;cases hb;have:=(hou.lt _ hb2).2;omega
  ·by_cases hkj:k=j
   ·subst hkj;rw[hsj]at hu2;cases hu2;rw[hs _ (by omega)]at hu1;obtain⟨u,hu,hou⟩:=h.row i hi;rw[hu]at hu1;cases hu1;intro hb2;rcases hat with hat|⟨g,hat,hg⟩
    ·exact h.apart i k _ v b hi hk hik hu hv hb (hat ▸ hb2)
    ·rw[hat]at hb2;cases hb2;have:=(hou.lt _ hb).2;omega
   ·rw[hs _ (by omega)]at hu1 hu2;exact h.apart i k u1 u2 b hi hk hik hu1 hu2 hb
 ·show _=some (Value.bool p.rel);rw[h8];exact(hs 8 (by omega)).trans h.c8
 ·show _=some (Value.int _ p.depth);rw[h9];exact(hs 9 (by omega)).trans h.c9
 ·show _=some (Value.int _ p.name);rw[h10];exact(hs 10 (by omega)).trans h.c10
 ·show _=some (Value.int _ p.value);rw[h11];exact(hs 11 (by omega)).trans h.c11
 ·exact(hs 12 (by omega)).trans h.c12
 ·have hbM:=hTs.block M hM (fun hb=>hb.elim (fun hb=>by have:=hvb _ hb;omega) (fun hb=>by omega));exact h.told.kept hbM
end Go.Proofs.YtiikamobcmgekaaGreatDoor

