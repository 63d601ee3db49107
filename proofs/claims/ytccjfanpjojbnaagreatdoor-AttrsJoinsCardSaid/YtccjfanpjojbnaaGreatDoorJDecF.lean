import Derived.Test.YtccjfanpjojbnaaGreatDoorJDecD
namespace Go.Proofs.YtccjfanpjojbnaaGreatDoor
open Go.IntKind renaming i64→aC
open Lib renaming hid→aA
open List renaming append_assoc→cY,length_drop→bL,mem_cons→bJ,mem_of_mem_drop→jd
open Go.Value renaming int→aB,pointer→aM,slice→aF
set_option maxRecDepth 100000
set_option maxHeartbeats 8000000
open Go.RowKit Go.Shelf
theorem Du (db lb eb:Nat) (bw:Nat->Prop) (A:Option Addr) (c:Nat) (l:List aK) (W:World) (hd: ∃v,Boxed W db 3 v) (hl:Boxed W lb 175 (aF A l.length c)) (he:Boxed W eb 214 (.func (.func 204) #[] #[aM (some ⟨db,0,none⟩)]))
  (h1:db≠lb) (h2:eb≠db) (h3:eb≠lb) (hbd: ¬bw db) (hbl: ¬bw lb) (hbe: ¬bw eb) (hr:Rd W (aF A l.length c) l.length 4 (bC l)) (hA: ∀b off s,A=some ⟨b,off,s⟩->s=none/\b≠db/\b≠lb/\ ¬bw b) (hA0:A=none->l=[])
  (hc:l.length<=c) (hp: ∀x∈l,mB x) (hn:l.length<=1000000000):
  yM Tryz.prog 206 #[aM (some ⟨db,0,none⟩),aM (some ⟨lb,0,none⟩),aM (some ⟨eb,0,none⟩)] (λx:Value × List aK=> #[x.1]) (λk=>k=db\/k=lb) bw (mG A c (eB 0 l)) W:=by
 intro ll J Jx hJ hY h0;refine callsIn_of_wp Tryz.func206 rfl trivial ?_ rfl;simp only[Tryz.ntmps206,List.size_toArray,List.length_cons,List.length_nil,Nat.reduceAdd,Nat.reduceSub,Array.replicate_succ,Array.replicate_zero,List.push_toArray,List.append_toArray,List.nil_append,List.cons_append];obtain⟨xs,hxs⟩: ∃xs,mG A c (eB 0 l)=xs:=⟨_,rfl⟩;have HXS:=aA hxs;rw[hxs]at hY ⊢;clear hxs;gi_wp2_with fail
 gi_loopw [5] (λ_ wr=> ∃(A':Option Addr) (c':Nat) (l':List aK) (pre:List (Value × List aK)),l'.length<=l.length/\(∃v,Boxed wr db 3 v)/\Boxed wr lb 175 (aF A' l'.length c')/\Boxed wr eb 214 (.func (.func 204) #[] #[aM (some ⟨db,0,none⟩)])/\
   Rd wr (aF A' l'.length c') l'.length 4 (bC l')/\Hid (∀b off s,A'=some ⟨b,off,s⟩->s=none/\b≠db/\b≠lb/\ ¬bw b)/\Hid (A'=none->l'=[])/\l'.length<=c'/\Hid (∀x∈l',mB x)/\Hid (J pre wr)/\Hid (pre++mG A' c' (eB 0 l')=xs)) (λ_ wr=>FG wr lb)
 case atStart=>
  exact⟨A,c,l,[],Nat.le_refl _,hd,hl,he,hr,hA,hA0,hc,hp,h0,HXS.out⟩
 case round=>
  clear hd hl he hr hA hA0 hc hp h0;obtain⟨A',c',l',pre,hle,⟨v0,hd⟩,hl,he,hr,HA,HA0,hc,HP,HJ,HK⟩:=hrel;have f1:=hd.frozen;have g1:=hd.cell;have g3:=hl.cell;have g4:=hl.frozen;have g5:=he.cell;have hlt1:=hd.lt;have hlt2:=hl.lt;have hlt3:=he.lt;have hd2:Boxed (wr.setCell ⟨db,0,none⟩ (aB aC 0)) db 3 (aB aC 0):=hd.set _;have ht1:aJ (λk=>k=db) wr (wr.setCell ⟨db,0,none⟩ (aB aC 0)):=aJ.setCell (pv:=λk=>k=db) (aJ.refl _ _) (Or.inr rfl) _;have hAd: ∀b off s,A'=some ⟨b,off,s⟩-> ¬(b=db):=λb off s h=>(HA.out b off s h).2.1;have HI:=aA (Jr A' l'.length c' l' db _ hd2 (hr.turned ht1 hAd) hAd HP.out om);have hl2:=ht1.boxed hl (λh=>h1 h.symm);have he2:=ht1.boxed he (λh=>h2 h);have hr2:=hr.turned ht1 hAd;have hc3:=hl2.cell;have hc5:=he2.cell;have HJ1:Hid (J pre (wr.setCell ⟨db,0,none⟩ (aB aC 0))):=hJ _ _ _ HJ.out (ht1.mono λk hk=> .inl hk);have hsz:wr.heap.size<=(wr.setCell ⟨db,0,none⟩ (aB aC 0)).heap.size:=ht1.size;have hcp:=NR l' 0;cases hcut:uZ 0 l' with
  |none=>
   rw[hcut]at hcp;have HCI:Hid (xT l'= -1):=by show _=_;unfold xT;rw[hcut]
   rw[HCI.out]at HI;have HX:Hid (pre++[(aF A' l'.length c',l')]=xs):=by show _=_;rw[<-HK.out,hcp];rfl
   have HI2:=aA HI.out;clear HI hcp hcut HK HCI;have HL2:=aA hl2;have HE2:=aA he2;clear hl2 he2 hr2 hr hl he hd hd2 ht1 hAd hc3 hc5;gi_wp2_with (gi_at_call 207;(with_reducible refine(callsIn_wide.2 HI2.out).mono ?_);rintro e W2 ⟨rfl,ht2,e',hb2⟩;have HL3:=aA (ht2.boxed HL2.out (λh=>h1 h.symm));have HE3:=aA (ht2.boxed HE2.out (λh=>h2 h));have r3:=HL3.out.cell;have HJ2:=aA (hJ _ _ _ HJ1.out (ht2.mono λk hk=> .inl hk)))
   refine pS (hY pre (aF A' l'.length c',l') _ ⟨[],by rw[List.append_nil];exact HX.out⟩ HJ2.out) rfl ?_;rintro e W3 (⟨rfl,hJ3,ht3⟩|⟨rfl,hJx⟩)
   .refine⟨_,rfl, ?_⟩;gi_wp2_with fail
    refine bodyPost_ret (results_none rfl _ _ _) rfl ?_;rw[HX.out]at hJ3;exact⟨⟨_,rfl⟩,.inl hJ3⟩
   .refine⟨_,rfl, ?_⟩;gi_wp2_with fail
    refine bodyPost_ret (results_none rfl _ _ _) rfl ?_;exact⟨⟨_,rfl⟩,.inr ⟨pre,_,⟨[],by rw[List.append_nil];exact HX.out⟩,hJx⟩⟩
  |some k=>
   rw[hcut]at hcp;obtain⟨hkl,hpart⟩:=hcp;have HCI:Hid (xT l'=(k:Nat)):=by show _=_;unfold xT;rw[hcut]
   rw[HCI.out]at HI;obtain⟨b,off,hAb⟩: ∃b off,A'=some ⟨b,off,none⟩:=by
    cases A' with
    |none=>have:=HA0.out rfl;rw[this]at hkl;simp at hkl
    |some ad=>
     obtain⟨ab,ao,asp⟩:=ad;obtain⟨rfl,_⟩:=HA.out ab ao asp rfl;exact⟨ab,ao,rfl⟩
   subst hAb;obtain⟨_,hbdb,hblb,hbbw⟩:=HA.out b off none rfl;have htk:(l'.take k).length=k:=by rw[List.length_take];omega
   have hdk:(l'.drop (k+1)).length=l'.length-(k+1):=by rw[bL]
   have HX:Hid (pre++[(aF (some ⟨b,off,none⟩) k c',l'.take k)]++mG (yC (some ⟨b,off,none⟩) c' (k+1)) (c'-(k+1)) (eB 0 (l'.drop (k+1)))=xs):=by
    show _=_;rw[<-HK.out,hpart,mG,htk,cY];rfl
   have HI2:=aA HI.out;have hr4:=Rd.drop4 hr (k+1) om;obtain⟨Av,hAv⟩: ∃Av,(if c'=k+1 then some (⟨b,off,none⟩:Addr)else some ⟨b,off+(k+1)*4,none⟩)=Av:=⟨_,rfl⟩;have HAv:Hid (yC (some ⟨b,off,none⟩) c' (k+1)=Av):=by show _=_;rw[<-hAv];rfl
   rw[HAv.out]at HX;have HAv2:Hid (∀b' off' s,Av=some ⟨b',off',s⟩->s=none/\b'=b):=λb' off' s h=>by
    rw[<-hAv]at h;split at h<;>(cases h;exact⟨rfl,rfl⟩)
   have HAv3:Hid (Av≠none):=by
    show _≠_;rw[<-hAv];split<;>simp
   have hr5:Rd wr (aF Av (l'.drop (k+1)).length (c'-(k+1))) (l'.drop (k+1)).length 4 (bC (l'.drop (k+1))):=by
    by_cases hck:c'=k+1
    .refine⟨oY aK.cells 4 (λ_=>rfl) _,by rw[hdk];have:=hr.2.1;omega,_,_,rfl,λhn0=> ?_⟩;rw[hdk]at hn0;omega
    .rw[if_neg hck]at hAv;rw[<-hAv];exact hr4
   rw[hdk]at hr5;have HR4:=aA hr5;clear hr5;have HDK:=aA hdk;have HP4:Hid (∀x∈l'.drop (k+1),mB x):=λx hx=>HP.out x (jd hx);have HL2:=aA hl2;have HE2:=aA he2;have HT1:=aA ht1;have HLw:=aA hl;clear hl2 he2 hr2 hr hl he hd hd2 ht1 hAd hc3 hc5 hr4 HI hcut hpart HK HCI hdk;have hkc:k<=c':=by omega
   have hk1:k+1<=l'.length:=by omega
   have hk2:k+1<=c':=by omega
   generalize hln:l'.length=nn at*;have hnn9:nn<=1000000000:=by omega
   gi_wp2_with (gi_at_call 207;(with_reducible refine(callsIn_wide.2 HI2.out).mono ?_);rintro e W2 ⟨rfl,ht2,e',hb2⟩;have HL3:=aA (ht2.boxed HL2.out (λh=>h1 h.symm));have HE3:=aA (ht2.boxed HE2.out (λh=>h2 h));have r3:=HL3.out.cell;have HJ2:=aA (hJ _ _ _ HJ1.out (ht2.mono λk hk=> .inl hk));have HB2:=aA hb2;have HT2:=aA ht2;clear hb2 ht2)
   refine pS (hY pre (aF (some ⟨b,off,none⟩) k c',l'.take k) _ ⟨_,HX.out⟩ HJ2.out) rfl ?_;rintro e W3 (⟨rfl,hJ3,ht3⟩|⟨rfl,hJx⟩)
   .refine⟨_,rfl, ?_⟩;have HL4:=aA (ht3.boxed HL3.out hbl);have HE4:=aA (ht3.boxed HE3.out hbe);have HB4:=aA (ht3.boxed HB2.out hbd);have s3:=HL4.out.cell;have s4:=HL4.out.frozen;have slt:=HL4.out.lt;have HT3:=aA ht3;have HJ3:=aA hJ3;clear hJ3 ht3 r3 g1 g3 g4 g5 f1;gi_wp2_with fail
    go_roundw
    case rel=>
     have hTl:aJ (λk=>k=lb) W3 (W3.setCell ⟨lb,0,none⟩ (aF Av (nn-(k+1)) (c'-(k+1)))):=aJ.setCell (pv:=λk=>k=lb) (aJ.refl _ _) (Or.inr rfl) _;refine⟨Av,c'-(k+1),l'.drop (k+1),_,by rw[HDK.out];omega,⟨_,hTl.boxed HB4.out h1⟩,by rw[HDK.out];exact HL4.out.set _,hTl.boxed HE4.out h3, ?_, ?_,λh=>absurd h HAv3.out,by rw[HDK.out];omega,HP4.out,hJ _ _ _ HJ3.out (hTl.mono λk hk=> .inr hk),HX.out⟩
     .rw[HDK.out];refine Rd.turned (pv:=λk=>k=lb) (Rd.turned (pv:=bw) (Rd.turned (pv:=λk=>k=db) (Rd.turned (pv:=λk=>k=db) HR4.out HT1.out ?_) HT2.out ?_) HT3.out ?_) hTl ?_;all_goals(intro b' off' s h;obtain⟨rfl,rfl⟩:=HAv2.out _ _ _ h;first|assumption|exact hbdb|exact hblb)
     .intro b' off' s h;obtain⟨rfl,rfl⟩:=HAv2.out _ _ _ h;exact⟨rfl,hbdb,hblb,hbbw⟩
    case measure=>
     rw[tJ (HL4.out.set _),tJ HLw.out];omega
   .refine⟨_,rfl, ?_⟩;gi_wp2_with fail
    refine bodyPost_ret (results_none rfl _ _ _) rfl ?_;exact⟨⟨_,rfl⟩,.inr ⟨pre,_,⟨_,HX.out⟩,hJx⟩⟩
def gK {α β:Type} (p:α->β->Prop):List α->List β->Prop
 |[],[]=>True
 |d::ds,v::vs=>p d v/\gK p ds vs
 |_,_=>False
theorem gK.mono {α β:Type} {p q:α->β->Prop}: ∀{ds:List α} {vs:List β},gK p ds vs->(∀d v,d∈ds->p d v->q d v)->gK q ds vs
 |[],[],_,_=>trivial
 |_::_,_::_,h,hq=>⟨hq _ _ (List.mem_cons_self ..) h.1,gK.mono h.2 λd v hd=>hq d v (List.mem_cons_of_mem _ hd)⟩
 |[],_::_,h,_=>h.elim
 |_::_,[],h,_=>h.elim
theorem gK.snoc {α β:Type} {p:α->β->Prop} {d:α} {v:β} (hd:p d v): ∀{ds:List α} {vs:List β},gK p ds vs->gK p (ds++[d]) (vs++[v])
 |[],[],_=>⟨hd,trivial⟩
 |_::_,_::_,h=>⟨h.1,gK.snoc hd h.2⟩
 |[],_::_,h=>h.elim
 |_::_,[],h=>h.elim
theorem gK.len {α β:Type} {p:α->β->Prop}: ∀{ds:List α} {vs:List β},gK p ds vs->vs.length=ds.length
 |[],[],_=>rfl
 |_::_,_::_,h=>by simp[gK.len h.2]
 |[],_::_,h=>h.elim
 |_::_,[],h=>h.elim
theorem gK.at {α β:Type} {p:α->β->Prop}: ∀{ds:List α} {vs:List β},gK p ds vs-> ∀i (h:i<ds.length) (h2:i<vs.length),p ds[i] vs[i]
 |[],_,_,i,h,_=>absurd h (by simp)
 |_::_,_::_,h,0,_,_=>h.1
 |_::_,_::_,h,i+1,h1,h2=>gK.at h.2 i (by simpa using h1) (by simpa using h2)
 |_::_,[],h,_,_,_=>h.elim
theorem gK.app {α β:Type} {p:α->β->Prop}: ∀{ds es:List α} {vs us:List β},gK p ds vs->gK p es us->gK p (ds++es) (vs++us)
 |[],_,[],_,_,h=>h
 |_::_,_,_::_,_,h,h2=>⟨h.1,gK.app h.2 h2⟩
 |[],_,_::_,_,h,_=>h.elim
 |_::_,_,[],_,h,_=>h.elim
def sM (d:bE) (v:Value):List Value:=[sv d.name,v,Value.bool d.imp]
def lP:List bE->List Value->List Value
 |d::ds,v::vs=>sM d v++lP ds vs
 |_,_=>[]
theorem FY (d:bE) (v:Value): ∀(ds:List bE) (vs:List Value),vs.length=ds.length->lP (ds++[d]) (vs++[v])=lP ds vs++sM d v
 |[],[],_=>by simp[lP]
 |_::ds,_::vs,h=>by
  have:=FY d v ds vs (by simpa using h);simp only[List.cons_append,lP,this,cY]
 |[],_::_,h=>by simp at h
 |_::_,[],h=>by simp at h
theorem YK: ∀(ds:List bE) (vs:List Value) (k:Nat) (h:k<ds.length) (h2:k<vs.length) (j:Nat),j<3->(lP ds vs)[k*3+j]? =(sM ds[k] vs[k])[j]?
 |[],_,_,h,_,_,_=>absurd h (by simp)
 |_::_,[],_,_,h,_,_=>absurd h (by simp)
 |d::ds,v::vs,0,_,_,j,hj=>by
  rw[Nat.zero_mul,Nat.zero_add,lP,List.getElem?_append_left (by simpa[sM]using hj)];rfl
 |d::ds,v::vs,k+1,h,h2,j,hj=>by
  have:=YK ds vs k (by simpa using h) (by simpa using h2) j hj;rw[lP,List.getElem?_append_right (by simp[sM];omega),show(k+1)*3+j-(sM d v).length=k*3+j by simp[sM];omega,this];rfl
def VR (W:World) (d:bE) (v:Value):Prop:= ∃A c,v=aF A d.value.length c/\(A=none->c=0)/\d.value.length<=c/\Rd W v d.value.length 4 (bC d.value)
def nE (W:World) (v:Value) (ds:List bE):Prop:= ∃vs,gK (VR W) ds vs/\Rd W v ds.length 3 (lP ds vs)
theorem VR.grow {W:World} {d:bE} {v:Value} (h:VR W d v) (X:Gr):VR (W.grow X) d v:=by
 obtain⟨A,c,h1,h2,h3,h4⟩:=h;exact⟨A,c,h1,h2,h3,h4.grow X⟩
theorem nE.grow {W:World} {v:Value} {ds:List bE} (h:nE W v ds) (X:Gr):nE (W.grow X) v ds:=by
 obtain⟨vs,h1,h2⟩:=h;exact⟨vs,h1.mono λd v _ h=>h.grow X,h2.grow X⟩
theorem nE.at {W:World} {A:Option Addr} {n c:Nat} {ds:List bE} (h:nE W (aF A n c) ds) (k:Nat) (hk:k<ds.length):
  ∃b off v,A=some ⟨b,off,none⟩/\b<W.heap.size/\VR W ds[k] v/\W.cell? ⟨b,off+k*3,none⟩=some (sv ds[k].name)/\W.cell? ⟨b,off+k*3+1,none⟩=some v/\W.cell? ⟨b,off+k*3+2,none⟩=some (Value.bool ds[k].imp):=by
 obtain⟨vs,h1,h2⟩:=h;have hl:=h1.len;obtain⟨_,_,A',c',he,h4⟩:=h2;cases he;obtain⟨b,off,rfl,hb,hc⟩:=h4 om;have g: ∀j u,j<3->(sM ds[k] (vs[k]' om))[j]? =some u->W.cell? ⟨b,off+(k*3+j),none⟩=some u:=λj u hj hu=>hc _ _ (by rw[YK ds vs k hk om j hj];exact hu);refine⟨b,off,vs[k]' om,rfl,hb,h1.at k hk om, ?_, ?_, ?_⟩
 .exact g 0 _ om rfl
 .have:=g 1 _ om rfl;rwa[<-Nat.add_assoc]at this
 .have:=g 2 _ om rfl;rwa[<-Nat.add_assoc]at this
def OH (w:World) (ds:List bE) (e:Ending) (w':World):Prop:= ∃A c X,e=Ending.returned (aF A ds.length c)/\w'=w.grow X/\ds.length<=c/\(A=none->c=0)/\nE (w.grow X) (aF A ds.length c) ds
theorem OH.flat {P:Program} {f:FuncId} {args:Array Value} {w1:World} {X:Gr} {ds:List bE} (h:Calls P f args (w1.grow X) (OH (w1.grow X) ds)):Calls P f args (w1.grow X) (OH w1 ds):=
 h.mono λ_ _ hh=>by
  obtain⟨A,c,Y,h1,rfl,h2,h3,h4⟩:=hh;rw[jV]at h4;exact⟨A,c,_,h1,jV w1 X Y,h2,h3,h4⟩
theorem ZU {b off c k:Nat}:yC (some ⟨b,off,none⟩) c k=if c=k then some ⟨b,off,none⟩else some ⟨b,off+k*4,none⟩:=rfl
theorem Si {A:Option Addr} {B c k:Nat} (h: ∀b off s,A=some ⟨b,off,s⟩->s=none/\b=B): ∀b off s,yC A c k=some ⟨b,off,s⟩->s=none/\b=B:=by
 intro b off s h2;unfold yC at h2;split at h2
 .exact h _ _ _ h2
 .cases A with
  |none=>cases h2
  |some a=>
   obtain⟨ab,ao,asp⟩:=a;simp only[Option.map_some,Option.some.injEq,Addr.mk.injEq]at h2;obtain⟨rfl,rfl,rfl⟩:=h2;exact⟨rfl,(h _ _ _ rfl).2⟩
theorem Rd.adv {W:World} {b off n c:Nat} {l:List aK} (h:Rd W (aF (some ⟨b,off,none⟩) n c) l.length 4 (bC l)) (hc:l.length<=c) (k:Nat) (hk:k<=l.length):Rd W (aF (Go.Proofs.YtccjfanpjojbnaaGreatDoor.yC (some ⟨b,off,none⟩) c k) (l.drop k).length (c-k)) (l.drop k).length 4 (bC (l.drop k)):=by
 rw[ZU];by_cases hck:c=k
 .have hdk:(l.drop k).length=l.length-k:=by rw[bL]
  exact⟨oY aK.cells 4 (λ_=>rfl) _,by rw[hdk];have:=h.2.1;omega,_,_,rfl,λhn0=>by rw[hdk]at hn0;omega⟩
 .rw[if_neg hck];exact Rd.drop4 h k hk
theorem Dt {W:World} {B:Nat}: ∀(n:Nat) (l:List aK) (A:Option Addr) (c:Nat),l.length<=n->Rd W (aF A l.length c) l.length 4 (bC l)->(∀b off s,A=some ⟨b,off,s⟩->s=none/\b=B)->(A=none->l=[])->l.length<=c->
  ∀x∈mG A c (eB 0 l),∃A' c',x.1=aF A' x.2.length c'/\x.2.length<=c'/\Rd W (aF A' x.2.length c') x.2.length 4 (bC x.2)/\(∀b off s,A'=some ⟨b,off,s⟩->s=none/\b=B)/\(A'=none->x.2=[])/\ ∀y∈x.2,y∈l:=by
 intro n;induction n with
 |zero=>
  intro l A c hl hr hA hA0 hc x hx;obtain rfl:l=[]:=List.eq_nil_of_length_eq_zero om;simp only[eB,mG,bJ,List.not_mem_nil,or_false]at hx;subst hx;exact⟨A,c,rfl,hc,hr,hA,λ_=>rfl,λy hy=>hy⟩
 |succ n ih=>
  intro l A c hl hr hA hA0 hc x hx;have hcp:=NR l 0;cases hcut:uZ 0 l with
  |none=>
   rw[hcut]at hcp;rw[hcp]at hx;simp only[mG,bJ,List.not_mem_nil,or_false]at hx;subst hx;exact⟨A,c,rfl,hc,hr,hA,hA0,λy hy=>hy⟩
  |some k=>
   rw[hcut]at hcp;obtain⟨hk,hp⟩:=hcp;rw[hp]at hx;have htk:(l.take k).length=k:=by rw[List.length_take];omega
   obtain⟨b,off,rfl⟩: ∃b off,A=some ⟨b,off,none⟩:=by
    cases A with
    |none=>have:=hA0 rfl;rw[this]at hk;simp at hk
    |some ad=>
     obtain⟨ab,ao,asp⟩:=ad;obtain⟨rfl,_⟩:=hA ab ao asp rfl;exact⟨ab,ao,rfl⟩
   simp only[mG,bJ]at hx;rcases hx with rfl|hx
   .exact⟨_,c,rfl,by simp only[htk];omega,Rd.take4 hr k om,hA,(λh=>by cases h),λy hy=>List.mem_of_mem_take hy⟩
   .rw[htk]at hx;have hdk:(l.drop (k+1)).length=l.length-(k+1):=by rw[bL]
    obtain⟨A',c',h1,h2,h3,h4,h5,h6⟩:=ih (l.drop (k+1)) _ _ om (Rd.adv hr hc (k+1) om) (Si hA) (λh=>by rw[ZU]at h;split at h<;>cases h) om x hx;exact⟨A',c',h1,h2,h3,h4,h5,λy hy=>jd (h6 y hy)⟩
theorem EP: ∀(ps:List (List aK)) (A:Option Addr) (c:Nat),(mG A c ps).map (·.2)=ps
 |[],_,_=>rfl
 |p::ps,A,c=>by rw[mG,List.map_cons,EP ps]
theorem xX {P:Program} {l n:Nat} {f:FuncId} {args:Array Value} {w:World} {R:Ending->World->Prop} (h:Calls P f args w R):CallsIn (Fence.wide.inRound l) n P f args w R:=(callsIn_wide (n:=n)).2 h
