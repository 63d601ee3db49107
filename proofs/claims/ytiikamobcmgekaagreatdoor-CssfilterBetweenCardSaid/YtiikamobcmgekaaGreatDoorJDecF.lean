/- The walks of declarations: what lists of them read as; parts in memory; a clone of the call's own. -/
import Derived.Test.YtiikamobcmgekaaGreatDoorJDecD
namespace Go.Proofs.YtiikamobcmgekaaGreatDoor
set_option maxRecDepth 100000
set_option maxHeartbeats 8000000
open Go.RowKit Go.Shelf
attribute [local go_sem] Oper.semAt_some
theorem parts2_iter (db lb eb:Nat) (bw:Nat->Prop) (A:Option Addr) (c:Nat) (l:List Css) (W:World) (hd: ∃v,Boxed W db 3 v) (hl:Boxed W lb 42 (.slice A l.length c)) (he:Boxed W eb 144 (.func (.func 95) #[] #[.pointer (some ⟨db,0,none⟩)]))
  (h1:db≠lb) (h2:eb≠db) (h3:eb≠lb) (hbd: ¬bw db) (hbl: ¬bw lb) (hbe: ¬bw eb) (hr:Rd W (.slice A l.length c) l.length 4 (cssCells l)) (hA: ∀b off s,A=some ⟨b,off,s⟩->s=none/\b≠db/\b≠lb/\ ¬bw b) (hA0:A=none->l=[])
  (hc:l.length<=c) (hp: ∀x∈l,Proper x) (hn:l.length<=1000000000):
  IterAt Tryz.prog 97 #[.pointer (some ⟨db,0,none⟩),.pointer (some ⟨lb,0,none⟩),.pointer (some ⟨eb,0,none⟩)] (fun x:Value × List Css=> #[x.1]) (fun k=>k=db\/k=lb) bw (partsV A c (partsL 0 l)) W:=by
 intro ll J Jx hJ hY h0
 refine callsIn_of_wp Tryz.func97 rfl trivial ?_ rfl
 simp only[Tryz.ntmps97,List.size_toArray,List.length_cons,List.length_nil,Nat.reduceAdd,Nat.reduceSub,Array.replicate_succ,Array.replicate_zero,List.push_toArray,List.append_toArray,List.nil_append,List.cons_append]
 obtain⟨xs,hxs⟩: ∃xs,partsV A c (partsL 0 l)=xs:=⟨_,rfl⟩
 have HXS:=Lib.hid hxs
 rw[hxs]at hY ⊢
 clear hxs
 gi_wp2_with fail
 gi_loopw [5] (fun _ wr=> ∃(A':Option Addr) (c':Nat) (l':List Css) (pre:List (Value × List Css)),l'.length<=l.length/\(∃v,Boxed wr db 3 v)/\Boxed wr lb 42 (.slice A' l'.length c')/\Boxed wr eb 144 (.func (.func 95) #[] #[.pointer (some ⟨db,0,none⟩)])/\
   Rd wr (.slice A' l'.length c') l'.length 4 (cssCells l')/\Hid (∀b off s,A'=some ⟨b,off,s⟩->s=none/\b≠db/\b≠lb/\ ¬bw b)/\Hid (A'=none->l'=[])/\l'.length<=c'/\Hid (∀x∈l',Proper x)/\Hid (J pre wr)/\Hid (pre++partsV A' c' (partsL 0 l')=xs)) (fun _ wr=>lenSl wr lb)
 case atStart=>
  exact⟨A,c,l,[],Nat.le_refl _,hd,hl,he,hr,hA,hA0,hc,hp,h0,HXS.out⟩
 case round=>
  clear hd hl he hr hA hA0 hc hp h0
  obtain⟨A',c',l',pre,hle,⟨v0,hd⟩,hl,he,hr,HA,HA0,hc,HP,HJ,HK⟩:=hrel
  have f1:=hd.frozen
  have g1:=hd.cell
  have g3:=hl.cell
  have g4:=hl.frozen
  have g5:=he.cell
  have hlt1:=hd.lt
  have hlt2:=hl.lt
  have hlt3:=he.lt
  have hd2:Boxed (wr.setCell ⟨db,0,none⟩ (.int .i64 0)) db 3 (.int .i64 0):=hd.set _
  have ht1:Turned (fun k=>k=db) wr (wr.setCell ⟨db,0,none⟩ (.int .i64 0)):=Turned.setCell (pv:=fun k=>k=db) (Turned.refl _ _) (Or.inr rfl) _
  have hAd: ∀b off s,A'=some ⟨b,off,s⟩-> ¬(b=db):=fun b off s h=>(HA.out b off s h).2.1
  have HI:=Lib.hid (index_parts A' l'.length c' l' db _ hd2 (hr.turned ht1 hAd) hAd HP.out (by omega))
  have hl2:=ht1.boxed hl (fun h=>h1 h.symm)
  have he2:=ht1.boxed he (fun h=>h2 h)
  have hr2:=hr.turned ht1 hAd
  have hc3:=hl2.cell
  have hc5:=he2.cell
  have HJ1:Hid (J pre (wr.setCell ⟨db,0,none⟩ (.int .i64 0))):=hJ _ _ _ HJ.out (ht1.mono fun k hk=> .inl hk)
  have hsz:wr.heap.size<=(wr.setCell ⟨db,0,none⟩ (.int .i64 0)).heap.size:=ht1.size
  have hcp:=cut_parts l' 0
  cases hcut:cutN 0 l' with
  |none=>
   rw[hcut]at hcp
   have HCI:Hid (cutI l'= -1):=by show _=_;unfold cutI;rw[hcut]
   rw[HCI.out]at HI
   have HX:Hid (pre++[(.slice A' l'.length c',l')]=xs):=by show _=_;rw[<-HK.out,hcp];rfl
   have HI2:=Lib.hid HI.out
   clear HI hcp hcut HK HCI
   have HL2:=Lib.hid hl2
   have HE2:=Lib.hid he2
   clear hl2 he2 hr2 hr hl he hd hd2 ht1 hAd hc3 hc5
   gi_wp2_with (gi_at_call 98;(with_reducible refine(callsIn_wide.2 HI2.out).mono ?_);rintro e W2 ⟨rfl,ht2,e',hb2⟩;have HL3:=Lib.hid (ht2.boxed HL2.out (fun h=>h1 h.symm));have HE3:=Lib.hid (ht2.boxed HE2.out (fun h=>h2 h));have r3:=HL3.out.cell;have HJ2:=Lib.hid (hJ _ _ _ HJ1.out (ht2.mono fun k hk=> .inl hk)))
   refine upon_yield (hY pre (.slice A' l'.length c',l') _ ⟨[],by rw[List.append_nil];exact HX.out⟩ HJ2.out) rfl ?_
   rintro e W3 (⟨rfl,hJ3,ht3⟩|⟨rfl,hJx⟩)
   ·refine⟨_,rfl, ?_⟩
    gi_wp2_with fail
    refine bodyPost_ret (results_none rfl _ _ _) rfl ?_
    rw[HX.out]at hJ3
    exact⟨⟨_,rfl⟩,.inl hJ3⟩
   ·refine⟨_,rfl, ?_⟩
    gi_wp2_with fail
    refine bodyPost_ret (results_none rfl _ _ _) rfl ?_
    exact⟨⟨_,rfl⟩,.inr ⟨pre,_,⟨[],by rw[List.append_nil];exact HX.out⟩,hJx⟩⟩
  |some k=>
   rw[hcut]at hcp
   obtain⟨hkl,hpart⟩:=hcp
   have HCI:Hid (cutI l'=(k:Nat)):=by show _=_;unfold cutI;rw[hcut]
   rw[HCI.out]at HI
   obtain⟨b,off,hAb⟩: ∃b off,A'=some ⟨b,off,none⟩:=by
    cases A' with
    |none=>have:=HA0.out rfl;rw[this]at hkl;simp at hkl
    |some ad=>
     obtain⟨ab,ao,asp⟩:=ad
     obtain⟨rfl,_⟩:=HA.out ab ao asp rfl
     exact⟨ab,ao,rfl⟩
   subst hAb
   obtain⟨_,hbdb,hblb,hbbw⟩:=HA.out b off none rfl
   have htk:(l'.take k).length=k:=by rw[List.length_take];omega
   have hdk:(l'.drop (k+1)).length=l'.length-(k+1):=by rw[List.length_drop]
   have HX:Hid (pre++[(.slice (some ⟨b,off,none⟩) k c',l'.take k)]++partsV (adv (some ⟨b,off,none⟩) c' (k+1)) (c'-(k+1)) (partsL 0 (l'.drop (k+1)))=xs):=by
    show _=_
    rw[<-HK.out,hpart,partsV,htk,List.append_assoc];rfl
   have HI2:=Lib.hid HI.out
   have hr4:=Rd.drop4 hr (k+1) (by omega)
   obtain⟨Av,hAv⟩: ∃Av,(if c'=k+1 then some (⟨b,off,none⟩:Addr)else some ⟨b,off+(k+1)*4,none⟩)=Av:=⟨_,rfl⟩
   have HAv:Hid (adv (some ⟨b,off,none⟩) c' (k+1)=Av):=by show _=_;rw[<-hAv];rfl
   rw[HAv.out]at HX
   have HAv2:Hid (∀b' off' s,Av=some ⟨b',off',s⟩->s=none/\b'=b):=fun b' off' s h=>by
    rw[<-hAv]at h
    split at h<;>(cases h;exact⟨rfl,rfl⟩)
   have HAv3:Hid (Av≠none):=by
    show _≠_
    rw[<-hAv];split<;>simp
   have hr5:Rd wr (.slice Av (l'.drop (k+1)).length (c'-(k+1))) (l'.drop (k+1)).length 4 (cssCells (l'.drop (k+1))):=by
    by_cases hck:c'=k+1
    ·refine⟨flat_len Css.cells 4 (fun _=>rfl) _,by rw[hdk];have:=hr.2.1;omega,_,_,rfl,fun hn0=> ?_⟩
     rw[hdk]at hn0;omega
    ·rw[if_neg hck]at hAv
     rw[<-hAv];exact hr4
   rw[hdk]at hr5
   have HR4:=Lib.hid hr5
   clear hr5
   have HDK:=Lib.hid hdk
   have HP4:Hid (∀x∈l'.drop (k+1),Proper x):=fun x hx=>HP.out x (List.mem_of_mem_drop hx)
   have HL2:=Lib.hid hl2
   have HE2:=Lib.hid he2
   have HT1:=Lib.hid ht1
   have HLw:=Lib.hid hl
   clear hl2 he2 hr2 hr hl he hd hd2 ht1 hAd hc3 hc5 hr4 HI hcut hpart HK HCI hdk
   have hkc:k<=c':=by omega
   have hk1:k+1<=l'.length:=by omega
   have hk2:k+1<=c':=by omega
   generalize hln:l'.length=nn at*
   have hnn9:nn<=1000000000:=by omega
   gi_wp2_with (gi_at_call 98;(with_reducible refine(callsIn_wide.2 HI2.out).mono ?_);rintro e W2 ⟨rfl,ht2,e',hb2⟩;have HL3:=Lib.hid (ht2.boxed HL2.out (fun h=>h1 h.symm));have HE3:=Lib.hid (ht2.boxed HE2.out (fun h=>h2 h));have r3:=HL3.out.cell;have HJ2:=Lib.hid (hJ _ _ _ HJ1.out (ht2.mono fun k hk=> .inl hk));have HB2:=Lib.hid hb2;have HT2:=Lib.hid ht2;clear hb2 ht2)
   refine upon_yield (hY pre (.slice (some ⟨b,off,none⟩) k c',l'.take k) _ ⟨_,HX.out⟩ HJ2.out) rfl ?_
   rintro e W3 (⟨rfl,hJ3,ht3⟩|⟨rfl,hJx⟩)
   ·refine⟨_,rfl, ?_⟩
    have HL4:=Lib.hid (ht3.boxed HL3.out hbl)
    have HE4:=Lib.hid (ht3.boxed HE3.out hbe)
    have HB4:=Lib.hid (ht3.boxed HB2.out hbd)
    have s3:=HL4.out.cell
    have s4:=HL4.out.frozen
    have slt:=HL4.out.lt
    have HT3:=Lib.hid ht3
    have HJ3:=Lib.hid hJ3
    clear hJ3 ht3 r3 g1 g3 g4 g5 f1
    gi_wp2_with fail
    go_roundw
    case rel=>
     have hTl:Turned (fun k=>k=lb) W3 (W3.setCell ⟨lb,0,none⟩ (.slice Av (nn-(k+1)) (c'-(k+1)))):=Turned.setCell (pv:=fun k=>k=lb) (Turned.refl _ _) (Or.inr rfl) _
     refine⟨Av,c'-(k+1),l'.drop (k+1),_,by rw[HDK.out];omega,⟨_,hTl.boxed HB4.out h1⟩,by rw[HDK.out];exact HL4.out.set _,hTl.boxed HE4.out h3, ?_, ?_,fun h=>absurd h HAv3.out,by rw[HDK.out];omega,HP4.out,hJ _ _ _ HJ3.out (hTl.mono fun k hk=> .inr hk),HX.out⟩
     ·rw[HDK.out]
      refine Rd.turned (pv:=fun k=>k=lb) (Rd.turned (pv:=bw) (Rd.turned (pv:=fun k=>k=db) (Rd.turned (pv:=fun k=>k=db) HR4.out HT1.out ?_) HT2.out ?_) HT3.out ?_) hTl ?_
      all_goals(intro b' off' s h;obtain⟨rfl,rfl⟩:=HAv2.out _ _ _ h;first|assumption|exact hbdb|exact hblb)
     ·intro b' off' s h
      obtain⟨rfl,rfl⟩:=HAv2.out _ _ _ h
      exact⟨rfl,hbdb,hblb,hbbw⟩
    case measure=>
     rw[lenSl_boxed (HL4.out.set _),lenSl_boxed HLw.out];omega
   ·refine⟨_,rfl, ?_⟩
    gi_wp2_with fail
    refine bodyPost_ret (results_none rfl _ _ _) rfl ?_
    exact⟨⟨_,rfl⟩,.inr ⟨pre,_,⟨_,HX.out⟩,hJx⟩⟩
def AllV {α β:Type} (p:α->β->Prop):List α->List β->Prop
 |[],[]=>True
 |d::ds,v::vs=>p d v/\AllV p ds vs
 |_,_=>False
theorem AllV.mono {α β:Type} {p q:α->β->Prop}: ∀{ds:List α} {vs:List β},AllV p ds vs->(∀d v,d∈ds->p d v->q d v)->AllV q ds vs
 |[],[],_,_=>trivial
 |_::_,_::_,h,hq=>⟨hq _ _ (List.mem_cons_self ..) h.1,AllV.mono h.2 fun d v hd=>hq d v (List.mem_cons_of_mem _ hd)⟩
 |[],_::_,h,_=>h.elim
 |_::_,[],h,_=>h.elim
theorem AllV.snoc {α β:Type} {p:α->β->Prop} {d:α} {v:β} (hd:p d v): ∀{ds:List α} {vs:List β},AllV p ds vs->AllV p (ds++[d]) (vs++[v])
 |[],[],_=>⟨hd,trivial⟩
 |_::_,_::_,h=>⟨h.1,AllV.snoc hd h.2⟩
 |[],_::_,h=>h.elim
 |_::_,[],h=>h.elim
theorem AllV.len {α β:Type} {p:α->β->Prop}: ∀{ds:List α} {vs:List β},AllV p ds vs->vs.length=ds.length
 |[],[],_=>rfl
 |_::_,_::_,h=>by simp[AllV.len h.2]
 |[],_::_,h=>h.elim
 |_::_,[],h=>h.elim
theorem AllV.at {α β:Type} {p:α->β->Prop}: ∀{ds:List α} {vs:List β},AllV p ds vs-> ∀i (h:i<ds.length) (h2:i<vs.length),p ds[i] vs[i]
 |[],_,_,i,h,_=>absurd h (by simp)
 |_::_,_::_,h,0,_,_=>h.1
 |_::_,_::_,h,i+1,h1,h2=>AllV.at h.2 i (by simpa using h1) (by simpa using h2)
 |_::_,[],h,_,_,_=>h.elim
theorem AllV.app {α β:Type} {p:α->β->Prop}: ∀{ds es:List α} {vs us:List β},AllV p ds vs->AllV p es us->AllV p (ds++es) (vs++us)
 |[],_,[],_,_,h=>h
 |_::_,_,_::_,_,h,h2=>⟨h.1,AllV.app h.2 h2⟩
 |[],_,_::_,_,h,_=>h.elim
 |_::_,_,[],_,h,_=>h.elim
def dclCells (d:Dcl) (v:Value):List Value:=[sv d.name,v,.bool d.imp]
def dclFlat:List Dcl->List Value->List Value
 |d::ds,v::vs=>dclCells d v++dclFlat ds vs
 |_,_=>[]
theorem flat_snoc (d:Dcl) (v:Value): ∀(ds:List Dcl) (vs:List Value),vs.length=ds.length->dclFlat (ds++[d]) (vs++[v])=dclFlat ds vs++dclCells d v
 |[],[],_=>by simp[dclFlat]
 |_::ds,_::vs,h=>by
  have:=flat_snoc d v ds vs (by simpa using h)
  simp only[List.cons_append,dclFlat,this,List.append_assoc]
 |[],_::_,h=>by simp at h
 |_::_,[],h=>by simp at h
theorem dflat_at: ∀(ds:List Dcl) (vs:List Value) (k:Nat) (h:k<ds.length) (h2:k<vs.length) (j:Nat),j<3->(dclFlat ds vs)[k*3+j]? =(dclCells ds[k] vs[k])[j]?
 |[],_,_,h,_,_,_=>absurd h (by simp)
 |_::_,[],_,_,h,_,_=>absurd h (by simp)
 |d::ds,v::vs,0,_,_,j,hj=>by
  rw[Nat.zero_mul,Nat.zero_add,dclFlat,List.getElem?_append_left (by simpa[dclCells]using hj)];rfl
 |d::ds,v::vs,k+1,h,h2,j,hj=>by
  have:=dflat_at ds vs k (by simpa using h) (by simpa using h2) j hj
  rw[dclFlat,List.getElem?_append_right (by simp[dclCells];omega),show(k+1)*3+j-(dclCells d v).length=k*3+j by simp[dclCells];omega,this]
  rfl
def VR (W:World) (d:Dcl) (v:Value):Prop:= ∃A c,v= .slice A d.value.length c/\(A=none->c=0)/\d.value.length<=c/\Rd W v d.value.length 4 (cssCells d.value)
def RdD (W:World) (v:Value) (ds:List Dcl):Prop:= ∃vs,AllV (VR W) ds vs/\Rd W v ds.length 3 (dclFlat ds vs)
theorem VR.grow {W:World} {d:Dcl} {v:Value} (h:VR W d v) (X:Gr):VR (W.grow X) d v:=by
 obtain⟨A,c,h1,h2,h3,h4⟩:=h
 exact⟨A,c,h1,h2,h3,h4.grow X⟩
theorem RdD.grow {W:World} {v:Value} {ds:List Dcl} (h:RdD W v ds) (X:Gr):RdD (W.grow X) v ds:=by
 obtain⟨vs,h1,h2⟩:=h
 exact⟨vs,h1.mono fun d v _ h=>h.grow X,h2.grow X⟩
theorem RdD.at {W:World} {A:Option Addr} {n c:Nat} {ds:List Dcl} (h:RdD W (.slice A n c) ds) (k:Nat) (hk:k<ds.length):
  ∃b off v,A=some ⟨b,off,none⟩/\b<W.heap.size/\VR W ds[k] v/\W.cell? ⟨b,off+k*3,none⟩=some (sv ds[k].name)/\W.cell? ⟨b,off+k*3+1,none⟩=some v/\W.cell? ⟨b,off+k*3+2,none⟩=some (.bool ds[k].imp):=by
 obtain⟨vs,h1,h2⟩:=h
 have hl:=h1.len
 obtain⟨_,_,A',c',he,h4⟩:=h2
 cases he
 obtain⟨b,off,rfl,hb,hc⟩:=h4 (by omega)
 have g: ∀j u,j<3->(dclCells ds[k] (vs[k]'(by omega)))[j]? =some u->W.cell? ⟨b,off+(k*3+j),none⟩=some u:=fun j u hj hu=>hc _ _ (by rw[dflat_at ds vs k hk (by omega) j hj];exact hu)
 refine⟨b,off,vs[k]'(by omega),rfl,hb,h1.at k hk (by omega), ?_, ?_, ?_⟩
 ·exact g 0 _ (by omega) rfl
 ·have:=g 1 _ (by omega) rfl;rwa[<-Nat.add_assoc]at this
 ·have:=g 2 _ (by omega) rfl;rwa[<-Nat.add_assoc]at this
def RetD (w:World) (ds:List Dcl) (e:Ending) (w':World):Prop:= ∃A c X,e= .returned (.slice A ds.length c)/\w'=w.grow X/\ds.length<=c/\(A=none->c=0)/\RdD (w.grow X) (.slice A ds.length c) ds
theorem RetD.flat {P:Program} {f:FuncId} {args:Array Value} {w1:World} {X:Gr} {ds:List Dcl} (h:Calls P f args (w1.grow X) (RetD (w1.grow X) ds)):Calls P f args (w1.grow X) (RetD w1 ds):=
 h.mono fun _ _ hh=>by
  obtain⟨A,c,Y,h1,rfl,h2,h3,h4⟩:=hh
  rw[grow_grow]at h4
  exact⟨A,c,_,h1,grow_grow w1 X Y,h2,h3,h4⟩
theorem adv_some {b off c k:Nat}:adv (some ⟨b,off,none⟩) c k=if c=k then some ⟨b,off,none⟩else some ⟨b,off+k*4,none⟩:=rfl
theorem adv_facts {A:Option Addr} {B c k:Nat} (h: ∀b off s,A=some ⟨b,off,s⟩->s=none/\b=B): ∀b off s,adv A c k=some ⟨b,off,s⟩->s=none/\b=B:=by
 intro b off s h2
 unfold adv at h2
 split at h2
 ·exact h _ _ _ h2
 ·cases A with
  |none=>cases h2
  |some a=>
   obtain⟨ab,ao,asp⟩:=a
   simp only[Option.map_some,Option.some.injEq,Addr.mk.injEq]at h2
   obtain⟨rfl,rfl,rfl⟩:=h2
   exact⟨rfl,(h _ _ _ rfl).2⟩
theorem Rd.adv {W:World} {b off n c:Nat} {l:List Css} (h:Rd W (.slice (some ⟨b,off,none⟩) n c) l.length 4 (cssCells l)) (hc:l.length<=c) (k:Nat) (hk:k<=l.length):Rd W (.slice (Go.Proofs.YtiikamobcmgekaaGreatDoor.adv (some ⟨b,off,none⟩) c k) (l.drop k).length (c-k)) (l.drop k).length 4 (cssCells (l.drop k)):=by
 rw[adv_some]
 by_cases hck:c=k
 ·have hdk:(l.drop k).length=l.length-k:=by rw[List.length_drop]
  exact⟨flat_len Css.cells 4 (fun _=>rfl) _,by rw[hdk];have:=h.2.1;omega,_,_,rfl,fun hn0=>by rw[hdk]at hn0;omega⟩
 ·rw[if_neg hck];exact Rd.drop4 h k hk
theorem partsV_facts {W:World} {B:Nat}: ∀(n:Nat) (l:List Css) (A:Option Addr) (c:Nat),l.length<=n->Rd W (.slice A l.length c) l.length 4 (cssCells l)->(∀b off s,A=some ⟨b,off,s⟩->s=none/\b=B)->(A=none->l=[])->l.length<=c->
  ∀x∈partsV A c (partsL 0 l),∃A' c',x.1= .slice A' x.2.length c'/\x.2.length<=c'/\Rd W (.slice A' x.2.length c') x.2.length 4 (cssCells x.2)/\(∀b off s,A'=some ⟨b,off,s⟩->s=none/\b=B)/\(A'=none->x.2=[])/\ ∀y∈x.2,y∈l:=by
 intro n
 induction n with
 |zero=>
  intro l A c hl hr hA hA0 hc x hx
  obtain rfl:l=[]:=List.eq_nil_of_length_eq_zero (by omega)
  simp only[partsL,partsV,List.mem_cons,List.not_mem_nil,or_false]at hx
  subst hx
  exact⟨A,c,rfl,hc,hr,hA,fun _=>rfl,fun y hy=>hy⟩
 |succ n ih=>
  intro l A c hl hr hA hA0 hc x hx
  have hcp:=cut_parts l 0
  cases hcut:cutN 0 l with
  |none=>
   rw[hcut]at hcp
   rw[hcp]at hx
   simp only[partsV,List.mem_cons,List.not_mem_nil,or_false]at hx
   subst hx
   exact⟨A,c,rfl,hc,hr,hA,hA0,fun y hy=>hy⟩
  |some k=>
   rw[hcut]at hcp
   obtain⟨hk,hp⟩:=hcp
   rw[hp]at hx
   have htk:(l.take k).length=k:=by rw[List.length_take];omega
   obtain⟨b,off,rfl⟩: ∃b off,A=some ⟨b,off,none⟩:=by
    cases A with
    |none=>have:=hA0 rfl;rw[this]at hk;simp at hk
    |some ad=>
     obtain⟨ab,ao,asp⟩:=ad
     obtain⟨rfl,_⟩:=hA ab ao asp rfl
     exact⟨ab,ao,rfl⟩
   simp only[partsV,List.mem_cons]at hx
   rcases hx with rfl|hx
   ·exact⟨_,c,rfl,by simp only[htk];omega,Rd.take4 hr k (by omega),hA,(fun h=>by cases h),fun y hy=>List.mem_of_mem_take hy⟩
   ·rw[htk]at hx
    have hdk:(l.drop (k+1)).length=l.length-(k+1):=by rw[List.length_drop]
    obtain⟨A',c',h1,h2,h3,h4,h5,h6⟩:=ih (l.drop (k+1)) _ _ (by omega) (Rd.adv hr hc (k+1) (by omega)) (adv_facts hA) (fun h=>by rw[adv_some]at h;split at h<;>cases h) (by omega) x hx
    exact⟨A',c',h1,h2,h3,h4,h5,fun y hy=>List.mem_of_mem_drop (h6 y hy)⟩
theorem partsV_snd: ∀(ps:List (List Css)) (A:Option Addr) (c:Nat),(partsV A c ps).map (·.2)=ps
 |[],_,_=>rfl
 |p::ps,A,c=>by rw[partsV,List.map_cons,partsV_snd ps]
theorem callsIn_round {P:Program} {l n:Nat} {f:FuncId} {args:Array Value} {w:World} {R:Ending->World->Prop} (h:Calls P f args w R):CallsIn (Fence.wide.inRound l) n P f args w R:=(callsIn_wide (n:=n)).2 h
end Go.Proofs.YtiikamobcmgekaaGreatDoor
