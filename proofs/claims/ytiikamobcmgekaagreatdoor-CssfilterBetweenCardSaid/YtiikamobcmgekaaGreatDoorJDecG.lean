/- The walks of declarations: a style's declarations. -/
import Derived.Sort.CutIn
import Derived.Lib.SmallJoins
import Derived.Test.YtiikamobcmgekaaGreatDoorKB
import Derived.Test.YtiikamobcmgekaaGreatDoorJDecF
namespace Go.Proofs.YtiikamobcmgekaaGreatDoor
set_option maxRecDepth 100000
set_option maxHeartbeats 8000000
open Go.RowKit Go.Shelf
attribute [local go_sem] Oper.semAt_some
theorem decl_row:SlT Tryz.prog 39 44 (.agg #[.string ⟨#[]⟩,.slice none 0 0,.bool false]) 3 48:=⟨by kernel_rfl,by kernel_rfl,by kernel_rfl,by decide⟩
def dsOf (pre:List (Value × List Css)):List Dcl:=pre.filterMap fun x=>declOf x.2
theorem dsOf_snoc (pre:List (Value × List Css)) (x:Value × List Css):dsOf (pre++[x])=dsOf pre++(declOf x.2).toList:=by
 unfold dsOf
 rw[List.filterMap_append]
 cases h:declOf x.2<;>simp[h]
structure ParseI (W1:World) (lb db ob base:Nat) (pre:List (Value × List Css)) (W:World):Prop where
 row: ∃v vs,Boxed W ob 39 v/\W.ownsRow base 44 3 v (dsOf pre).length (dclFlat (dsOf pre) vs)/\
  AllV (fun d u=>W.ownsRow base 72 4 u d.value.length (cssCells d.value)) (dsOf pre) vs
 turned:Turned (fun k=>k=lb\/k=db\/k=ob) W1 W
theorem ParseI.step {W1:World} {lb db ob base:Nat} {pre:List (Value × List Css)} {A C:World} {pv:Nat->Prop} (h:ParseI W1 lb db ob base pre A) (ht:Turned pv A C) (h1: ¬pv ob) (h2: ∀k,pv k->k<base) (h3: ∀k,pv k->k<W1.heap.size->k=lb\/k=db\/k=ob):ParseI W1 lb db ob base pre C:=by
 obtain⟨⟨v,vs,hb,ho,ha⟩,htt⟩:=h
 exact⟨⟨v,vs,ht.boxed hb h1,ht.own ho h2,ha.mono fun d u _ h=>ht.own h h2⟩,htt.next ht fun i hi hlt=>h3 i hi hlt⟩
theorem declOf_few {p:List Css} (h:p.length<2):declOf p=none:=by
 match p,h with
 |[],_=>rfl
 |[_],_=>rfl
 |_::_::_,h=>simp at h;omega
theorem declOf_at {p:List Css} (h:2<=p.length):declOf p=if decide (p[0].kind=1)&&mk1 58 p[1]&&mayC (urgV (p.drop 2))then some ⟨p[0].text,urgV (p.drop 2),urg (p.drop 2)⟩else none:=by
 match p,h with
 |a::b::r,_=>rfl
 |[_],h=>simp at h
 |[],h=>simp at h
theorem urgV_take (l:List Css):urgV l=l.take (urgV l).length:=by
 unfold urgV
 split
 ·simp
 ·simp
theorem urgV_le (l:List Css):(urgV l).length<=l.length:=by
 unfold urgV
 split
 ·rw[List.length_take];omega
 ·exact Nat.le_refl _
theorem parts_few: ∀(l:List Css) (d:Nat),(partsL d l).length<=l.length+1/\ ∀p∈partsL d l,p.length<=l.length:=by
 intro l
 induction l with
 |nil=>intro d;simp[partsL]
 |cons x l ih=>
  intro d
  simp only[partsL]
  split
  ·obtain⟨h1,h2⟩:=ih 0
   refine⟨by simp only[List.length_cons];omega,fun p hp=> ?_⟩
   simp only[List.mem_cons]at hp
   rcases hp with rfl|hp
   ·simp
   ·have:=h2 p hp;simp only[List.length_cons];omega
  ·obtain⟨h1,h2⟩:=ih (dn d x)
   obtain⟨q,qs,hq⟩:=parts_ne (dn d x) l
   rw[hq]at h1 h2 ⊢
   simp only[List.length_cons]at h1 ⊢
   refine⟨by omega,fun p hp=> ?_⟩
   simp only[List.mem_cons]at hp
   rcases hp with rfl|hp
   ·have:=h2 q (List.mem_cons_self ..);simp only[List.length_cons];omega
   ·have:=h2 p (List.mem_cons_of_mem _ hp);omega
theorem dsOf_len (pre:List (Value × List Css)):(dsOf pre).length<=pre.length:=List.length_filterMap_le ..
theorem ParseI.same {W1:World} {lb db ob base:Nat} {pre pre':List (Value × List Css)} {W:World} (h:ParseI W1 lb db ob base pre W) (he:dsOf pre'=dsOf pre):ParseI W1 lb db ob base pre' W:=by
 obtain⟨h1,h2⟩:=h
 exact⟨by rw[he];exact h1,h2⟩
theorem ParseI.none {W1:World} {lb db ob base:Nat} {pre:List (Value × List Css)} {x:Value × List Css} {A W:World} {bw:Nat->Prop} (h:ParseI W1 lb db ob base pre A) (hx:declOf x.2=none) (hW: ∃Y,W=A.grow Y):Turned bw A W/\ParseI W1 lb db ob base (pre++[x]) W:=by
 obtain⟨Y,rfl⟩:=hW
 refine⟨(Turned.refl _ _).grow Y,(h.step (pv:=fun _=>False) ((Turned.refl _ _).grow Y) (fun h=>h) (fun _ h=>h.elim) (fun _ h _=>h.elim)).same ?_⟩
 rw[dsOf_snoc,hx];simp
def sizeIs (w:World) (n:Nat):Prop:=w.heap.size=n
theorem parseI_more {W1:World} {lb db ob base:Nat} {pre:List (Value × List Css)} {x:Value × List Css} {A W2:World} {Y X:Gr} {o:Obj} {Ar A9:Option Addr} {n cr n9 c9 m:Nat} {vC tv:Value} {vs:List Value} {d:Dcl}
  (hob:ob<base) (_hb:base<=A.heap.size) (hs1:W1.heap.size<=base) (htt:Turned (fun k=>k=lb\/k=db\/k=ob) W1 A)
  (hall:AllV (fun d u=>A.ownsRow base 72 4 u d.value.length (cssCells d.value)) (dsOf pre) vs)
  (hov:A.ownsRow base 44 3 (.slice Ar n cr) n (dclFlat (dsOf pre) vs))
  (hoc:((A.grow Y).grow X).ownsRow base 72 4 vC m (cssCells d.value)) (hm:m=d.value.length)
  (hg:(((A.grow Y).grow X).alloc o).grownBy W2 (Value.slice Ar n cr).ownBlock)
  (ho:W2.ownsRow base 44 3 (.slice A9 n9 c9) n9 (dclFlat (dsOf pre) vs++[tv,vC,.bool d.imp])) (hn9:n9=(dsOf pre).length+1)
  (hbx:Boxed W2 ob 39 (.slice Ar n cr)) (hx:declOf x.2=some d) (ht:sv d.name=tv):
  Turned (fun k=>k=ob\/base<=k) A (W2.setCell ⟨ob,0,none⟩ (.slice A9 n9 c9))/\ParseI W1 lb db ob base (pre++[x]) (W2.setCell ⟨ob,0,none⟩ (.slice A9 n9 c9)):=by
 subst hm hn9 ht
 have hov':(((A.grow Y).grow X).alloc o).ownsRow base 44 3 (.slice Ar n cr) n (dclFlat (dsOf pre) vs):=(own_grow (own_grow hov _) _).alloc _
 have hne: ∀k,(Value.slice Ar n cr).ownBlock=some k->base<=k:=fun k hk=>(hov.lt k hk).1
 have hT0:Turned (fun k=>k=ob\/base<=k) A W2:=(((Turned.refl _ A).grow Y).grow X |>.alloc o).trans (turned_grown hg fun b hb=>Or.inr (hne b hb))
 have hT:Turned (fun k=>k=ob\/base<=k) A (W2.setCell ⟨ob,0,none⟩ (.slice A9 ((dsOf pre).length+1) c9)):=hT0.setCell (p:=⟨ob,0,none⟩) (Or.inr (Or.inl rfl)) _
 have oth: ∀{e:TypeId} {size:Nat} {u:Value} {k:Nat} {xs:List Value},W2.ownsRow base e size u k xs->(W2.setCell ⟨ob,0,none⟩ (.slice A9 ((dsOf pre).length+1) c9)).ownsRow base e size u k xs:=fun h=>own_oth h (fun k hk=>by have:=(h.lt k hk).1;omega) 0 _
 have far: ∀{u:Value} {k:Nat} {xs:List Value},(((A.grow Y).grow X).alloc o).ownsRow base 72 4 u k xs->(W2.setCell ⟨ob,0,none⟩ (.slice A9 ((dsOf pre).length+1) c9)).ownsRow base 72 4 u k xs:=fun h=>
  oth (own_grown hg h (fun b hb=>own_apart h hov' (by decide) b hb))
 refine⟨hT,⟨⟨_,vs++[vC],hbx.set _, ?_, ?_⟩,htt.next hT fun i hi hlt=>by omega⟩⟩
 ·rw[dsOf_snoc,hx]
  have:=oth ho
  rw[show(Option.some d).toList=[d]from rfl,flat_snoc d vC _ _ hall.len,List.length_append]
  exact this
 ·rw[dsOf_snoc,hx]
  exact AllV.snoc (p:=fun d u=>(W2.setCell ⟨ob,0,none⟩ (.slice A9 ((dsOf pre).length+1) c9)).ownsRow base 72 4 u d.value.length (cssCells d.value)) (far (hoc.alloc _)) (hall.mono fun d u _ h=>far ((own_grow (own_grow h _) _).alloc _))
def RetDO (w:World) (ds:List Dcl) (e:Ending) (w':World):Prop:= ∃v vs X,e= .returned v/\w'=w.grow X/\(w.grow X).ownsRow w.heap.size 44 3 v ds.length (dclFlat ds vs)/\AllV (fun d u=>(w.grow X).ownsRow w.heap.size 72 4 u d.value.length (cssCells d.value)) ds vs
theorem VR.own {W:World} {B:Nat} {d:Dcl} {u:Value} (h:W.ownsRow B 72 4 u d.value.length (cssCells d.value)):VR W d u:=by
 obtain⟨Au,cu,rfl,hcu⟩:=own_cap h
 exact⟨Au,cu,rfl,own_nil h,hcu,Rd.own h⟩
theorem RetDO.d {w:World} {ds:List Dcl} {e:Ending} {w':World} (h:RetDO w ds e w'):RetD w ds e w':=by
 obtain⟨v,vs,X,rfl,rfl,ho,ha⟩:=h
 obtain⟨A,c,rfl,hc⟩:=own_cap ho
 exact⟨A,c,X,rfl,rfl,hc,own_nil ho,vs,ha.mono fun d u _ h=>VR.own h,Rd.own ho⟩
theorem parseO_any (s:Bs) (w:World) (hw:Mx w) (hm:s.length<=100000000):Calls Tryz.prog 16 #[.string ⟨s.toArray⟩] w (RetDO w (declsL (cssL s))):=by
 have hmx:=mxd
 refine(callsIn_wide (n:=0)).1 ?_
 refine callsIn_of_wp_marks (n:=0) Tryz.func16 rfl trivial ?_ rfl
 simp only[Tryz.ntmps16,List.size_toArray,List.length_cons,List.length_nil,Nat.reduceAdd,Nat.reduceSub,Array.replicate_succ,Array.replicate_zero,List.push_toArray,List.append_toArray,List.nil_append,List.cons_append]
 obtain⟨L,hL⟩: ∃L,cssL s=L:=⟨_,rfl⟩
 have hfew:L.length<=100000000:=by
  have:=scan_few _ s (Nat.lt_succ_self _)
  change(cssL s).length<=_ at this
  rw[hL]at this;omega
 have hpr: ∀x∈L,Proper x:=by rw[<-hL];exact proper_scan
 have hMx1:Mx (w.alloc (.cells #[.slice none 0 0] 39)):=by rw[alloc_grow];exact hw.grow _
 have HSc:=Lib.hid (hL ▸ scanO_any s _ hMx1 (by omega))
 have HPR:=Lib.hid hpr
 rw[hL]
 clear hL hMx1 hpr hw
 gi_wp2_with (first
  |(gi_at_call 37;(with_reducible refine(callsIn_wide.2 HSc.out).mono ?_);rintro e W0 ⟨v1,X1,rfl,hw0,ho1⟩;(rw[<-hw0]at ho1);obtain⟨A1,c1,rfl,hc1⟩:=own_cap ho1;have HO1:=Lib.hid ho1;have HBW0:Hid (Below w.heap.size w W0):=(by show Below _ _ _;rw[hw0];exact bel);have HBox0:Hid (Boxed W0 w.heap.size 39 (.slice none 0 0)):=(by show Boxed _ _ _ _;rw[hw0];exact Boxed.grow' (Boxed.new w _ _) X1);clear ho1 hw0)
  |(gi_at_call 36;(with_reducible refine(callsIn_wide.2 (parts0_any A1 L.length c1 _)).mono ?_);rintro e w' ⟨rfl,rfl⟩))
 have hob:=HBox0.out.lt
 obtain⟨n0,hn0⟩: ∃n,W0.heap.size=n:=⟨_,rfl⟩
 obtain⟨ob,hob0⟩: ∃n,w.heap.size=n:=⟨_,rfl⟩
 have hA1: ∀b off s,A1=some ⟨b,off,s⟩->s=none/\ob<b/\b<n0:=by
  intro b off s h
  rcases HO1.out.2 with⟨h2,_⟩|⟨g,cap,cur,h2,h3,h4,_⟩
  ·simp only[Value.slice.injEq]at h2;rw[h2.1]at h;cases h
  ·simp only[Value.slice.injEq]at h2
   rw[h2.1]at h
   cases h
   have:=(Array.getElem?_eq_some_iff.1 h4).1
   simp at h3
   exact⟨rfl,by omega,by omega⟩
 have hA0:A1=none->L=[]:=by
  intro h
  rcases HO1.out.2 with⟨_,h2⟩|⟨g,cap,cur,h2,_⟩
  ·exact List.eq_nil_of_length_eq_zero h2
  ·simp only[Value.slice.injEq]at h2;rw[h2.1]at h;cases h
 obtain⟨W1,hW1⟩: ∃W1,((W0.alloc (.cells #[.slice A1 L.length c1] 42)).alloc (.cells #[.int .i64 0] 3)).alloc (.cells #[.func (.func 95) #[] #[.pointer (some ⟨W0.heap.size+1,0,none⟩)]] 144)=W1:=⟨_,rfl⟩
 have hs1:W1.heap.size=n0+1+1+1:=by rw[<-hW1];simp[hn0]
 have HLB:Hid (Boxed W1 n0 42 (.slice A1 L.length c1)):=by show Boxed _ _ _ _;rw[<-hW1,<-hn0];exact((Boxed.new W0 _ _).alloc _).alloc _
 have HDB:Hid (Boxed W1 (n0+1) 3 (.int .i64 0)):=by
  show Boxed _ _ _ _
  rw[<-hW1]
  have:=(Boxed.new (W0.alloc (.cells #[.slice A1 L.length c1] 42)) 3 (.int .i64 0)).alloc (.cells #[.func (.func 95) #[] #[.pointer (some ⟨W0.heap.size+1,0,none⟩)]] 144)
  simpa[hn0]using this
 have HEB:Hid (Boxed W1 (n0+1+1) 144 (.func (.func 95) #[] #[.pointer (some ⟨n0+1,0,none⟩)])):=by
  show Boxed _ _ _ _
  rw[<-hW1]
  have:=Boxed.new ((W0.alloc (.cells #[.slice A1 L.length c1] 42)).alloc (.cells #[.int .i64 0] 3)) 144 (.func (.func 95) #[] #[.pointer (some ⟨n0+1,0,none⟩)])
  simpa[hn0]using this
 have HOB:Hid (Boxed W1 ob 39 (.slice none 0 0)):=by show Boxed _ _ _ _;rw[<-hW1,<-hob0];exact((HBox0.out.alloc _).alloc _).alloc _
 have HR1:Hid (Rd W1 (.slice A1 L.length c1) L.length 4 (cssCells L)):=by show Rd _ _ _ _ _;rw[<-hW1];exact((Rd.own HO1.out).alloc _ |>.alloc _).alloc _
 have HB1:Hid (Below w.heap.size w W1):=by show Below _ _ _;rw[<-hW1];exact below_next HBW0.out bel
 rw[hW1]
 have HSz:Hid (sizeIs w ob):=hob0
 simp only[hn0]at*
 simp only[hob0]at*
 clear hW1 HO1 HBox0 HBW0 HSc
 refine wp_range (B:=n0+1+1+1) hs1 rfl (enters_of Tryz.func97 (by kernel_rfl) rfl) (encs:=fun x:Value × List Css=> #[x.1]) (fun _=>rfl) (xs:=partsV A1 c1 (partsL 0 L)) (fun k=>k=n0+1\/k=n0)
  (fun k=>k=ob\/n0+1+1+1+2<=k) (by intro k hk;omega) (by intro k hk;omega) (ParseI W1 n0 (n0+1) ob (n0+1+1+1+2)) (fun _ _ _=>False) ?hI ?hIx ?h0 ?hiter ?hround ?hdone ?hstop
 case hI=>
  intro pre A C h ht
  exact h.step ht (by omega) (by intro k hk;omega) (by intro k hk hlt;omega)
 case hIx=>intro c pre A C h _;exact h.elim
 case h0=>exact⟨⟨_,[],HOB.out,World.ownsRow_nil _ _ _ _,trivial⟩,Turned.refl _ _⟩
 case hiter=>
  intro o1 o2
  refine parts2_iter (n0+1) n0 (n0+1+1) _ A1 c1 L _ ⟨_,(HDB.out.alloc o1).alloc o2⟩ ((HLB.out.alloc o1).alloc o2) ((HEB.out.alloc o1).alloc o2) (by omega) (by omega) (by omega) (by omega) (by omega) (by omega) ((HR1.out.alloc o1).alloc o2) (fun b off s h=> ?_) hA0 hc1 HPR.out (by omega)
  obtain⟨h1,h2,h3⟩:=hA1 b off s h
  exact⟨h1,by omega,by omega,by omega⟩
 case hround=>
  rintro l pre x A hx hI hsz
  have hxm:x∈partsV A1 c1 (partsL 0 L):=hx.subset (by simp)
  have hA1': ∀b off s,A1=some ⟨b,off,s⟩->s=none/\b=(match A1 with|some a=>a.block|none=>0):=fun b off s h=>by subst h;exact⟨(hA1 _ _ _ rfl).1,rfl⟩
  obtain⟨A',c',e1,e2,e3,e4,e5,e6⟩:=partsV_facts (W:=W1) L.length L A1 c1 (Nat.le_refl _) HR1.out hA1' hA0 hc1 x hxm
  have e4': ∀b off s,A'=some ⟨b,off,s⟩->s=none/\ob<b/\b<n0:=by
   intro b off s h
   obtain⟨f1,f2⟩:=e4 b off s h
   cases A1 with
   |none=>
    exfalso
    have hL0:=hA0 rfl
    subst hL0
    simp only[partsL,partsV,List.mem_cons,List.not_mem_nil,or_false]at hxm
    subst hxm
    simp only[Value.slice.injEq]at e1
    rw[<-e1.1]at h;cases h
   |some a=>
    obtain⟨ab,ao,asp⟩:=a
    simp only at f2
    subst f2
    exact⟨f1,(hA1 _ _ _ rfl).2⟩
  have hHX:=Lib.hid hx
  have hlen:pre.length+1<=(partsL 0 L).length:=by
   have:=hx.length_le
   rw[<-partsV_snd (partsL 0 L) A1 c1,List.length_map]
   simpa using this
  have hxm2:x.2∈partsL 0 L:=by rw[<-partsV_snd (partsL 0 L) A1 c1];exact List.mem_map_of_mem hxm
  have hpl9:=(parts_few L 0).2 _ hxm2
  have hpn9:=(parts_few L 0).1
  have hdl9:=dsOf_len pre
  clear hx hxm hA1' e4 hxm2
  obtain⟨xv,p⟩:=x
  simp only at e1 e2 e3 e5 e6 hpl9
  subst e1
  have HE6:=Lib.hid (fun y hy=>HPR.out y (e6 y hy))
  clear e6
  gi_wp2
  refine⟨Turned.refl _ _,fun A2 ht hI2 hs2=> ?_⟩
  have HI2:=Lib.hid hI2
  have e3':Rd A2 (.slice A' p.length c') p.length 4 (cssCells p):=e3.turned hI2.turned fun b off s h=>by obtain⟨_,h1,h2⟩:=e4' b off s h;omega
  have hs3:n0+1+1+1+2<=A2.heap.size:=by omega
  have hp9:p.length<=9223372036854775807:=e3.2.1
  clear hI2 ht hs2 hI hsz e3
  by_cases h2:p.length<2
  ·have HN:=Lib.hid (declOf_few h2)
   have b2:(p.length:Int)<2:=by omega
   gi_wp2_with fail
   exact HI2.out.none HN.out ⟨_,(grow_refl _).symm⟩
  have h2': ¬(p.length:Int)<2:=by omega
  obtain⟨b,off,rfl,hb,c0,cc1,c2,c3⟩:=e3'.css 0 (by omega)
  obtain⟨b',off',he,_,d0,d1,d2,d3⟩:=e3'.css 1 (by omega)
  cases he
  simp only[Nat.zero_mul,Nat.add_zero,Nat.one_mul,sv]at c0 cc1 c2 c3 d0 d1 d2 d3
  have HAt:=Lib.hid (declOf_at (p:=p) (by omega))
  have HMk:=Lib.hid (fun W:World=>mkM_one 58 p[1] ▸ mark_any p[1] [58] W (HE6.out _ (List.getElem_mem (by omega))))
  obtain⟨Av,hAv⟩: ∃Av,(if c'=2 then some (⟨b,off,none⟩:Addr)else some ⟨b,off+8,none⟩)=Av:=⟨_,rfl⟩
  have HAv:Hid (adv (some ⟨b,off,none⟩) c' 2=Av):=by show _=_;rw[<-hAv];rfl
  have hdl:(p.drop 2).length=p.length-2:=by rw[List.length_drop]
  have hr2:=Rd.adv e3' e2 2 (by omega)
  rw[HAv.out]at hr2
  have HPd:Hid (∀y∈p.drop 2,Proper y):=fun y hy=>HE6.out y (List.mem_of_mem_drop hy)
  have HR2:=Lib.hid hr2
  have HUr:=Lib.hid (fun X=>show Calls Tryz.prog 39 #[.slice Av (p.length-2) (c'-2)] (A2.grow X) (Ret (.tuple #[.slice Av (urgV (p.drop 2)).length (c'-2),.bool (urg (p.drop 2))]) (A2.grow X))from by
   have:=urgent_any Av (p.drop 2).length (c'-2) (p.drop 2) (A2.grow X) (HR2.out.grow X) HPd.out (by omega)
   rwa[hdl]at this)
  have HRv:Hid (Rd A2 (.slice Av (urgV (p.drop 2)).length (c'-2)) (urgV (p.drop 2)).length 4 (cssCells (urgV (p.drop 2)))):=by
   show Rd _ _ _ _ _
   have hle:(urgV (p.drop 2)).length<=(p.drop 2).length:=urgV_le _
   have:=Rd.take4 HR2.out (urgV (p.drop 2)).length hle
   rwa[<-urgV_take]at this
  have hp2:p.length<=100000000:=by omega
  have hnd9:(dsOf pre).length<=100000001:=by omega
  have hul:(urgV (p.drop 2)).length<=1000000000:=by
   have hle:=urgV_le (p.drop 2)
   omega
  have HMay:=Lib.hid (fun X=>may_any Av (urgV (p.drop 2)).length (c'-2) (urgV (p.drop 2)) (A2.grow X) (HRv.out.grow X) (fun y hy=>HPd.out y (urgV_mem hy)) hul)
  simp only[Css.agg,sv]at HMk
  have HNm:Hid (sv p[0].text= .string ⟨p[0].text.toArray⟩):=rfl
  generalize hm1:mk1 58 p[1]=m at*
  generalize hk0:p[0].kind=k0 at*
  generalize p[0].num=k2 at*
  generalize ha1:(⟨p[0].text.toArray⟩:ByteArray)=a1 at*
  generalize(⟨p[0].unit.toArray⟩:ByteArray)=a2 at*
  generalize p[1].kind=y1 at*
  generalize p[1].num=y3 at*
  generalize(⟨p[1].text.toArray⟩:ByteArray)=z1 at*
  generalize(⟨p[1].unit.toArray⟩:ByteArray)=z2 at*
  have q0:0<p.length:=by omega
  have q1:1<p.length:=by omega
  have q2:2<=p.length:=by omega
  have q3:2<=c':=by omega
  by_cases hk1:k0=1
  ·subst hk1
   cases m
   ·have HN:Hid (declOf p=none):=by show _=_;rw[HAt.out];simp
    have HMk2:=Lib.hid HMk.out
    clear hm1 hk0 ha1
    gi_wp2_with (gi_at_call 38;(with_reducible refine(callsIn_round (HMk2.out _)).mono ?_);rintro e w' ⟨rfl,Y1,rfl⟩)
    exact HI2.out.none HN.out ⟨_,rfl⟩
   ·have HMk2:=Lib.hid HMk.out
    cases hmay:mayC (urgV (p.drop 2))
    ·have HN:Hid (declOf p=none):=by show _=_;rw[HAt.out,hmay];simp
     rw[hmay]at HMay
     have HMay2:=Lib.hid HMay.out
     clear hm1 hk0 ha1 hmay
     gi_wp2_with (first|(gi_at_call 38;(with_reducible refine(callsIn_round (HMk2.out _)).mono ?_);rintro e w' ⟨rfl,Y1,rfl⟩)|(gi_at_call 39;(with_reducible refine(callsIn_round (Ret.flat (HUr.out _))).mono ?_);rintro e w' ⟨rfl,Y2,rfl⟩)|(gi_at_call 40;(with_reducible refine(callsIn_round (Ret.flat (HMay2.out _))).mono ?_);rintro e w' ⟨rfl,Y3,rfl⟩))
     exact HI2.out.none HN.out ⟨_,rfl⟩
    ·have HN:Hid (declOf p=some ⟨p[0].text,urgV (p.drop 2),urg (p.drop 2)⟩):=by show _=_;rw[HAt.out,hmay];simp
     rw[hmay]at HMay
     have HMay2:=Lib.hid HMay.out
     have HMy:=Lib.hid hmay
     clear hm1 hk0 hmay
     gi_upto_region 7 with(first|(gi_at_call 38;(with_reducible refine(callsIn_round (HMk2.out _)).mono ?_);rintro e w' ⟨rfl,Y1,rfl⟩)|(gi_at_call 39;(with_reducible refine(callsIn_round (Ret.flat (HUr.out _))).mono ?_);rintro e w' ⟨rfl,Y2,rfl⟩)|(gi_at_call 40;(with_reducible refine(callsIn_round (Ret.flat (HMay2.out _))).mono ?_);rintro e w' ⟨rfl,Y3,rfl⟩))
     obtain⟨⟨v,vs,bv,ho,hall⟩,htt⟩:=HI2.out
     obtain⟨Ar,cr,rfl,hcr⟩:=own_cap ho
     have g0:=bv.cell
     have gl:=bv.lt
     refine wpIn_round_row 10 [(0,true),(1,true),(2,true),(3,true),(4,true),(5,true),(7,true),(6,false),(8,true),(9,false)] (fun W=>W.cell? ⟨ob,0,none⟩=some (.slice Ar (dsOf pre).length cr)/\W.cell? ⟨b,off+1,none⟩=some (.string a1)) hmx (by kernel_rfl) (by rintro⟨_,_,h⟩;exact h) (by kernel_rfl) (by kernel_rfl) (by kernel_rfl) (by decide) rfl (fun _ _ _ _ _ h=>h) (by kernel_rfl) ⟨by simp[go_sem,gl,g0],by simp[go_sem,hb,cc1]⟩ ?_
     refine wpRow_read (v:= .slice Ar (dsOf pre).length cr) rfl rfl (fun _ hW=>by obtain⟨s1,_⟩:=hW;simp[execOp,go_sem,s1]) ?_
     refine wpRow_read (v:= .slice (some ⟨b,off,none⟩) p.length c') rfl rfl (fun _ _=>by simp[execOp,go_sem]) ?_
     refine wpRow_read (v:= .pointer (some ⟨b,off,none⟩)) rfl rfl (fun _ _=>by simp[execOp,go_sem,q0]) ?_
     refine wpRow_read (v:= .pointer (some ⟨b,off+1,none⟩)) rfl rfl (fun _ _=>by simp[execOp,go_sem]) ?_
     refine wpRow_read (v:= .string a1) rfl rfl (fun _ hW=>by obtain⟨_,s2⟩:=hW;simp[execOp,go_sem,s2]) ?_
     refine wpRow_read (v:= .slice Av (urgV (p.drop 2)).length (c'-2)) rfl rfl (fun _ _=>by simp[execOp,go_sem]) ?_
     refine wpRow_read (v:= .bool (urg (p.drop 2))) rfl rfl (fun _ _=>by simp[execOp,go_sem]) ?_
     refine wpRow_op rfl rfl fun K hK=> ?_
     unfold Oper.wp
     simp[execOp,go_sem]
     have HAd: ∃ad,Av=some ad:=by rw[<-hAv];split<;>exact⟨_,rfl⟩
     obtain⟨ad,rfl⟩:=HAd
     have hne:urgV (p.drop 2)≠[]:=(may_facts HMy.out).1
     refine(cloneO_any ad (urgV (p.drop 2)).length (c'-2) (urgV (p.drop 2)) _ (HRv.out.grow _) hul).mono ?_
     rintro e w' ⟨v3,X3,rfl,rfl,ho3⟩
     obtain⟨g,cap,rfl⟩:=Go.Joins.ownsRow_form ho3 (by have:=List.length_pos_iff.2 hne;omega)
     apply hK
     refine⟨⟨by simp[go_sem,gl,g0],by simp[go_sem,hb,cc1]⟩, ?_⟩
     refine wpRow_read (v:= .agg #[.string a1,.slice (some ⟨g,0,none⟩) (urgV (p.drop 2)).length cap,.bool (urg (p.drop 2))]) rfl rfl (fun W hW=>by simp[execOp,go_sem]) ?_
     refine wpRow_op rfl rfl fun K2 hK2=> ?_
     unfold Oper.wp
     simp[execOp,go_sem]
     apply hK2
     refine⟨⟨((show Below A2.heap.size A2 _ from bel).cell gl).trans g0,((show Below A2.heap.size A2 _ from bel).cell hb).trans cc1⟩, ?_⟩
     dsimp only[wpRow,List.drop]
     have hoc:((A2.grow ⟨Y3.blocks,Y3.drawn+1⟩).grow X3).ownsRow (n0+1+1+1+2) 72 4 (.slice (some ⟨g,0,none⟩) (urgV (p.drop 2)).length cap) (urgV (p.drop 2)).length (cssCells (urgV (p.drop 2))):=own_base ho3 (by simp only[size_grow];omega)
     have HOC:=Lib.hid hoc
     have HOV:=Lib.hid ho
     have HAll:=Lib.hid hall
     have HBV:=Lib.hid bv
     have HTT:=Lib.hid htt
     have hbase:(n0+1+1+1+2)<=A2.heap.size:=hs3
     have hobb:ob<n0:=hob
     clear hoc ho hall bv htt ho3 hK hK2 g0
     go_wp2_with(at_builtin;go_loud(refine append_abs rfl _ _ 39 rfl decl_row (n0+1+1+1+2) rfl ((own_grow (own_grow HOV.out _) _).alloc _) (by simp[go_sem];omega) ⟨_,0,none⟩ 1 1 [.string a1,.slice (some ⟨g,0,none⟩) (urgV (p.drop 2)).length cap,.bool (urg (p.drop 2))] rfl rfl (new_cells (c:= #[.string a1,.slice (some ⟨g,0,none⟩) (urgV (p.drop 2)).length cap,.bool (urg (p.drop 2))]) (by simp[go_sem])) (by simp[Value.oneCell']) (by unfold maxLen;omega) (by omega) ?_);intro v2 W2 ho2 hg2;go_loud(obtain⟨A9,c9,hv9,hc9⟩:=own_cap ho2);go_loud(subst hv9);have HO2:=Lib.hid ho2;have HG2:=Lib.hid hg2;go_loud(have hne9: ∀k,(Value.slice Ar (dsOf pre).length cr).ownBlock=some k->n0+1+1+1+2<=k:=(fun k hk=>(HOV.out.lt k hk).1));go_loud(have bb2:=(turned_grown (pv:=fun k=>n0+1+1+1+2<=k) hg2 hne9).boxed (Boxed.alloc (Boxed.grow' (Boxed.grow' HBV.out _) X3) _) (by omega));have HB2:=Lib.hid bb2;have k1:=bb2.cell;have k2:=bb2.frozen;have k3:=bb2.lt;clear ho2 hg2 bb2)
     exact parseI_more (by omega) hbase (by omega) HTT.out HAll.out HOV.out HOC.out rfl HG2.out HO2.out rfl HB2.out HN.out HNm.out
  ·have HN:Hid (declOf p=none):=by show _=_;rw[HAt.out];simp[hk1]
   have b1:(k0 !=1)=true:=by simpa using hk1
   clear hm1 ha1
   gi_wp2_with fail
   exact HI2.out.none HN.out ⟨_,(grow_refl _).symm⟩
 case hdone=>
  rintro W ⟨⟨v,vs,bv,ho,hall⟩,htt⟩ hK
  have hds:dsOf (partsV A1 c1 (partsL 0 L))=declsL L:=by
   have h9:=List.filterMap_map (f:=fun x:Value × List Css=>x.2) (g:=declOf) (l:=partsV A1 c1 (partsL 0 L))
   have h8:=partsV_snd (partsL 0 L) A1 c1
   unfold dsOf declsL
   rw[<-h8,h9,h8]
   rfl
  rw[hds]at ho hall
  have d1:=bv.cell
  have hs1':=hs1
  gi_wp2
  have hT:Turned (fun k=>k=n0+1+1+1) W (W.putObj (n0+1+1+1) (.deferred none)):=Turned.putObj (pv:=fun k=>k=n0+1+1+1) (Turned.refl _ _) (Or.inr rfl) _
  refine⟨by simp,.inl ⟨_,_,rfl,run_takeDeferred hK, ?_⟩⟩
  have ho':=hT.own ho (fun k hk=>by omega)
  have hsz9:w.heap.size=ob:=HSz.out
  have hB9:Below ob w (W.putObj (n0+1+1+1) (.deferred none)):=HB1.out.trans ((htt.next hT (fun i hi hlt=>by omega):Turned (fun k=>k=n0\/k=n0+1\/k=ob) W1 _).below (by omega) (fun k hk=>by omega))
  obtain⟨X,hX⟩:=grow_of_below (hsz9 ▸ hB9)
  refine⟨v,by simp[results,Tryz.results16,go_sem],v,vs,X,rfl,hX, ?_, ?_⟩
  ·rw[<-hX];exact own_base ho' (by omega)
  ·rw[<-hX]
   exact hall.mono fun d u _ h=>own_base (hT.own h (fun k hk=>by omega)) (by omega)
 case hstop=>intro c pre x W _ h;exact h.elim
theorem parse_anyQ (s:Bs) (w:World) (hw:Mx w) (hm:s.length<=100000000):Calls Tryz.prog 16 #[.string ⟨s.toArray⟩] w (RetD w (declsL (cssL s))):=(parseO_any s w hw hm).mono fun _ _ h=>h.d
end Go.Proofs.YtiikamobcmgekaaGreatDoor

