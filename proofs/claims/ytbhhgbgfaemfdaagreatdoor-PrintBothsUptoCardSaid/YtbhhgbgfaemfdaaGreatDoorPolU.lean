/- Plain: a text of a policy as statements, one behind the other; what two texts tell together. No program in sight. -/
import Derived.Test.YtbhhgbgfaemfdaaGreatDoorRG
namespace Go.Proofs.YtbhhgbgfaemfdaaGreatDoor
open List renaming drop_append_of_le_length→z4i,drop_eq_getElem_cons→z2l,length_cons→z2j,map_cons→z4j,takeWhile_cons_of_neg→z39,takeWhile_cons_of_pos→z3o
theorem zmq {l m:List Lx} (h:l.map Lx.kt=m.map Lx.kt) (i:Nat):(l.drop i).map Lx.kt=(m.drop i).map Lx.kt:=by
 rw[List.map_drop,List.map_drop,h]
theorem zzm {l m:List Lx} (h:l.map Lx.kt=m.map Lx.kt) (k:Nat) (ts:List Bs):za8 k ts l=za8 k ts m:=by
 cases l with
 |nil=>
  have:m=[]:=by simpa using h.symm
  rw[this]
 |cons x r=>
  cases m with
  |nil=>simp at h
  |cons y q=>
   simp only[z4j,List.cons.injEq,Lx.kt,Prod.mk.injEq]at h
   show isP k ts x=isP k ts y
   unfold isP
   rw[h.1.1,h.1.2]
theorem zw5 {l m:List Lx} (h:l.map Lx.kt=m.map Lx.kt) (i k:Nat) (t:Bs):isR l i k t=isR m i k t:=zzm (zmq h i) _ _
theorem zy1 {l m:List Lx} (h:l.map Lx.kt=m.map Lx.kt) (i:Nat):zav l i=zav m i:=by
 have h1:=zmq h i
 unfold zav
 generalize l.drop i=a at*
 generalize m.drop i=b at*
 cases a with
 |nil=>
  have:b=[]:=by simpa using h1.symm
  rw[this]
 |cons x r=>
  cases b with
  |nil=>simp at h1
  |cons y q=>
   simp only[z4j,List.cons.injEq,Lx.kt,Prod.mk.injEq]at h1
   exact h1.1.2
theorem zh5: ∀{l m:List Lx},l.map Lx.kt=m.map Lx.kt->(l.takeWhile (isP 1 [])).map Lx.text=(m.takeWhile (isP 1 [])).map Lx.text
 |[],m,h=>by
  have:m=[]:=by simpa using h.symm
  rw[this]
 |x::r,[],h=>by simp at h
 |x::r,y::q,h=>by
  simp only[z4j,List.cons.injEq,Lx.kt,Prod.mk.injEq]at h
  have hp:isP 1 [] x=isP 1 [] y:=by unfold isP;rw[h.1.1,h.1.2]
  by_cases hx:isP 1 [] x=true
  ·rw[z3o hx,z3o (hp ▸ hx),z4j,z4j,h.1.2,zh5 h.2]
  ·rw[z39 hx,z39 (hp ▸ hx)]
theorem zuo {l m:List Lx} (h:l.map Lx.kt=m.map Lx.kt) (b:Nat):za2 l b=za2 m b:=zh5 (zmq h b)
theorem zzs {l m:List Lx} (h:l.map Lx.kt=m.map Lx.kt):zde l=zde m:=by
 cases l with
 |nil=>
  have:m=[]:=by simpa using h.symm
  rw[this]
 |cons x r=>
  cases m with
  |nil=>simp at h
  |cons y q=>
   simp only[z4j,List.cons.injEq,Lx.kt,Prod.mk.injEq]at h
   unfold zde
   simp only
   rw[h.1.1,h.1.2]
theorem zm7 {l m:List Lx} (h:l.map Lx.kt=m.map Lx.kt): ∀(ks:List Nat) (i:Nat),zb1 l i ks=zb1 m i ks
 |[],i=>by unfold zb1;rw[zw5 h]
 |k::ks,i=>by unfold zb1;rw[zw5 h,zm7 h ks]
inductive St where
 |nm (k tag:Bs) (ws:List Bs)
 |sg (k x y z:Bs)
deriving DecidableEq
def St.app:St->Pol->Pol
 | .nm k tag ws,p=>addK k tag p ws
 | .sg k x y z,p=>if k=relT then {p with rel:=decide (x=yesT)}else if k=zbg then {p with forces:=p.forces++[⟨x,y,z⟩]}else setL x (numT y) p
def St.key:St->Option Bs
 | .nm _ _ _=>none
 | .sg k x y _=>some (if k=relT then relT else if k=zbg then zbg++[32]++x++[32]++y else zbo++[32]++x)
def synR (k:Bs) (l:List Lx):Option (St × Nat):=
 if k=relT then(if(!isR l 1 1 yesT&& !isR l 1 1 noT)=true then none else match zby l [1]with
  |some _=>none
  |none=>some (.sg k (zav l 1) [] [],3))
 else if k=zbg then match zby l [1,1,3]with
  |some _=>none
  |none=>some (.sg k (zav l 1) (zav l 2) (zav l 3),5)
 else if(!isR l 1 1 zca&&(!isR l 1 1 zds&& !isR l 1 1 valT))=true then none
 else match zby l [1,2]with
  |some _=>none
  |none=>some (.sg k (zav l 1) (zav l 2) [],4)
def nmS (k:Bs) (l:List Lx):Option (St × Nat):=match zhw k l with
 | .error _=>none
 | .ok (tag,b)=>match zbn l b with
  | .error _=>none
  | .ok ws=>some (.nm k tag ws,b+ws.length+1)
def oneR (l:List Lx):Option (St × Nat):=if zde l∈zeo then nmS (zde l) l else if zde l∈zdp then synR (zde l) l else none
theorem z1r {l m:List Lx} (h:l.map Lx.kt=m.map Lx.kt):oneR l=oneR m:=by
 have hI:=zw5 h
 have hT:=zy1 h
 have hW:=zuo h
 have hF: ∀ks,zby l ks=zby m ks:=fun ks=>zm7 h ks 1
 unfold oneR nmS synR zhw zqr zbn
 rw[zzs h]
 simp only[hI,hT,hW,hF]
inductive zgd:List Lx->List St->Prop where
 |nil:zgd [] []
 |cons {l:List Lx} {st:St} {n:Nat} {ss:List St} (h:oneR l=some (st,n)) (hr:zgd (l.drop n) ss):zgd l (st::ss)
theorem zgd.kt {l:List Lx} {ss:List St} (h:zgd l ss): ∀{m:List Lx},l.map Lx.kt=m.map Lx.kt->zgd m ss:=by
 induction h with
 |nil=>
  intro m hm
  have:m=[]:=by simpa using hm.symm
  subst this;exact .nil
 |cons ho hr ih=>
  intro m hm
  exact .cons ((z1r hm) ▸ ho) (ih (zmq hm _))
theorem zhz {l:List Lx} {i k:Nat} {t:Bs} (h:isR l i k t=true):i<l.length:=by
 unfold isR at h
 rcases Nat.lt_or_ge i l.length with h1|h1
 ·exact h1
 ·rw[List.drop_eq_nil_of_le h1]at h;cases h
theorem zr5 {l r:List Lx} {i:Nat} (h:i<l.length):(l++r).drop i=l[i]::(l.drop (i+1)++r):=by
 rw[z4i (by omega),z2l h];rfl
theorem zeg {l:List Lx} (r:List Lx) {i:Nat} (h:i<l.length) (k:Nat) (t:Bs):isR (l++r) i k t=isR l i k t:=by
 unfold isR;rw[zr5 h,z2l h];rfl
theorem zd7 {l:List Lx} (r:List Lx) {i:Nat} (h:i<l.length):zav (l++r) i=zav l i:=by
 unfold zav;rw[zr5 h,z2l h]
theorem zcp {l:List Lx} (r:List Lx): ∀(ks:List Nat) (i:Nat),zb1 l i ks=none->i+ks.length<l.length/\zb1 (l++r) i ks=none
 |[],i,h=>by
  unfold zb1 at h
  split at h
  ·next hi=>
   have:=zhz hi
   refine⟨by simpa using this, ?_⟩
   unfold zb1
   rw[zeg r this,if_pos hi]
  ·cases h
 |k::ks,i,h=>by
  unfold zb1 at h
  split at h
  ·next hi=>
   obtain⟨h1,h2⟩:=zcp r ks (i+1) h
   refine⟨by rw[z2j];omega, ?_⟩
   unfold zb1
   rw[zeg r (zhz hi),if_pos hi,h2]
  ·cases h
theorem zgp {α:Type} {p:α->Bool}: ∀{q:List α} (r:List α),(q.takeWhile p).length<q.length->(q++r).takeWhile p=q.takeWhile p
 |[],r,h=>by simp at h
 |x::q,r,h=>by
  by_cases hx:p x=true
  ·rw[z3o hx]at h ⊢
   rw[List.cons_append,z3o hx,zgp r (by simpa using h)]
  ·rw[z39 hx,List.cons_append,z39 hx]
theorem zs6 {l:List Lx} (r:List Lx) {b:Nat} {ws:List Bs} (h:zbn l b= .ok ws):b+ws.length+1<=l.length/\zbn (l++r) b= .ok ws:=by
 unfold zbn at h
 split at h
 ·cases h
 ·next hn=>
  cases h
  have hi:isR l (b+(za2 l b).length) 4 zbr=true:=by
   cases hc:isR l (b+(za2 l b).length) 4 zbr with
   |true=>rfl
   |false=>exact absurd (.inr hc) hn
  have hlen:=zhz hi
  have hw:za2 (l++r) b=za2 l b:=by
   unfold za2 at hlen ⊢
   rw[List.length_map]at hlen
   rw[z4i (by omega),zgp r (by rw[List.length_drop];omega)]
  refine⟨by omega, ?_⟩
  unfold zbn
  rw[hw,zeg r hlen,if_neg hn]
theorem zwy {l:List Lx} (r:List Lx) {k t:Bs} {b:Nat} (h:zhw k l= .ok (t,b)):zhw k (l++r)= .ok (t,b):=by
 unfold zhw at h ⊢
 by_cases hk:k=zay
 ·rw[if_pos hk]at h ⊢
  unfold zqr at h ⊢
  split at h
  ·cases h
  ·next t' ht=>
   split at ht
   ·cases ht
   ·next h1=>
    split at ht
    ·cases ht
    ·next h2=>
     have h2:isR l 2 4 [58]=true:=by
      cases hc:isR l 2 4 [58]with
      |true=>rfl
      |false=>exact absurd hc h2
     have hl:=zhz h2
     rw[zeg r (by omega),zeg r (by omega),zeg r hl,zd7 r (by omega),if_neg h1,if_neg (by rw[h2];decide)]
     cases ht
     exact h
 ·rw[if_neg hk]at h ⊢;exact h
theorem zzj {l:List Lx} (r:List Lx) {st:St} {n:Nat} (h:oneR l=some (st,n)):n<=l.length/\oneR (l++r)=some (st,n):=by
 have hk:zde (l++r)=zde l:=by
  cases l with
  |nil=>cases h
  |cons x q=>rfl
 unfold oneR at h ⊢
 rw[hk]
 by_cases h5:zde l∈zeo
 ·rw[if_pos h5]at h ⊢
  unfold nmS at h ⊢
  split at h
  ·cases h
  ·next t b hb=>
   rw[zwy r hb]
   simp only
   split at h
   ·cases h
   ·next ws hw=>
    obtain⟨h1,h2⟩:=zs6 r hw
    rw[h2]
    cases h
    exact⟨h1,rfl⟩
 ·rw[if_neg h5]at h ⊢
  by_cases h3:zde l∈zdp
  ·rw[if_pos h3]at h ⊢
   unfold synR at h ⊢
   by_cases h1:zde l=relT
   ·rw[if_pos h1]at h ⊢
    split at h
    ·cases h
    ·next hy=>
     split at h
     ·cases h
     ·next hw=>
      obtain⟨a1,a2⟩:=zcp r [1] 1 hw
      simp only[z2j,List.length_nil]at a1
      cases h
      refine⟨by omega, ?_⟩
      rw[zeg r (by omega),zeg r (by omega),if_neg hy,zd7 r (by omega)]
      have:zby (l++r) [1]=none:=a2
      rw[this]
   ·rw[if_neg h1]at h ⊢
    by_cases h2:zde l=zbg
    ·rw[if_pos h2]at h ⊢
     split at h
     ·cases h
     ·next hw=>
      obtain⟨a1,a2⟩:=zcp r [1,1,3] 1 hw
      simp only[z2j,List.length_nil]at a1
      cases h
      refine⟨by omega, ?_⟩
      have:zby (l++r) [1,1,3]=none:=a2
      rw[this,zd7 r (by omega),zd7 r (by omega),zd7 r (by omega)]
    ·rw[if_neg h2]at h ⊢
     split at h
     ·cases h
     ·next hy=>
      split at h
      ·cases h
      ·next hw=>
       obtain⟨a1,a2⟩:=zcp r [1,2] 1 hw
       simp only[z2j,List.length_nil]at a1
       cases h
       refine⟨by omega, ?_⟩
       rw[zeg r (by omega),zeg r (by omega),zeg r (by omega),if_neg hy,zd7 r (by omega),zd7 r (by omega)]
       have:zby (l++r) [1,2]=none:=a2
       rw[this]
  ·rw[if_neg h3]at h;cases h
theorem zgd.app {l m:List Lx} {ss ts:List St} (h:zgd l ss) (g:zgd m ts):zgd (l++m) (ss++ts):=by
 induction h with
 |nil=>exact g
 | @cons l st n ss ho hr ih=>
  obtain⟨h1,h2⟩:=zzj m ho
  refine .cons h2 ?_
  rw[z4i h1]
  exact ih
end Go.Proofs.YtbhhgbgfaemfdaaGreatDoor

