/- Plain: a text of a policy as statements, one behind the other; what two texts tell together. No program in sight. -/
import Derived.Test.YtbhhgbgfaemfdaaGreatRG
namespace Go.Proofs.YtbhhgbgfaemfdaaGreat
theorem drop_kt {l m:List Lx} (h:l.map Lx.kt=m.map Lx.kt) (i:Nat):(l.drop i).map Lx.kt=(m.drop i).map Lx.kt:=by
 rw[List.map_drop,List.map_drop,h]
theorem nextP_kt {l m:List Lx} (h:l.map Lx.kt=m.map Lx.kt) (k:Nat) (ts:List Bs):nextP k ts l=nextP k ts m:=by
 cases l with
 |nil=>
  have:m=[]:=by simpa using h.symm
  rw[this]
 |cons x r=>
  cases m with
  |nil=>simp at h
  |cons y q=>
   simp only[List.map_cons,List.cons.injEq,Lx.kt,Prod.mk.injEq]at h
   show isP k ts x=isP k ts y
   unfold isP
   rw[h.1.1,h.1.2]
theorem isR_kt {l m:List Lx} (h:l.map Lx.kt=m.map Lx.kt) (i k:Nat) (t:Bs):isR l i k t=isR m i k t:=nextP_kt (drop_kt h i) _ _
theorem textR_kt {l m:List Lx} (h:l.map Lx.kt=m.map Lx.kt) (i:Nat):textR l i=textR m i:=by
 have h1:=drop_kt h i
 unfold textR
 generalize l.drop i=a at*
 generalize m.drop i=b at*
 cases a with
 |nil=>
  have:b=[]:=by simpa using h1.symm
  rw[this]
 |cons x r=>
  cases b with
  |nil=>simp at h1
  |cons y q=>
   simp only[List.map_cons,List.cons.injEq,Lx.kt,Prod.mk.injEq]at h1
   exact h1.1.2
theorem takeWhile_kt: ∀{l m:List Lx},l.map Lx.kt=m.map Lx.kt->(l.takeWhile (isP 1 [])).map Lx.text=(m.takeWhile (isP 1 [])).map Lx.text
 |[],m,h=>by
  have:m=[]:=by simpa using h.symm
  rw[this]
 |x::r,[],h=>by simp at h
 |x::r,y::q,h=>by
  simp only[List.map_cons,List.cons.injEq,Lx.kt,Prod.mk.injEq]at h
  have hp:isP 1 [] x=isP 1 [] y:=by unfold isP;rw[h.1.1,h.1.2]
  by_cases hx:isP 1 [] x=true
  ·rw[List.takeWhile_cons_of_pos hx,List.takeWhile_cons_of_pos (hp ▸ hx),List.map_cons,List.map_cons,h.1.2,takeWhile_kt h.2]
  ·rw[List.takeWhile_cons_of_neg hx,List.takeWhile_cons_of_neg (hp ▸ hx)]
theorem wordsR_kt {l m:List Lx} (h:l.map Lx.kt=m.map Lx.kt) (b:Nat):wordsR l b=wordsR m b:=takeWhile_kt (drop_kt h b)
theorem kindR_kt {l m:List Lx} (h:l.map Lx.kt=m.map Lx.kt):kindR l=kindR m:=by
 cases l with
 |nil=>
  have:m=[]:=by simpa using h.symm
  rw[this]
 |cons x r=>
  cases m with
  |nil=>simp at h
  |cons y q=>
   simp only[List.map_cons,List.cons.injEq,Lx.kt,Prod.mk.injEq]at h
   unfold kindR
   simp only
   rw[h.1.1,h.1.2]
theorem wantsF_kt {l m:List Lx} (h:l.map Lx.kt=m.map Lx.kt): ∀(ks:List Nat) (i:Nat),wantsF l i ks=wantsF m i ks
 |[],i=>by unfold wantsF;rw[isR_kt h]
 |k::ks,i=>by unfold wantsF;rw[isR_kt h,wantsF_kt h ks]
inductive St where
 |nm (k tag:Bs) (ws:List Bs)
 |sg (k x y z:Bs)
deriving DecidableEq
def St.app:St->Pol->Pol
 | .nm k tag ws,p=>addK k tag p ws
 | .sg k x y z,p=>if k=relT then {p with rel:=decide (x=yesT)}else if k=forceT then {p with forces:=p.forces++[⟨x,y,z⟩]}else setL x (numT y) p
def St.key:St->Option Bs
 | .nm _ _ _=>none
 | .sg k x y _=>some (if k=relT then relT else if k=forceT then forceT++[32]++x++[32]++y else limitT++[32]++x)
def synR (k:Bs) (l:List Lx):Option (St × Nat):=
 if k=relT then(if(!isR l 1 1 yesT&& !isR l 1 1 noT)=true then none else match wantsR l [1]with
  |some _=>none
  |none=>some (.sg k (textR l 1) [] [],3))
 else if k=forceT then match wantsR l [1,1,3]with
  |some _=>none
  |none=>some (.sg k (textR l 1) (textR l 2) (textR l 3),5)
 else if(!isR l 1 1 depthT&&(!isR l 1 1 nameT&& !isR l 1 1 valT))=true then none
 else match wantsR l [1,2]with
  |some _=>none
  |none=>some (.sg k (textR l 1) (textR l 2) [],4)
def nmS (k:Bs) (l:List Lx):Option (St × Nat):=match listR k l with
 | .error _=>none
 | .ok (tag,b)=>match namesR l b with
  | .error _=>none
  | .ok ws=>some (.nm k tag ws,b+ws.length+1)
def oneR (l:List Lx):Option (St × Nat):=if kindR l∈fiveT then nmS (kindR l) l else if kindR l∈threeT then synR (kindR l) l else none
theorem oneR_kt {l m:List Lx} (h:l.map Lx.kt=m.map Lx.kt):oneR l=oneR m:=by
 have hI:=isR_kt h
 have hT:=textR_kt h
 have hW:=wordsR_kt h
 have hF: ∀ks,wantsR l ks=wantsR m ks:=fun ks=>wantsF_kt h ks 1
 unfold oneR nmS synR listR headR namesR
 rw[kindR_kt h]
 simp only[hI,hT,hW,hF]
inductive Parsed:List Lx->List St->Prop where
 |nil:Parsed [] []
 |cons {l:List Lx} {st:St} {n:Nat} {ss:List St} (h:oneR l=some (st,n)) (hr:Parsed (l.drop n) ss):Parsed l (st::ss)
theorem Parsed.kt {l:List Lx} {ss:List St} (h:Parsed l ss): ∀{m:List Lx},l.map Lx.kt=m.map Lx.kt->Parsed m ss:=by
 induction h with
 |nil=>
  intro m hm
  have:m=[]:=by simpa using hm.symm
  subst this;exact .nil
 |cons ho hr ih=>
  intro m hm
  exact .cons ((oneR_kt hm) ▸ ho) (ih (drop_kt hm _))
theorem isR_len {l:List Lx} {i k:Nat} {t:Bs} (h:isR l i k t=true):i<l.length:=by
 unfold isR at h
 rcases Nat.lt_or_ge i l.length with h1|h1
 ·exact h1
 ·rw[List.drop_eq_nil_of_le h1]at h;cases h
theorem drop_app {l r:List Lx} {i:Nat} (h:i<l.length):(l++r).drop i=l[i]::(l.drop (i+1)++r):=by
 rw[List.drop_append_of_le_length (by omega),List.drop_eq_getElem_cons h];rfl
theorem isR_app {l:List Lx} (r:List Lx) {i:Nat} (h:i<l.length) (k:Nat) (t:Bs):isR (l++r) i k t=isR l i k t:=by
 unfold isR;rw[drop_app h,List.drop_eq_getElem_cons h];rfl
theorem textR_app {l:List Lx} (r:List Lx) {i:Nat} (h:i<l.length):textR (l++r) i=textR l i:=by
 unfold textR;rw[drop_app h,List.drop_eq_getElem_cons h]
theorem wantsF_app {l:List Lx} (r:List Lx): ∀(ks:List Nat) (i:Nat),wantsF l i ks=none->i+ks.length<l.length/\wantsF (l++r) i ks=none
 |[],i,h=>by
  unfold wantsF at h
  split at h
  ·next hi=>
   have:=isR_len hi
   refine⟨by simpa using this, ?_⟩
   unfold wantsF
   rw[isR_app r this,if_pos hi]
  ·cases h
 |k::ks,i,h=>by
  unfold wantsF at h
  split at h
  ·next hi=>
   obtain⟨h1,h2⟩:=wantsF_app r ks (i+1) h
   refine⟨by rw[List.length_cons];omega, ?_⟩
   unfold wantsF
   rw[isR_app r (isR_len hi),if_pos hi,h2]
  ·cases h
theorem takeWhile_app {α:Type} {p:α->Bool}: ∀{q:List α} (r:List α),(q.takeWhile p).length<q.length->(q++r).takeWhile p=q.takeWhile p
 |[],r,h=>by simp at h
 |x::q,r,h=>by
  by_cases hx:p x=true
  ·rw[List.takeWhile_cons_of_pos hx]at h ⊢
   rw[List.cons_append,List.takeWhile_cons_of_pos hx,takeWhile_app r (by simpa using h)]
  ·rw[List.takeWhile_cons_of_neg hx,List.cons_append,List.takeWhile_cons_of_neg hx]
theorem namesR_app {l:List Lx} (r:List Lx) {b:Nat} {ws:List Bs} (h:namesR l b= .ok ws):b+ws.length+1<=l.length/\namesR (l++r) b= .ok ws:=by
 unfold namesR at h
 split at h
 ·cases h
 ·next hn=>
  cases h
  have hi:isR l (b+(wordsR l b).length) 4 semiT=true:=by
   cases hc:isR l (b+(wordsR l b).length) 4 semiT with
   |true=>rfl
   |false=>exact absurd (.inr hc) hn
  have hlen:=isR_len hi
  have hw:wordsR (l++r) b=wordsR l b:=by
   unfold wordsR at hlen ⊢
   rw[List.length_map]at hlen
   rw[List.drop_append_of_le_length (by omega),takeWhile_app r (by rw[List.length_drop];omega)]
  refine⟨by omega, ?_⟩
  unfold namesR
  rw[hw,isR_app r hlen,if_neg hn]
theorem listR_app {l:List Lx} (r:List Lx) {k t:Bs} {b:Nat} (h:listR k l= .ok (t,b)):listR k (l++r)= .ok (t,b):=by
 unfold listR at h ⊢
 by_cases hk:k=attrsT
 ·rw[if_pos hk]at h ⊢
  unfold headR at h ⊢
  split at h
  ·cases h
  ·next t' ht=>
   split at ht
   ·cases ht
   ·next h1=>
    split at ht
    ·cases ht
    ·next h2=>
     have h2:isR l 2 4 [58]=true:=by
      cases hc:isR l 2 4 [58]with
      |true=>rfl
      |false=>exact absurd hc h2
     have hl:=isR_len h2
     rw[isR_app r (by omega),isR_app r (by omega),isR_app r hl,textR_app r (by omega),if_neg h1,if_neg (by rw[h2];decide)]
     cases ht
     exact h
 ·rw[if_neg hk]at h ⊢;exact h
theorem oneR_app {l:List Lx} (r:List Lx) {st:St} {n:Nat} (h:oneR l=some (st,n)):n<=l.length/\oneR (l++r)=some (st,n):=by
 have hk:kindR (l++r)=kindR l:=by
  cases l with
  |nil=>cases h
  |cons x q=>rfl
 unfold oneR at h ⊢
 rw[hk]
 by_cases h5:kindR l∈fiveT
 ·rw[if_pos h5]at h ⊢
  unfold nmS at h ⊢
  split at h
  ·cases h
  ·next t b hb=>
   rw[listR_app r hb]
   simp only
   split at h
   ·cases h
   ·next ws hw=>
    obtain⟨h1,h2⟩:=namesR_app r hw
    rw[h2]
    cases h
    exact⟨h1,rfl⟩
 ·rw[if_neg h5]at h ⊢
  by_cases h3:kindR l∈threeT
  ·rw[if_pos h3]at h ⊢
   unfold synR at h ⊢
   by_cases h1:kindR l=relT
   ·rw[if_pos h1]at h ⊢
    split at h
    ·cases h
    ·next hy=>
     split at h
     ·cases h
     ·next hw=>
      obtain⟨a1,a2⟩:=wantsF_app r [1] 1 hw
      simp only[List.length_cons,List.length_nil]at a1
      cases h
      refine⟨by omega, ?_⟩
      rw[isR_app r (by omega),isR_app r (by omega),if_neg hy,textR_app r (by omega)]
      have:wantsR (l++r) [1]=none:=a2
      rw[this]
   ·rw[if_neg h1]at h ⊢
    by_cases h2:kindR l=forceT
    ·rw[if_pos h2]at h ⊢
     split at h
     ·cases h
     ·next hw=>
      obtain⟨a1,a2⟩:=wantsF_app r [1,1,3] 1 hw
      simp only[List.length_cons,List.length_nil]at a1
      cases h
      refine⟨by omega, ?_⟩
      have:wantsR (l++r) [1,1,3]=none:=a2
      rw[this,textR_app r (by omega),textR_app r (by omega),textR_app r (by omega)]
    ·rw[if_neg h2]at h ⊢
     split at h
     ·cases h
     ·next hy=>
      split at h
      ·cases h
      ·next hw=>
       obtain⟨a1,a2⟩:=wantsF_app r [1,2] 1 hw
       simp only[List.length_cons,List.length_nil]at a1
       cases h
       refine⟨by omega, ?_⟩
       rw[isR_app r (by omega),isR_app r (by omega),isR_app r (by omega),if_neg hy,textR_app r (by omega),textR_app r (by omega)]
       have:wantsR (l++r) [1,2]=none:=a2
       rw[this]
  ·rw[if_neg h3]at h;cases h
theorem Parsed.app {l m:List Lx} {ss ts:List St} (h:Parsed l ss) (g:Parsed m ts):Parsed (l++m) (ss++ts):=by
 induction h with
 |nil=>exact g
 | @cons l st n ss ho hr ih=>
  obtain⟨h1,h2⟩:=oneR_app m ho
  refine .cons h2 ?_
  rw[List.drop_append_of_le_length h1]
  exact ih
end Go.Proofs.YtbhhgbgfaemfdaaGreat

