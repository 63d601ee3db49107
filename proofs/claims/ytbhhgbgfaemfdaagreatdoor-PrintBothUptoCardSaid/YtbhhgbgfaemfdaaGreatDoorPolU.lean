/- Plain: a text of a policy as statements, one behind the other; what two texts tell together. No program in sight. -/
import Derived.Test.YtbhhgbgfaemfdaaGreatDoorRG
namespace Go.Proofs.YtbhhgbgfaemfdaaGreatDoor
theorem drop_kt {l m:List Lx} (h:l.map Lx.kt=m.map Lx.kt) (i:Nat):(l.drop i).map Lx.kt=(m.drop i).map Lx.kt:=by
 rw[List.map_drop,List.map_drop,h]
theorem nextP_kt {l m:List Lx} (h:l.map Lx.kt=m.map Lx.kt) (k:Nat) (ts:List Bs):nextP k ts l=nextP k ts m:=by
 cases l with
 |nil=>
  have:m=[]:=by simpa using h.symm
  rw[this]
 |cons x r=>
  cases m with
  |nil=>simp at h
  |cons y q=>
   simp only[List.map_cons,List.cons.injEq,Lx.kt,Prod.mk.injEq]at h
   show isP k ts x=isP k ts y
   unfold isP
   rw[h.1.1,h.1.2]
theorem isR_kt {l m:List Lx} (h:l.map Lx.kt=m.map Lx.kt) (i k:Nat) (t:Bs):isR l i k t=isR m i k t:=nextP_kt (drop_kt h i) _ _
theorem textR_kt {l m:List Lx} (h:l.map Lx.kt=m.map Lx.kt) (i:Nat):textR l i=textR m i:=by
 have h1:=drop_kt h i
 unfold textR
 generalize l.drop i=a at*
 generalize m.drop i=b at*
 cases a with
 |nil=>
  have:b=[]:=by simpa using h1.symm
  rw[this]
 |cons x r=>
  cases b with
  |nil=>simp at h1
  |cons y q=>
   simp only[List.map_cons,List.cons.injEq,Lx.kt,Prod.mk.injEq]at h1
   exact h1.1.2
theorem takeWhile_kt: ∀{l m:List Lx},l.map Lx.kt=m.map Lx.kt->(l.takeWhile (isP 1 [])).map Lx.text=(m.takeWhile (isP 1 [])).map Lx.text
 |[],m,h=>by
  have:m=[]:=by simpa using h.symm
  rw[this]
 |x::r,[],h=>by simp at h
 |x::r,y::q,h=>by
  simp only[List.map_cons,List.cons.injEq,Lx.kt,Prod.mk.injEq]at h
  have hp:isP 1 [] x=isP 1 [] y:=by unfold isP;rw[h.1.1,h.1.2]
  by_cases hx:isP 1 [] x=true
  ·rw[List.takeWhile_cons_of_pos hx,List.takeWhile_cons_of_pos (hp ▸ hx),List.map_cons,List.map_cons,h.1.2,takeWhile_kt h.2]
  ·rw[List.takeWhile_cons_of_neg hx,List.takeWhile_cons_of_neg (hp ▸ hx)]
theorem wordsR_kt {l m:List Lx} (h:l.map Lx.kt=m.map Lx.kt) (b:Nat):wordsR l b=wordsR m b:=takeWhile_kt (drop_kt h b)
theorem kindR_kt {l m:List Lx} (h:l.map Lx.kt=m.map Lx.kt):kindR l=kindR m:=by
 cases l with
 |nil=>
  have:m=[]:=by simpa using h.symm
  rw[this]
 |cons x r=>
  cases m with
  |nil=>simp at h
  |cons y q=>
   simp only[List.map_cons,List.cons.injEq,Lx.kt,Prod.mk.injEq]at h
   unfold kindR
   simp only
   rw[h.1.1,h.1.2]
theorem wantsF_kt {l m:List Lx} (h:l.map Lx.kt=m.map Lx.kt): ∀(ks:List Nat) (i:Nat),wantsF l i ks=wantsF m i ks
 |[],i=>by unfold wantsF;rw[isR_kt h]
 |k::ks,i=>by unfold wantsF;rw[isR_kt h,wantsF_kt h ks]
inductive St where
 |nm (k tag:Bs) (ws:List Bs)
 |sg (k x y z:Bs)
deriving DecidableEq
def boundB (x:Bs) (n:Int):Bool:=inB n (if x=depthT then 256 else if x=nameT then 64 else 65536)
def St.app:St->Pol->Pol
 | .nm k tag ws,p=>addK k tag p ws
 | .sg k x y z,p=>if k=relT then {p with rel:=decide (x=yesT)}else if k=forceT then {p with forces:=p.forces++[⟨x,y,z⟩]}else setL x (numT y) p
def St.key:St->Option Bs
 | .nm _ _ _=>none
 | .sg k x y _=>some (if k=relT then relT else if k=forceT then forceT++[32]++x++[32]++y else limitT++[32]++x)
def St.good:St->Bool
 | .nm _ _ _=>true
 | .sg k x y _=>if k=relT then true else if k=forceT then true else boundB x (numT y)
def synR (k:Bs) (l:List Lx):Option (St × Nat):=
 if k=relT then(if(!isR l 1 1 yesT&& !isR l 1 1 noT)=true then none else match wantsR l [1]with
  |some _=>none
  |none=>some (.sg k (textR l 1) [] [],3))
 else if k=forceT then match wantsR l [1,1,3]with
  |some _=>none
  |none=>some (.sg k (textR l 1) (textR l 2) (textR l 3),5)
 else if(!isR l 1 1 depthT&&(!isR l 1 1 nameT&& !isR l 1 1 valT))=true then none
 else match wantsR l [1,2]with
  |some _=>none
  |none=>some (.sg k (textR l 1) (textR l 2) [],4)
def nmS (k:Bs) (l:List Lx):Option (St × Nat):=match listR k l with
 | .error _=>none
 | .ok (tag,b)=>match namesR l b with
  | .error _=>none
  | .ok ws=>some (.nm k tag ws,b+ws.length+1)
def oneR (l:List Lx):Option (St × Nat):=if kindR l∈fiveT then nmS (kindR l) l else if kindR l∈threeT then synR (kindR l) l else none
theorem oneR_kt {l m:List Lx} (h:l.map Lx.kt=m.map Lx.kt):oneR l=oneR m:=by
 have hI:=isR_kt h
 have hT:=textR_kt h
 have hW:=wordsR_kt h
 have hF: ∀ks,wantsR l ks=wantsR m ks:=fun ks=>wantsF_kt h ks 1
 unfold oneR nmS synR listR headR namesR
 rw[kindR_kt h]
 simp only[hI,hT,hW,hF]
theorem limB_set {p:Pol} (h:limB p=true) (x:Bs) (n:Int):limB (setL x n p)=boundB x n:=by
 unfold limB at h
 simp only[Bool.and_eq_true]at h
 unfold setL boundB
 by_cases h1:x=depthT
 ·rw[if_pos h1,if_pos h1]
  show(inB n 256&&inB p.name 64&&inB p.value 65536)=_
  rw[h.1.2,h.2];simp
 ·rw[if_neg h1,if_neg h1]
  by_cases h2:x=nameT
  ·rw[if_pos h2,if_pos h2]
   show(inB p.depth 256&&inB n 64&&inB p.value 65536)=_
   rw[h.1.1,h.2];simp
  ·rw[if_neg h2,if_neg h2]
   show(inB p.depth 256&&inB p.name 64&&inB n 65536)=_
   rw[h.1.1,h.1.2];simp
def StEnd (_en:Nat) (l:List Lx) (p:Pol) (told:List Bs) (r:Rs Ps):Option (St × Nat)->Prop
 |none=> ∃a,r= .error ⟨a,2⟩
 |some (st,n)=>match st.key with
  |none=>r= .ok ⟨l.drop n,st.app p,told⟩
  |some w=>if w∈told then ∃a,r= .error ⟨a,5⟩else if st.good=true then r= .ok ⟨l.drop n,st.app p,w::told⟩else ∃a,r= .error ⟨a,2⟩
theorem single_end {en:Nat} {l:List Lx} {p:Pol} {told:List Bs} (hl:limB p=true) (k:Bs):StEnd en l p told (match sgR k l p told with
  | .error (c,i)=> .error ⟨atR en l i,c⟩
  | .ok (n,q,t)=> .ok ⟨l.drop n,q,t⟩) (synR k l):=by
 unfold sgR synR
 by_cases h1:k=relT
 ·rw[if_pos h1,if_pos h1]
  by_cases h2:(!isR l 1 1 yesT&& !isR l 1 1 noT)=true
  ·rw[if_pos h2,if_pos h2];exact⟨_,rfl⟩
  ·rw[if_neg h2,if_neg h2]
   cases wantsR l [1]with
   |some i=>exact⟨_,rfl⟩
   |none=>
    simp only[StEnd,St.key,St.app,St.good]
    simp only[if_pos h1]
    by_cases h3:relT∈told
    ·simp only[if_pos h3];exact⟨_,rfl⟩
    ·simp only[if_neg h3,if_true]
 ·rw[if_neg h1,if_neg h1]
  by_cases h2:k=forceT
  ·rw[if_pos h2,if_pos h2]
   cases wantsR l [1,1,3]with
   |some i=>exact⟨_,rfl⟩
   |none=>
    simp only[StEnd,St.key,St.app,St.good]
    simp only[if_neg h1,if_pos h2]
    by_cases h3:(forceT++[32]++textR l 1++[32]++textR l 2)∈told
    ·simp only[if_pos h3];exact⟨_,rfl⟩
    ·simp only[if_neg h3,if_true]
  ·rw[if_neg h2,if_neg h2]
   by_cases h4:(!isR l 1 1 depthT&&(!isR l 1 1 nameT&& !isR l 1 1 valT))=true
   ·rw[if_pos h4,if_pos h4];exact⟨_,rfl⟩
   ·rw[if_neg h4,if_neg h4]
    cases wantsR l [1,2]with
    |some i=>exact⟨_,rfl⟩
    |none=>
     simp only[StEnd,St.key,St.app,St.good]
     simp only[if_neg h1,if_neg h2]
     by_cases h3:(limitT++[32]++textR l 1)∈told
     ·simp only[if_pos h3];exact⟨_,rfl⟩
     ·simp only[if_neg h3]
      rw[limB_set hl]
      by_cases h5:boundB (textR l 1) (numT (textR l 2))=true
      ·simp only[if_pos h5]
      ·simp only[if_neg h5];exact⟨_,rfl⟩
theorem stmt_end {en:Nat} {l:List Lx} {p:Pol} {told:List Bs} (hl:limB p=true):StEnd en l p told (stmtP en ⟨l,p,told⟩) (oneR l):=by
 unfold oneR
 by_cases h5:kindR l∈fiveT
 ·rw[if_pos h5,stmt_names (kindR l) h5 rfl]
  unfold nmR nmS
  cases listR (kindR l) l with
  |error i=>exact⟨_,rfl⟩
  |ok tb=>
   obtain⟨tag,b⟩:=tb
   simp only
   cases namesR l b with
   |error i=>exact⟨_,rfl⟩
   |ok ws=>rfl
 ·rw[if_neg h5]
  by_cases h3:kindR l∈threeT
  ·rw[if_pos h3,stmt_single (kindR l) h3 rfl]
   exact single_end hl _
  ·rw[if_neg h3,stmt_bad (fun h=>(kinds_split h).elim h5 h3)]
   exact⟨_,rfl⟩
theorem app_lim {st:St} {p:Pol} (h:limB p=true) (hg:st.good=true):limB (st.app p)=true:=by
 cases st with
 |nm k tag ws=>
  show limB (addK k tag p ws)=true
  unfold addK
  split
  ·exact h
  split
  ·exact h
  split
  ·exact h
  split<;>exact h
 |sg k x y z=>
  simp only[St.app,St.good]at hg ⊢
  by_cases h1:k=relT
  ·rw[if_pos h1];exact h
  ·rw[if_neg h1]at hg ⊢
   by_cases h2:k=forceT
   ·rw[if_pos h2];exact h
   ·rw[if_neg h2]at hg ⊢
    rw[limB_set h];exact hg
inductive Parsed:List Lx->List St->Prop where
 |nil:Parsed [] []
 |cons {l:List Lx} {st:St} {n:Nat} {ss:List St} (h:oneR l=some (st,n)) (hr:Parsed (l.drop n) ss):Parsed l (st::ss)
def keysS (ss:List St):List Bs:=ss.filterMap St.key
def appS (ss:List St) (p:Pol):Pol:=ss.foldl (fun p st=>st.app p) p
theorem parsed_run {en:Nat} {l:List Lx} {ss:List St} (h:Parsed l ss): ∀{p:Pol} {told:List Bs},limB p=true->(∀st∈ss,st.good=true)->
  (((keysS ss).Nodup/\ ∀k∈keysS ss,k∉told)-> ∃t,runP en ⟨l,p,told⟩= .ok t/\t.pol=appS ss p)/\(¬((keysS ss).Nodup/\ ∀k∈keysS ss,k∉told)-> ∃a,runP en ⟨l,p,told⟩= .error ⟨a,5⟩):=by
 induction h with
 |nil=>
  intro p told _ _
  exact⟨fun _=>⟨_,rfl,rfl⟩,fun h=>absurd ⟨List.nodup_nil,fun _ h=>(by cases h)⟩ h⟩
 | @cons l st n ss ho hr ih=>
  intro p told hp hg
  have hne:l≠[]:=by rintro rfl;cases ho
  have he:=stmt_end (en:=en) (l:=l) (p:=p) (told:=told) hp
  rw[ho]at he
  simp only[StEnd]at he
  have hgs:st.good=true:=hg st List.mem_cons_self
  have ih2:=fun told=> @ih (st.app p) told (app_lim hp hgs) (fun s hs=>hg s (List.mem_cons_of_mem _ hs))
  rw[runP_cons (s:=⟨l,p,told⟩) hne]
  cases hk:st.key with
  |none=>
   rw[hk]at he
   simp only at he
   rw[he]
   have:keysS (st::ss)=keysS ss:=by unfold keysS;rw[List.filterMap_cons_none hk]
   rw[this]
   exact ih2 told
  |some w=>
   rw[hk]at he
   simp only at he
   have hks:keysS (st::ss)=w::keysS ss:=by unfold keysS;rw[List.filterMap_cons_some hk]
   rw[hks]
   by_cases hw:w∈told
   ·rw[if_pos hw]at he
    obtain⟨a,he⟩:=he
    rw[he]
    exact⟨fun h=>absurd hw (h.2 w List.mem_cons_self),fun _=>⟨a,rfl⟩⟩
   ·rw[if_neg hw,if_pos hgs]at he
    rw[he]
    simp only
    obtain⟨i1,i2⟩:=ih2 (w::told)
    refine⟨fun h=> ?_,fun h=> ?_⟩
    ·refine i1 ⟨(List.nodup_cons.1 h.1).2,fun k hk2 hm=> ?_⟩
     rcases List.mem_cons.1 hm with rfl|hm
     ·exact(List.nodup_cons.1 h.1).1 hk2
     ·exact h.2 k (List.mem_cons_of_mem _ hk2) hm
    ·refine i2 fun h2=>h ⟨List.nodup_cons.2 ⟨fun hm=>h2.2 w hm List.mem_cons_self,h2.1⟩,fun k hk2=> ?_⟩
     rcases List.mem_cons.1 hk2 with rfl|hk2
     ·exact hw
     ·exact fun hm=>h2.2 k hk2 (List.mem_cons_of_mem _ hm)
theorem Parsed.kt {l:List Lx} {ss:List St} (h:Parsed l ss): ∀{m:List Lx},l.map Lx.kt=m.map Lx.kt->Parsed m ss:=by
 induction h with
 |nil=>
  intro m hm
  have:m=[]:=by simpa using hm.symm
  subst this;exact .nil
 |cons ho hr ih=>
  intro m hm
  exact .cons ((oneR_kt hm) ▸ ho) (ih (drop_kt hm _))
theorem isR_len {l:List Lx} {i k:Nat} {t:Bs} (h:isR l i k t=true):i<l.length:=by
 unfold isR at h
 rcases Nat.lt_or_ge i l.length with h1|h1
 ·exact h1
 ·rw[List.drop_eq_nil_of_le h1]at h;cases h
theorem drop_app {l r:List Lx} {i:Nat} (h:i<l.length):(l++r).drop i=l[i]::(l.drop (i+1)++r):=by
 rw[List.drop_append_of_le_length (by omega),List.drop_eq_getElem_cons h];rfl
theorem isR_app {l:List Lx} (r:List Lx) {i:Nat} (h:i<l.length) (k:Nat) (t:Bs):isR (l++r) i k t=isR l i k t:=by
 unfold isR;rw[drop_app h,List.drop_eq_getElem_cons h];rfl
theorem textR_app {l:List Lx} (r:List Lx) {i:Nat} (h:i<l.length):textR (l++r) i=textR l i:=by
 unfold textR;rw[drop_app h,List.drop_eq_getElem_cons h]
theorem wantsF_app {l:List Lx} (r:List Lx): ∀(ks:List Nat) (i:Nat),wantsF l i ks=none->i+ks.length<l.length/\wantsF (l++r) i ks=none
 |[],i,h=>by
  unfold wantsF at h
  split at h
  ·next hi=>
   have:=isR_len hi
   refine⟨by simpa using this, ?_⟩
   unfold wantsF
   rw[isR_app r this,if_pos hi]
  ·cases h
 |k::ks,i,h=>by
  unfold wantsF at h
  split at h
  ·next hi=>
   obtain⟨h1,h2⟩:=wantsF_app r ks (i+1) h
   refine⟨by rw[List.length_cons];omega, ?_⟩
   unfold wantsF
   rw[isR_app r (isR_len hi),if_pos hi,h2]
  ·cases h
theorem takeWhile_app {α:Type} {p:α->Bool}: ∀{q:List α} (r:List α),(q.takeWhile p).length<q.length->(q++r).takeWhile p=q.takeWhile p
 |[],r,h=>by simp at h
 |x::q,r,h=>by
  by_cases hx:p x=true
  ·rw[List.takeWhile_cons_of_pos hx]at h ⊢
   rw[List.cons_append,List.takeWhile_cons_of_pos hx,takeWhile_app r (by simpa using h)]
  ·rw[List.takeWhile_cons_of_neg hx,List.cons_append,List.takeWhile_cons_of_neg hx]
theorem namesR_app {l:List Lx} (r:List Lx) {b:Nat} {ws:List Bs} (h:namesR l b= .ok ws):b+ws.length+1<=l.length/\namesR (l++r) b= .ok ws:=by
 unfold namesR at h
 split at h
 ·cases h
 ·next hn=>
  cases h
  have hi:isR l (b+(wordsR l b).length) 4 semiT=true:=by
   cases hc:isR l (b+(wordsR l b).length) 4 semiT with
   |true=>rfl
   |false=>exact absurd (.inr hc) hn
  have hlen:=isR_len hi
  have hw:wordsR (l++r) b=wordsR l b:=by
   unfold wordsR at hlen ⊢
   rw[List.length_map]at hlen
   rw[List.drop_append_of_le_length (by omega),takeWhile_app r (by rw[List.length_drop];omega)]
  refine⟨by omega, ?_⟩
  unfold namesR
  rw[hw,isR_app r hlen,if_neg hn]
theorem listR_app {l:List Lx} (r:List Lx) {k t:Bs} {b:Nat} (h:listR k l= .ok (t,b)):listR k (l++r)= .ok (t,b):=by
 unfold listR at h ⊢
 by_cases hk:k=attrsT
 ·rw[if_pos hk]at h ⊢
  unfold headR at h ⊢
  split at h
  ·cases h
  ·next t' ht=>
   split at ht
   ·cases ht
   ·next h1=>
    split at ht
    ·cases ht
    ·next h2=>
     have h2:isR l 2 4 [58]=true:=by
      cases hc:isR l 2 4 [58]with
      |true=>rfl
      |false=>exact absurd hc h2
     have hl:=isR_len h2
     rw[isR_app r (by omega),isR_app r (by omega),isR_app r hl,textR_app r (by omega),if_neg h1,if_neg (by rw[h2];decide)]
     cases ht
     exact h
 ·rw[if_neg hk]at h ⊢;exact h
theorem oneR_app {l:List Lx} (r:List Lx) {st:St} {n:Nat} (h:oneR l=some (st,n)):n<=l.length/\oneR (l++r)=some (st,n):=by
 have hk:kindR (l++r)=kindR l:=by
  cases l with
  |nil=>cases h
  |cons x q=>rfl
 unfold oneR at h ⊢
 rw[hk]
 by_cases h5:kindR l∈fiveT
 ·rw[if_pos h5]at h ⊢
  unfold nmS at h ⊢
  split at h
  ·cases h
  ·next t b hb=>
   rw[listR_app r hb]
   simp only
   split at h
   ·cases h
   ·next ws hw=>
    obtain⟨h1,h2⟩:=namesR_app r hw
    rw[h2]
    cases h
    exact⟨h1,rfl⟩
 ·rw[if_neg h5]at h ⊢
  by_cases h3:kindR l∈threeT
  ·rw[if_pos h3]at h ⊢
   unfold synR at h ⊢
   by_cases h1:kindR l=relT
   ·rw[if_pos h1]at h ⊢
    split at h
    ·cases h
    ·next hy=>
     split at h
     ·cases h
     ·next hw=>
      obtain⟨a1,a2⟩:=wantsF_app r [1] 1 hw
      simp only[List.length_cons,List.length_nil]at a1
      cases h
      refine⟨by omega, ?_⟩
      rw[isR_app r (by omega),isR_app r (by omega),if_neg hy,textR_app r (by omega)]
      have:wantsR (l++r) [1]=none:=a2
      rw[this]
   ·rw[if_neg h1]at h ⊢
    by_cases h2:kindR l=forceT
    ·rw[if_pos h2]at h ⊢
     split at h
     ·cases h
     ·next hw=>
      obtain⟨a1,a2⟩:=wantsF_app r [1,1,3] 1 hw
      simp only[List.length_cons,List.length_nil]at a1
      cases h
      refine⟨by omega, ?_⟩
      have:wantsR (l++r) [1,1,3]=none:=a2
      rw[this,textR_app r (by omega),textR_app r (by omega),textR_app r (by omega)]
    ·rw[if_neg h2]at h ⊢
     split at h
     ·cases h
     ·next hy=>
      split at h
      ·cases h
      ·next hw=>
       obtain⟨a1,a2⟩:=wantsF_app r [1,2] 1 hw
       simp only[List.length_cons,List.length_nil]at a1
       cases h
       refine⟨by omega, ?_⟩
       rw[isR_app r (by omega),isR_app r (by omega),isR_app r (by omega),if_neg hy,textR_app r (by omega),textR_app r (by omega)]
       have:wantsR (l++r) [1,2]=none:=a2
       rw[this]
  ·rw[if_neg h3]at h;cases h
theorem Parsed.app {l m:List Lx} {ss ts:List St} (h:Parsed l ss) (g:Parsed m ts):Parsed (l++m) (ss++ts):=by
 induction h with
 |nil=>exact g
 | @cons l st n ss ho hr ih=>
  obtain⟨h1,h2⟩:=oneR_app m ho
  refine .cons h2 ?_
  rw[List.drop_append_of_le_length h1]
  exact ih
end Go.Proofs.YtbhhgbgfaemfdaaGreatDoor

