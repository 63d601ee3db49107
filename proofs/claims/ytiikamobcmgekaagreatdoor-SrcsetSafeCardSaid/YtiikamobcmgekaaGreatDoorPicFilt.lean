/- Plain: lists of pictures, filtered by rules. No program in sight. -/
import Derived.Test.YtiikamobcmgekaaGreatDoorD1
import Derived.Test.YtiikamobcmgekaaGreatDoorPicPlainB
namespace Go.Proofs.YtiikamobcmgekaaGreatDoor
def onePic (P:Pol) (x:Pic):List Pic:=match filtL P x.url with
 |some u=>if okP ⟨u,x.size⟩=true then [⟨u,x.size⟩]else []
 |none=>[]
def filtP (P:Pol) (l:List Pic):List Pic:=l.flatMap (onePic P)
theorem one_mem {P:Pol} {x y:Pic} (h:y∈onePic P x):okP y=true/\filtL P x.url=some y.url/\y.size=x.size:=by
 unfold onePic at h
 split at h
 ·next u hu=>
  split at h
  ·next ho=>
   rw[List.mem_singleton]at h
   subst h
   exact⟨ho,hu,rfl⟩
  ·cases h
 ·cases h
theorem one_len (P:Pol) (x:Pic):(onePic P x).length<=1:=by
 unfold onePic
 split
 ·split
  ·exact Nat.le_refl _
  ·exact Nat.zero_le _
 ·exact Nat.zero_le _
theorem filtP_mem {P:Pol} {l:List Pic} {y:Pic} (h:y∈filtP P l): ∃x∈l,okP y=true/\filtL P x.url=some y.url/\y.size=x.size:=by
 unfold filtP at h
 rw[List.mem_flatMap]at h
 obtain⟨x,hx,hy⟩:=h
 exact⟨x,hx,one_mem hy⟩
theorem filtP_ok (P:Pol) (l:List Pic):(filtP P l).all okP=true:=by
 rw[List.all_eq_true]
 intro y hy
 obtain⟨_,_,h,_⟩:=filtP_mem hy
 exact h
theorem one_again {P:Pol} {y:Pic} (ho:okP y=true) {v:Bs} (h:filtL P v=some y.url):onePic P y=[y]:=by
 unfold onePic
 rw[(filt_safe h).2.1]
 obtain⟨u,z⟩:=y
 exact if_pos ho
theorem flat_self {α:Type} {f:α->List α}: ∀l:List α,(∀y∈l,f y=[y])->l.flatMap f=l
 |[],_=>rfl
 |x::r,h=>by
  rw[List.flatMap_cons,h x (by simp),flat_self r (fun y hy=>h y (by simp[hy]))]
  rfl
theorem filtP_again (P:Pol) (l:List Pic):filtP P (filtP P l)=filtP P l:=
 flat_self _ fun y hy=>by
  obtain⟨x,_,ho,hu,_⟩:=filtP_mem hy
  exact one_again ho hu
theorem filtP_len (P:Pol): ∀l:List Pic,(filtP P l).length<=l.length
 |[]=>Nat.zero_le _
 |x::r=>by
  have h1:=filtP_len P r
  have h2:=one_len P x
  unfold filtP at h1 ⊢
  rw[List.flatMap_cons,List.length_append,List.length_cons]
  omega
theorem filtP_snoc (P:Pol) (l:List Pic) (x:Pic):filtP P (l++[x])=filtP P l++onePic P x:=by
 unfold filtP
 rw[List.flatMap_append,List.flatMap_cons,List.flatMap_nil,List.append_nil]
theorem ptold_ne {p:Pic} (h:okP p=true):toldP' p≠[]:=by
 obtain⟨c,r,hu,_⟩:=okP_parts h
 unfold toldP'
 rw[hu]
 split<;>simp
theorem textP_nil {l:List Pic} (h:l.all okP=true):textP l=[]↔l=[]:=by
 constructor
 ·intro ht
  cases l with
  |nil=>rfl
  |cons p r=>
   exfalso
   have hp:okP p=true:=(List.all_eq_true.1 h) p (by simp)
   have hn:=ptold_ne hp
   cases r with
   |nil=>exact hn ht
   |cons q r'=>
    have h1:toldP' p++[44,32]++joinBs [44,32] (toldP' q::r'.map toldP')=[]:=ht
    rw[List.append_eq_nil_iff,List.append_eq_nil_iff]at h1
    exact hn h1.1.1
 ·intro hl
  subst hl
  rfl
theorem filt_pics (P:Pol) (l:List Pic):picL (textP (filtP P l))=filtP P l:=pic_back _ (filtP_ok P l)
theorem joinBs_len (n k:Nat) (sep:Bs) (hs:sep.length=k): ∀l:List Bs,(∀t∈l,t.length<=n)->(joinBs sep l).length<=l.length*(n+k)
 |[],_=>Nat.zero_le _
 |[x],h=>by
  have h1:=h x (by simp)
  show x.length<=1*(n+k)
  omega
 |x::y::r,h=>by
  have h1:=h x (by simp)
  have h2:=joinBs_len n k sep hs (y::r) (fun t ht=>h t (by simp[ht]))
  show(x++sep++joinBs sep (y::r)).length<=_
  rw[List.length_append,List.length_append,hs]
  rw[show(x::y::r).length=(y::r).length+1 from rfl,Nat.succ_mul]
  omega
theorem ptold_len {p:Pic} {n:Nat} (h1:p.url.length<=n) (h2:p.size.length<=n):(toldP' p).length<=2*n+1:=by
 unfold toldP'
 split
 ·omega
 ·rw[List.length_append,List.length_cons];omega
theorem ptext_len {l:List Pic} {n:Nat} (h: ∀p∈l,p.url.length<=n/\p.size.length<=n):(textP l).length<=l.length*(2*n+3):=by
 have h1:=joinBs_len (2*n+1) 2 [44,32] rfl (l.map toldP') (fun t ht=>by
  rw[List.mem_map]at ht
  obtain⟨p,hp,rfl⟩:=ht
  exact ptold_len (h p hp).1 (h p hp).2)
 rw[List.length_map]at h1
 exact h1
theorem words_join: ∀(l w:Bs),(joinBs [32] (wordsA w l)).length<=w.length+l.length
 |[],w=>by
  unfold wordsA
  split
  ·exact Nat.zero_le _
  ·show w.length<=_;omega
 |c::r,w=>by
  unfold wordsA
  split
  ·split
   ·next hw=>subst hw;have:=words_join r [];simp at this ⊢;omega
   ·have h1:=words_join r []
    cases hq:wordsA [] r with
    |nil=>show w.length<=_;omega
    |cons y q=>
     rw[hq]at h1
     show(w++[32]++joinBs [32] (y::q)).length<=_
     simp at h1 ⊢
     omega
  ·have h1:=words_join r (w++[c])
   simp at h1 ⊢
   omega
theorem trimC_le (l:Bs):(trimC l).length<=l.length:=by
 unfold trimC
 rw[List.length_reverse]
 have:=drop_while_len (fun c=>decide (c.toNat=44)) l.reverse
 rwa[List.length_reverse]at this
theorem pic_small: ∀(n:Nat) (l:Bs),l.length<=n-> ∀p∈picL l,p.url.length<=n/\p.size.length<=n:=by
 intro n
 induction n with
 |zero=>intro l h p hp;obtain rfl:l=[]:=List.eq_nil_of_length_eq_zero (by omega);simp[pic_nil]at hp
 |succ n ih=>
  intro l h p hp
  cases l with
  |nil=>simp[pic_nil]at hp
  |cons c r=>
   have hr:r.length<=n:=by simpa using h
   cases hs:sepB c
   ·have h1:=tail_len (r:=r) (sep_sp hs)
    have hw:((c::r).takeWhile (fun c=> !spB c)).length<=n+1:=Nat.le_trans (List.takeWhile_sublist _).length_le h
    rw[pic_round hs]at hp
    split at hp
    ·rw[List.mem_cons]at hp
     rcases hp with hp|hp
     ·subst hp
      exact⟨Nat.le_trans (trimC_le _) hw,Nat.zero_le _⟩
     ·have:=ih _ (Nat.le_trans h1 hr) p hp
      omega
    ·rw[List.mem_cons]at hp
     rcases hp with hp|hp
     ·subst hp
      refine⟨hw,Nat.le_trans (words_join _ []) ?_⟩
      rw[List.length_take]
      simp only[List.length_nil]
      omega
     ·have h2:(((c::r).dropWhile (fun c=> !spB c)).drop (szL 0 ((c::r).dropWhile (fun c=> !spB c)))).length<=r.length:=by rw[List.length_drop];omega
      have:=ih _ (Nat.le_trans h2 hr) p hp
      omega
   ·rw[pic_sep hs]at hp
    have:=ih r hr p hp
    omega
theorem cleanL_le (l:Bs):(cleanL l).length<=l.length:=by
 unfold cleanL trimL
 refine Nat.le_trans (List.length_filter_le _ _) ?_
 rw[List.length_reverse]
 refine Nat.le_trans (List.dropWhile_sublist _).length_le ?_
 rw[List.length_reverse]
 exact(List.dropWhile_sublist _).length_le
theorem splitL_le {l:Bs} {x:Bs × Bs} (h:splitL l=some x):x.1.length+x.2.length+1<=l.length:=by
 obtain⟨n,r⟩:=x
 obtain⟨a,m,h1,h2,_⟩:=split_some h
 rw[h1,h2]
 simp
 omega
theorem filtL_le {p:Pol} {s x:Bs} (h:filtL p s=some x):x.length<=s.length:=by
 refine Nat.le_trans ?_ (cleanL_le s)
 unfold filtL at h
 split at h
 ·next n r hs=>
  have:=splitL_le hs
  split at h
  ·cases h
   simp at this ⊢
   omega
  ·cases h
 ·split at h
  ·cases h
   exact Nat.le_refl _
  ·cases h
theorem filtP_small {P:Pol} {s:Bs} {n:Nat} (h:s.length<=n): ∀p∈filtP P (picL s),p.url.length<=n/\p.size.length<=n:=by
 intro p hp
 obtain⟨x,hx,_,h1,h2⟩:=filtP_mem hp
 have h3:=pic_small n s h x hx
 have h4:=filtL_le h1
 rw[h2]
 omega
end Go.Proofs.YtiikamobcmgekaaGreatDoor

