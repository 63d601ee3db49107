/- Plain: the attributes' lines of a policy's text, one by one, the reference's way. No program in sight. -/
import Derived.Test.YtbhhgbgfaemfdaaGreatDoorPrnTell
namespace Go.Proofs.YtbhhgbgfaemfdaaGreatDoor
open List renaming drop_eq_getElem_cons→z2l
def newA (l:List Alw) (k:Nat):Bool:=decide (k=0)|| !decide ((l.getD k ⟨[],[]⟩).tag=(l.getD (k-1) ⟨[],[]⟩).tag)
def zom (l:List Alw) (k:Nat):Bool:=decide (k+1=l.length)|| !decide ((l.getD k ⟨[],[]⟩).tag=(l.getD (k+1) ⟨[],[]⟩).tag)
def dueA (l:List Alw) (k:Nat):Bs:=match l.drop k with
 |[]=>[]
 |a::r=>(if newA l k=true then zay++(32::(a.tag++[58]))else [])++zf8 a r
theorem zz3 (l:List Alw):dueA l 0=txA l:=by
 rw[z1a]
 cases l with
 |nil=>rfl
 |cons a r=>
  rw[zj7]
  show(if newA (a::r) 0=true then _ else _)++zf8 a r=_
  rw[if_pos (by simp[newA])]
  simp
theorem zxm {l:List Alw} {k:Nat} (h:l.length<=k):dueA l k=[]:=by
 unfold dueA
 rw[List.drop_eq_nil_of_le h]
theorem zt0 (a b:Alw) (r:List Alw):zf8 a (b::r)=if b.tag=a.tag then 32::(a.name++zf8 b r)else 32::(a.name++([59,10]++(zay++(32::(b.tag++([58]++zf8 b r)))))):=rfl
theorem zz4 {l:List Alw} {k:Nat} (h:k<l.length) {x:Alw} (hx:l[k]=x):dueA l k=(if newA l k=true then zay++(32::(x.tag++[58]))else [])++((32::x.name)++((if zom l k=true then [59,10]else [])++dueA l (k+1))):=by
 have hg:l.getD k ⟨[],[]⟩=x:=by rw[List.getD_eq_getElem?_getD,List.getElem?_eq_getElem h,hx];rfl
 have e:dueA l k=(if newA l k=true then zay++(32::(x.tag++[58]))else [])++zf8 x (l.drop (k+1)):=by
  unfold dueA
  rw[z2l h,hx]
 rw[e]
 congr 1
 by_cases h2:k+1<l.length
 ·obtain⟨y,hy⟩: ∃y,l[k+1]=y:=⟨_,rfl⟩
  have hg2:l.getD (k+1) ⟨[],[]⟩=y:=by rw[List.getD_eq_getElem?_getD,List.getElem?_eq_getElem h2,hy];rfl
  have e2:dueA l (k+1)=(if newA l (k+1)=true then zay++(32::(y.tag++[58]))else [])++zf8 y (l.drop (k+2)):=by
   unfold dueA
   rw[z2l h2,hy]
  rw[z2l h2,hy,e2]
  have n1:newA l (k+1)= !decide (y.tag=x.tag):=by unfold newA;rw[hg2,Nat.add_sub_cancel,hg];simp
  have n2:zom l k= !decide (x.tag=y.tag):=by unfold zom;rw[hg2,hg,decide_eq_false (by omega)];simp
  rw[n1,n2]
  rw[zt0]
  by_cases ht:y.tag=x.tag
  ·rw[if_pos ht,decide_eq_true ht,decide_eq_true ht.symm]
   simp
  ·rw[if_neg ht,decide_eq_false ht,decide_eq_false (fun h=>ht h.symm)]
   simp
 ·have n2:zom l k=true:=by unfold zom;rw[decide_eq_true (by omega)];rfl
  rw[n2,zxm (by omega),List.drop_eq_nil_of_le (by omega)]
  simp[zf8]
end Go.Proofs.YtbhhgbgfaemfdaaGreatDoor

