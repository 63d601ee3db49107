/- Plain: what the program prints of a policy that may be is its text; how long it is. No program in sight but for names of what is said. -/
import Derived.Lib.ItoaLen
import Derived.Test.YtbhhgbgfaemfdaaGreatDoorPrnRef
import Derived.Test.YtbhhgbgfaemfdaaGreatDoorPrwD
namespace Go.Proofs.YtbhhgbgfaemfdaaGreatDoor
open List renaming length_append→z2i,length_cons→z2j,length_nil→z27,mem_cons_of_mem→z3q,mem_cons_self→z3d
open Nat renaming mul_le_mul_right→z3m
theorem zl1 (l:List Bs):zck l=sayW l:=by
 induction l with
 |nil=>rfl
 |cons w l ih=>show [32]++w++zck l=32::(w++sayW l);rw[ih];simp
theorem zn2: ∀(r:List Alw) (a:Alw),zf8 a r=32::(a.name++zff a.tag r)
 |[],a=>rfl
 |b::r,a=>by
  unfold zf8
  rw[zew,zn2 r b]
  by_cases hb:b.tag=a.tag
  ·rw[if_pos hb,if_pos hb,hb]
  ·rw[if_neg hb,if_neg hb]
   rfl
theorem z1a (l:List Alw):txA l=zsj (grpA l):=by
 cases l with
 |nil=>rfl
 |cons a r=>
  rw[zj7,zn2]
  rfl
theorem zy3 {l:List Bs} {m:Nat} (h: ∀t∈l,t.length<=m):(sayW l).length<=l.length*(m+1):=by
 induction l with
 |nil=>simp[sayW]
 |cons w l ih=>
  have h1:=h w z3d
  have h2:=ih fun t ht=>h t (z3q _ ht)
  simp only[sayW,z2j,z2i,Nat.add_mul]at*
  omega
theorem zmc {m:Nat}: ∀{l:List Alw} (t:Bs),(∀a∈l,a.tag.length<=m/\a.name.length<=m)->(zff t l).length<=2+l.length*(2*m+12)
 |[],t,_=>by simp[zff]
 |b::r,t,h=>by
  obtain⟨h1,h2⟩:=h b z3d
  have hr: ∀a∈r,a.tag.length<=m/\a.name.length<=m:=fun a ha=>h a (z3q _ ha)
  have k1:=zmc (l:=r) t hr
  have k2:=zmc (l:=r) b.tag hr
  rw[zew]
  split<;>simp only[z2j,z2i,z27,Nat.add_mul]at* <;>omega
theorem z09 {m:Nat} {l:List Alw} (h: ∀a∈l,a.tag.length<=m/\a.name.length<=m):(txA l).length<=2+l.length*(2*m+12):=by
 cases l with
 |nil=>simp[txA]
 |cons a r=>
  have:=zmc (l:=a::r) (a.tag++[0]) h
  rw[zew,if_neg (by intro e;have:=congrArg List.length e;simp at this)]at this
  unfold txA
  simp only[z2j,z2i,z27]at*
  omega
theorem esc_le (l:Bs):(esc l).length<=2*l.length:=by
 induction l with
 |nil=>simp[esc]
 |cons c l ih=>unfold esc;split<;>simp only[z2j]at* <;>omega
theorem z1l (z:Bs):(quoV z).length<=2*z.length+2:=by
 unfold quoV zdc
 split
 ·simp
 ·have:=esc_le z
  simp only[Option.getD_some,z2j,z2i,z27]
  omega
theorem zz0 {m:Nat} {l:List Frc} (h: ∀a∈l,a.tag.length<=m/\a.name.length<=m/\a.value.length<=m):(l.flatMap zge).length<=l.length*(4*m+12):=by
 induction l with
 |nil=>simp
 |cons f l ih=>
  obtain⟨h1,h2,h3⟩:=h f z3d
  have k:=ih fun a ha=>h a (z3q _ ha)
  have q:=z1l f.value
  have e:(zge f).length=5+((1+f.tag.length)+((1+f.name.length)+(1+(quoV f.value).length))+2):=by
   unfold zge sayS
   rw[zl1]
   simp[sayW,foT]
   omega
  rw[List.flatMap_cons,z2i,e]
  simp only[z2j,Nat.add_mul]at*
  omega
theorem zil {k:Bs} {l:List Bs} {m:Nat} (h: ∀t∈l,t.length<=m):(sayN k l).length<=k.length+(l.length*(m+1)+2):=by
 unfold sayN sayS
 split
 ·simp
 ·have:=zy3 h
  rw[zl1]
  simp only[z2i,z2j,z27]
  omega
theorem zv1 {p:Pol} (h:zbu p=true):fitB p=true:=by
 unfold zbu at h
 simp only[Bool.and_eq_true]at h
 exact h.1.2
theorem z1c {p:Pol} (hk:zdz p 1048576):zix p:=by
 refine⟨hk.sm,hk.tx,fun hr=> ?_⟩
 have hf:=zv1 hr
 unfold fitB at hf
 simp only[decide_eq_true_eq]at hf
 obtain⟨f0,f1,f2,f3,f4,f5⟩:=hf
 have a0:=zil (k:=tgT) hk.tags
 have a1:=zil (k:=scT) hk.schemes
 have a2:=zil (k:=csT) hk.css
 have a3:=zil (k:=drT) hk.drops
 have a4:=z09 hk.attrs
 have a5:=zz0 hk.forces
 have b0:=z3m (1048576+1) f0
 have b1:=z3m (1048576+1) f1
 have b2:=z3m (1048576+1) f2
 have b3:=z3m (1048576+1) f3
 have b4:=z3m (2*1048576+12) f4
 have b5:=z3m (4*1048576+12) f5
 have r:(relX p).length<=100:=by unfold relX;cases p.rel<;>decide
 have hl:=zhq hr
 have t1:=Lib.itoa_length_le p.depth (by omega) (by omega)
 have t2:=Lib.itoa_length_le p.name (by omega) (by omega)
 have t3:=Lib.itoa_length_le p.value (by omega) (by omega)
 have l:(zif p).length<=500:=by
  unfold zif sayS
  simp only[zl1,sayW,z2i,z2j,z27,limT]
  omega
 have k0:tgT.length=4:=rfl
 have k1:scT.length=7:=rfl
 have k2:csT.length=3:=rfl
 have k3:drT.length=4:=rfl
 unfold txP zdt
 simp only[z2i]
 omega
end Go.Proofs.YtbhhgbgfaemfdaaGreatDoor

