/- Plain: lists of pictures, filtered by rules. No program in sight. -/
import Derived.Test.YtiikamobcmgekaaGreatDoorRowU
import Derived.Test.YtiikamobcmgekaaGreatDoorPicB
namespace Go.Proofs.YtiikamobcmgekaaGreatDoor
open List renaming length_append→z2h,length_reverse→z3u
open Nat renaming le_trans→z2j,zero_le→z5q
def zeo (P:Pol) (x:Pic):List Pic:=match zia P x.url with
 |some u=>if okP ⟨u,x.size⟩=true then [⟨u,x.size⟩]else []
 |none=>[]
def zch (P:Pol) (l:List Pic):List Pic:=l.flatMap (zeo P)
theorem z1q {P:Pol} {x y:Pic} (h:y∈zeo P x):okP y=true/\zia P x.url=some y.url/\y.size=x.size:=by
 unfold zeo at h;split at h
 ·next u hu=>
  split at h
  ·next ho=>
   rw[List.mem_singleton]at h;subst h;exact⟨ho,hu,rfl⟩
  ·cases h
 ·cases h
theorem z1r (P:Pol) (x:Pic):(zeo P x).length<=1:=by
 unfold zeo;split
 ·split
  ·exact Nat.le_refl _
  ·exact z5q _
 ·exact z5q _
theorem zo9 {P:Pol} {l:List Pic} {y:Pic} (h:y∈zch P l): ∃x∈l,okP y=true/\zia P x.url=some y.url/\y.size=x.size:=by
 unfold zch at h;rw[List.mem_flatMap]at h;obtain⟨x,hx,hy⟩:=h;exact⟨x,hx,z1q hy⟩
theorem zf2 (P:Pol): ∀l:List Pic,(zch P l).length<=l.length
 |[]=>z5q _
 |x::r=>by
  have h1:=zf2 P r;have h2:=z1r P x;unfold zch at h1 ⊢;rw[List.flatMap_cons,z2h,List.length_cons];omega
theorem zgg (P:Pol) (l:List Pic) (x:Pic):zch P (l++[x])=zch P l++zeo P x:=by
 unfold zch;rw[List.flatMap_append,List.flatMap_cons,List.flatMap_nil,List.append_nil]
theorem zl5 (n k:Nat) (sep:Bs) (hs:sep.length=k): ∀l:List Bs,(∀t∈l,t.length<=n)->(zba sep l).length<=l.length*(n+k)
 |[],_=>z5q _
 |[x],h=>by
  have h1:=h x (by simp);show x.length<=1*(n+k);omega
 |x::y::r,h=>by
  have h1:=h x (by simp);have h2:=zl5 n k sep hs (y::r) (fun t ht=>h t (by simp[ht]));show(x++sep++zba sep (y::r)).length<=_;rw[z2h,z2h,hs];rw[show(x::y::r).length=(y::r).length+1 from rfl,Nat.succ_mul];omega
theorem zxa {p:Pic} {n:Nat} (h1:p.url.length<=n) (h2:p.size.length<=n):(zeg p).length<=2*n+1:=by
 unfold zeg;split
 ·omega
 ·rw[z2h,List.length_cons];omega
theorem zop {l:List Pic} {n:Nat} (h: ∀p∈l,p.url.length<=n/\p.size.length<=n):(zd0 l).length<=l.length*(2*n+3):=by
 have h1:=zl5 (2*n+1) 2 [44,32] rfl (l.map zeg) (fun t ht=>by
  rw[List.mem_map]at ht;obtain⟨p,hp,rfl⟩:=ht;exact zxa (h p hp).1 (h p hp).2)
 rw[List.length_map]at h1;exact h1
theorem zf9: ∀(l w:Bs),(zba [32] (zbi w l)).length<=w.length+l.length
 |[],w=>by
  unfold zbi;split
  ·exact z5q _
  ·show w.length<=_;omega
 |c::r,w=>by
  unfold zbi;split
  ·split
   ·next hw=>subst hw;have:=zf9 r [];simp at this ⊢;omega
   ·have h1:=zf9 r [];cases hq:zbi [] r with
    |nil=>show w.length<=_;omega
    |cons y q=>
     rw[hq]at h1;show(w++[32]++zba [32] (y::q)).length<=_;simp at h1 ⊢;omega
  ·have h1:=zf9 r (w++[c]);simp at h1 ⊢;omega
theorem zzh (l:Bs):(zce l).length<=l.length:=by
 unfold zce;rw[z3u];have:=zat (fun c=>decide (c.toNat=44)) l.reverse;rwa[z3u]at this
theorem zxe: ∀(n:Nat) (l:Bs),l.length<=n-> ∀p∈picL l,p.url.length<=n/\p.size.length<=n:=by
 intro n;induction n with
 |zero=>intro l h p hp;obtain rfl:l=[]:=List.eq_nil_of_length_eq_zero (by omega);simp[zh2]at hp
 |succ n ih=>
  intro l h p hp;cases l with
  |nil=>simp[zh2]at hp
  |cons c r=>
   have hr:r.length<=n:=by simpa using h
   cases hs:sepB c
   ·have h1:=zgb (r:=r) (zjt hs);have hw:((c::r).takeWhile (fun c=> !spB c)).length<=n+1:=z2j (List.takeWhile_sublist _).length_le h;rw[zhf hs]at hp;split at hp
    ·rw[List.mem_cons]at hp;rcases hp with hp|hp
     ·subst hp;exact⟨z2j (zzh _) hw,z5q _⟩
     ·have:=ih _ (z2j h1 hr) p hp;omega
    ·rw[List.mem_cons]at hp;rcases hp with hp|hp
     ·subst hp;refine⟨hw,z2j (zf9 _ []) ?_⟩;rw[List.length_take];simp only[List.length_nil];omega
     ·have h2:(((c::r).dropWhile (fun c=> !spB c)).drop (szL 0 ((c::r).dropWhile (fun c=> !spB c)))).length<=r.length:=by rw[List.length_drop];omega
      have:=ih _ (z2j h2 hr) p hp;omega
   ·rw[zmw hs]at hp;have:=ih r hr p hp;omega
theorem zyk (l:Bs):(zcu l).length<=l.length:=by
 unfold zcu zs8;refine z2j (List.length_filter_le _ _) ?_;rw[z3u];refine z2j (List.dropWhile_sublist _).length_le ?_;rw[z3u];exact(List.dropWhile_sublist _).length_le
theorem zwd {l:Bs} {x:Bs × Bs} (h:zcg l=some x):x.1.length+x.2.length+1<=l.length:=by
 obtain⟨n,r⟩:=x;obtain⟨a,m,h1,h2,_⟩:=zte h;rw[h1,h2];simp;omega
theorem zi2 {p:Pol} {s x:Bs} (h:zia p s=some x):x.length<=s.length:=by
 refine z2j ?_ (zyk s);unfold zia at h;split at h
 ·next n r hs=>
  have:=zwd hs;split at h
  ·cases h;simp at this ⊢;omega
  ·cases h
 ·split at h
  ·cases h;exact Nat.le_refl _
  ·cases h
end Go.Proofs.YtiikamobcmgekaaGreatDoor

