/- Plain: two policies together; one within another one. No program in sight. -/
import Derived.Test.YtbhhgbgfaemfdaaGreatDoorPA
import Derived.Test.YtbhhgbgfaemfdaaGreatDoorPolV
namespace Go.Proofs.YtbhhgbgfaemfdaaGreatDoor
open List renaming mem_append→z2z
def zcs (l o:List Bs):Bool:=l.all fun t=>decide (t∈o)
def zlx (p q:Pol):Bool:=p.attrs.all (fun a=>decide (a∈q.attrs)||decide ((⟨[42],a.name⟩:Alw)∈q.attrs))&&(zcs p.tags q.tags&&zcs p.schemes q.schemes&&zcs p.css q.css&&zcs q.drops p.drops)&&((!p.rel||q.rel)&&decide (p.depth<=q.depth)&&decide (p.name<=q.name)&&decide (p.value<=q.value))
def rawB (p q:Pol):Pol:=⟨p.tags++q.tags,p.schemes++q.schemes,p.css++q.css,p.drops++q.drops,p.attrs++q.attrs,p.forces++q.forces,p.rel||q.rel,max p.depth q.depth,max p.name q.name,max p.value q.value⟩
def zep (p q:Pol):Pol:=zax (rawB p q)
structure Wi (p q:Pol):Prop where
 attrs: ∀a∈p.attrs,a∈q.attrs\/(⟨[42],a.name⟩:Alw)∈q.attrs
 tags: ∀t∈p.tags,t∈q.tags
 schemes: ∀t∈p.schemes,t∈q.schemes
 css: ∀t∈p.css,t∈q.css
 drops: ∀t∈q.drops,t∈p.drops
 rel:p.rel=true->q.rel=true
 depth:p.depth<=q.depth
 name:p.name<=q.name
 value:p.value<=q.value
theorem Wi.refl (p:Pol):Wi p p:=⟨fun _ h=> .inl h,fun _ h=>h,fun _ h=>h,fun _ h=>h,fun _ h=>h,fun h=>h,Int.le_refl _,Int.le_refl _,Int.le_refl _⟩
theorem Wi.trans {p q r:Pol} (h:Wi p q) (k:Wi q r):Wi p r:=by
 refine⟨fun a ha=> ?_,fun t ht=>k.tags t (h.tags t ht),fun t ht=>k.schemes t (h.schemes t ht),fun t ht=>k.css t (h.css t ht),fun t ht=>h.drops t (k.drops t ht),fun e=>k.rel (h.rel e),Int.le_trans h.depth k.depth,Int.le_trans h.name k.name,Int.le_trans h.value k.value⟩
 rcases h.attrs a ha with h1|h1
 ·exact k.attrs a h1
 ·rcases k.attrs _ h1 with h2|h2
  ·exact .inr h2
  ·exact .inr h2
theorem ev_Bq (a b:Bs):ev ltB a b=decide (a=b):=ev_B a b
theorem z1v {l:List Bs} {t:Bs}:t∈zar ltB l↔t∈l:=by
 refine⟨zd1 swoB,fun h=> ?_⟩
 obtain⟨z,hz,he⟩:=zrs swoB h
 rw[ev_B,decide_eq_true_eq]at he
 exact he ▸ hz
theorem zzo {l:List Alw} {a:Alw}:a∈zar ltA l↔a∈l:=by
 refine⟨zd1 swoA,fun h=> ?_⟩
 obtain⟨z,hz,he⟩:=zrs swoA h
 rw[zxk,decide_eq_true_eq]at he
 exact he ▸ hz
def noF (p:Pol):Pol:={p with forces:=[]}
theorem zxz (p q:Pol):noF (zep p q)=noF (zep q p):=by
 have hB: ∀a b:List Bs,zar ltB (a++b)=zar ltB (b++a):=fun a b=>ziq swoB ev_Bq fun x=>by rw[z2z,z2z,Or.comm]
 have hA: ∀a b:List Alw,zar ltA (a++b)=zar ltA (b++a):=fun a b=>ziq swoA zxk fun x=>by rw[z2z,z2z,Or.comm]
 unfold noF zep rawB zax
 simp only[hB p.tags,hB p.schemes,hB p.css,hB p.drops,hA p.attrs,Bool.or_comm p.rel,Int.max_comm p.depth,Int.max_comm p.name,Int.max_comm p.value]
theorem zt6 (p q:Pol):noF (zep (zep p q) q)=noF (zep p q):=by
 have hB: ∀a b:List Bs,zar ltB (zar ltB (a++b)++b)=zar ltB (a++b):=fun a b=>ziq swoB ev_Bq fun x=>by rw[z2z,z1v,z2z];simp
 have hA: ∀a b:List Alw,zar ltA (zar ltA (a++b)++b)=zar ltA (a++b):=fun a b=>ziq swoA zxk fun x=>by rw[z2z,zzo,z2z];simp
 have hm: ∀a b:Int,max (max a b) b=max a b:=fun a b=>by omega
 unfold noF zep rawB zax
 simp only[hB,hA,hm,Bool.or_assoc,Bool.or_self]
end Go.Proofs.YtbhhgbgfaemfdaaGreatDoor

