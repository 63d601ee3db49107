/- Plain: two policies together; one within another one. No program in sight. -/
import Derived.Test.YtbhhgbgfaemfdaaGreatPA
import Derived.Test.YtbhhgbgfaemfdaaGreatPolV
namespace Go.Proofs.YtbhhgbgfaemfdaaGreat
def amongB (l o:List Bs):Bool:=l.all fun t=>decide (t∈o)
def withinR (p q:Pol):Bool:=p.attrs.all (fun a=>decide (a∈q.attrs)||decide ((⟨[42],a.name⟩:Alw)∈q.attrs))&&(amongB p.tags q.tags&&amongB p.schemes q.schemes&&amongB p.css q.css&&amongB q.drops p.drops)&&((!p.rel||q.rel)&&decide (p.depth<=q.depth)&&decide (p.name<=q.name)&&decide (p.value<=q.value))
structure Wi (p q:Pol):Prop where
 attrs: ∀a∈p.attrs,a∈q.attrs\/(⟨[42],a.name⟩:Alw)∈q.attrs
 tags: ∀t∈p.tags,t∈q.tags
 schemes: ∀t∈p.schemes,t∈q.schemes
 css: ∀t∈p.css,t∈q.css
 drops: ∀t∈q.drops,t∈p.drops
 rel:p.rel=true->q.rel=true
 depth:p.depth<=q.depth
 name:p.name<=q.name
 value:p.value<=q.value
theorem within_iff (p q:Pol):withinR p q=true↔Wi p q:=by
 unfold withinR amongB
 simp only[Bool.and_eq_true,List.all_eq_true,decide_eq_true_eq,Bool.or_eq_true,Bool.not_eq_true']
 constructor
 ·rintro⟨⟨h1,⟨⟨h2,h3⟩,h4⟩,h5⟩,⟨⟨h6,h7⟩,h8⟩,h9⟩
  exact⟨h1,h2,h3,h4,h5,fun e=>h6.elim (fun h=>by rw[e]at h;cases h) id,h7,h8,h9⟩
 ·rintro⟨h1,h2,h3,h4,h5,h6,h7,h8,h9⟩
  refine⟨⟨h1,⟨⟨h2,h3⟩,h4⟩,h5⟩,⟨⟨?_,h7⟩,h8⟩,h9⟩
  cases hp:p.rel
  ·exact .inl rfl
  ·exact .inr (h6 hp)
theorem Wi.refl (p:Pol):Wi p p:=⟨fun _ h=> .inl h,fun _ h=>h,fun _ h=>h,fun _ h=>h,fun _ h=>h,fun h=>h,Int.le_refl _,Int.le_refl _,Int.le_refl _⟩
theorem Wi.trans {p q r:Pol} (h:Wi p q) (k:Wi q r):Wi p r:=by
 refine⟨fun a ha=> ?_,fun t ht=>k.tags t (h.tags t ht),fun t ht=>k.schemes t (h.schemes t ht),fun t ht=>k.css t (h.css t ht),fun t ht=>h.drops t (k.drops t ht),fun e=>k.rel (h.rel e),Int.le_trans h.depth k.depth,Int.le_trans h.name k.name,Int.le_trans h.value k.value⟩
 rcases h.attrs a ha with h1|h1
 ·exact k.attrs a h1
 ·rcases k.attrs _ h1 with h2|h2
  ·exact .inr h2
  ·exact .inr h2
end Go.Proofs.YtbhhgbgfaemfdaaGreat

