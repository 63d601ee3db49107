/- Plain: two policies together; one within another one. No program in sight. -/
import Derived.Test.YtbhhgbgfaemfdaaGreatDoorPA
import Derived.Test.YtbhhgbgfaemfdaaGreatDoorPolV
namespace Go.Proofs.YtbhhgbgfaemfdaaGreatDoor
def amongB (l o:List Bs):Bool:=l.all fun t=>decide (t∈o)
def withinR (p q:Pol):Bool:=p.attrs.all (fun a=>decide (a∈q.attrs)||decide ((⟨[42],a.name⟩:Alw)∈q.attrs))&&(amongB p.tags q.tags&&amongB p.schemes q.schemes&&amongB p.css q.css&&amongB q.drops p.drops)&&((!p.rel||q.rel)&&decide (p.depth<=q.depth)&&decide (p.name<=q.name)&&decide (p.value<=q.value))
def rawB (p q:Pol):Pol:=⟨p.tags++q.tags,p.schemes++q.schemes,p.css++q.css,p.drops++q.drops,p.attrs++q.attrs,p.forces++q.forces,p.rel||q.rel,max p.depth q.depth,max p.name q.name,max p.value q.value⟩
def bothP (p q:Pol):Pol:=neatP (rawB p q)
structure Wi (p q:Pol):Prop where
 attrs: ∀a∈p.attrs,a∈q.attrs\/(⟨[42],a.name⟩:Alw)∈q.attrs
 tags: ∀t∈p.tags,t∈q.tags
 schemes: ∀t∈p.schemes,t∈q.schemes
 css: ∀t∈p.css,t∈q.css
 drops: ∀t∈q.drops,t∈p.drops
 rel:p.rel=true->q.rel=true
 depth:p.depth<=q.depth
 name:p.name<=q.name
 value:p.value<=q.value
theorem within_iff (p q:Pol):withinR p q=true↔Wi p q:=by
 unfold withinR amongB
 simp only[Bool.and_eq_true,List.all_eq_true,decide_eq_true_eq,Bool.or_eq_true,Bool.not_eq_true']
 constructor
 ·rintro⟨⟨h1,⟨⟨h2,h3⟩,h4⟩,h5⟩,⟨⟨h6,h7⟩,h8⟩,h9⟩
  exact⟨h1,h2,h3,h4,h5,fun e=>h6.elim (fun h=>by rw[e]at h;cases h) id,h7,h8,h9⟩
 ·rintro⟨h1,h2,h3,h4,h5,h6,h7,h8,h9⟩
  refine⟨⟨h1,⟨⟨h2,h3⟩,h4⟩,h5⟩,⟨⟨?_,h7⟩,h8⟩,h9⟩
  cases hp:p.rel
  ·exact .inl rfl
  ·exact .inr (h6 hp)
theorem Wi.refl (p:Pol):Wi p p:=⟨fun _ h=> .inl h,fun _ h=>h,fun _ h=>h,fun _ h=>h,fun _ h=>h,fun h=>h,Int.le_refl _,Int.le_refl _,Int.le_refl _⟩
theorem Wi.trans {p q r:Pol} (h:Wi p q) (k:Wi q r):Wi p r:=by
 refine⟨fun a ha=> ?_,fun t ht=>k.tags t (h.tags t ht),fun t ht=>k.schemes t (h.schemes t ht),fun t ht=>k.css t (h.css t ht),fun t ht=>h.drops t (k.drops t ht),fun e=>k.rel (h.rel e),Int.le_trans h.depth k.depth,Int.le_trans h.name k.name,Int.le_trans h.value k.value⟩
 rcases h.attrs a ha with h1|h1
 ·exact k.attrs a h1
 ·rcases k.attrs _ h1 with h2|h2
  ·exact .inr h2
  ·exact .inr h2
theorem within_chain (p q r:Pol):(!withinR p q|| !withinR q r||withinR p r)=true:=by
 cases h1:withinR p q
 ·rfl
 ·cases h2:withinR q r
  ·rfl
  ·rw[(within_iff p r).2 (((within_iff p q).1 h1).trans ((within_iff q r).1 h2))]
   rfl
theorem ev_Bq (a b:Bs):ev ltB a b=decide (a=b):=ev_B a b
theorem neat_in {l:List Bs} {t:Bs}:t∈neatL ltB l↔t∈l:=by
 refine⟨neat_mem swoB,fun h=> ?_⟩
 obtain⟨z,hz,he⟩:=neat_has swoB h
 rw[ev_B,decide_eq_true_eq]at he
 exact he ▸ hz
theorem neat_inA {l:List Alw} {a:Alw}:a∈neatL ltA l↔a∈l:=by
 refine⟨neat_mem swoA,fun h=> ?_⟩
 obtain⟨z,hz,he⟩:=neat_has swoA h
 rw[ev_alw,decide_eq_true_eq]at he
 exact he ▸ hz
theorem within_both (p q:Pol) (h:q.drops=p.drops):withinR p (bothP p q)=true/\withinR q (bothP p q)=true/\withinR p p=true:=by
 refine⟨(within_iff _ _).2 ⟨fun a ha=> .inl (neat_inA.2 (List.mem_append_left _ ha)),fun t ht=>neat_in.2 (List.mem_append_left _ ht),fun t ht=>neat_in.2 (List.mem_append_left _ ht),fun t ht=>neat_in.2 (List.mem_append_left _ ht),fun t ht=> ?_,fun e=> ?_,Int.le_max_left ..,Int.le_max_left ..,Int.le_max_left ..⟩,
  (within_iff _ _).2 ⟨fun a ha=> .inl (neat_inA.2 (List.mem_append_right _ ha)),fun t ht=>neat_in.2 (List.mem_append_right _ ht),fun t ht=>neat_in.2 (List.mem_append_right _ ht),fun t ht=>neat_in.2 (List.mem_append_right _ ht),fun t ht=> ?_,fun e=> ?_,Int.le_max_right ..,Int.le_max_right ..,Int.le_max_right ..⟩,(within_iff _ _).2 (Wi.refl p)⟩
 ·rcases List.mem_append.1 (neat_in.1 ht)with h1|h1
  ·exact h1
  ·exact h ▸ h1
 ·show(p.rel||q.rel)=true
  rw[e];rfl
 ·rcases List.mem_append.1 (neat_in.1 ht)with h1|h1
  ·exact h ▸ h1
  ·exact h1
 ·show(p.rel||q.rel)=true
  rw[e,Bool.or_true]
theorem neat_dup {α:Type} {lt:α->α->Bool} (H:Swo lt) (l:List α):neatL lt (l++l)=neatL lt l:=by
 refine neat_same H fun a=> ?_
 rw[List.filter_append]
 cases l.filter (ev lt a)with
 |nil=>rfl
 |cons x r=>rfl
theorem both_self (p:Pol):bothP p p=neatP p:=by
 unfold bothP rawB neatP
 simp only[neat_dup swoB,neat_dup swoA,neat_dup swoF,Bool.or_self,Int.max_self]
def noF (p:Pol):Pol:={p with forces:=[]}
theorem both_turn (p q:Pol):noF (bothP p q)=noF (bothP q p):=by
 have hB: ∀a b:List Bs,neatL ltB (a++b)=neatL ltB (b++a):=fun a b=>neat_set swoB ev_Bq fun x=>by rw[List.mem_append,List.mem_append,Or.comm]
 have hA: ∀a b:List Alw,neatL ltA (a++b)=neatL ltA (b++a):=fun a b=>neat_set swoA ev_alw fun x=>by rw[List.mem_append,List.mem_append,Or.comm]
 unfold noF bothP rawB neatP
 simp only[hB p.tags,hB p.schemes,hB p.css,hB p.drops,hA p.attrs,Bool.or_comm p.rel,Int.max_comm p.depth,Int.max_comm p.name,Int.max_comm p.value]
theorem both_again (p q:Pol):noF (bothP (bothP p q) q)=noF (bothP p q):=by
 have hB: ∀a b:List Bs,neatL ltB (neatL ltB (a++b)++b)=neatL ltB (a++b):=fun a b=>neat_set swoB ev_Bq fun x=>by rw[List.mem_append,neat_in,List.mem_append];simp
 have hA: ∀a b:List Alw,neatL ltA (neatL ltA (a++b)++b)=neatL ltA (a++b):=fun a b=>neat_set swoA ev_alw fun x=>by rw[List.mem_append,neat_inA,List.mem_append];simp
 have hm: ∀a b:Int,max (max a b) b=max a b:=fun a b=>by omega
 unfold noF bothP rawB neatP
 simp only[hB,hA,hm,Bool.or_assoc,Bool.or_self]
end Go.Proofs.YtbhhgbgfaemfdaaGreatDoor

