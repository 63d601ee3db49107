/- Plain: a text that tells words twice and a limit. No program in sight. -/
import Derived.Test.YtbhhgbgfaemfdaaGreatDoorPolV
namespace Go.Proofs.YtbhhgbgfaemfdaaGreatDoor
def z0l (ok:Bs->Prop) (xs:List (Nat × Bs)) (u:Bs):Prop:= ∀r,ok r-> ∀a,∃L:List Lx,L.map Lx.kt=xs/\zdh a (u++r)=match zdh (a+u.length) r with
 | .ok M=> .ok (L++M)
 | .bad n=> .bad n
theorem z0l.then {o p q:Bs->Prop} {xs ys:List (Nat × Bs)} {u v:Bs} (h:z0l o xs u) (g:z0l p ys v) (hv: ∀r,q r->p r/\o (v++r)):z0l q (xs++ys) (u++v):=by
 intro r hr a
 obtain⟨L,h1,h2⟩:=h (v++r) (hv r hr).2 a
 obtain⟨M,g1,g2⟩:=g r (hv r hr).1 (a+u.length)
 refine⟨L++M,by rw[List.map_append,h1,g1], ?_⟩
 rw[List.append_assoc,h2,g2,List.length_append,<-Nat.add_assoc]
 cases zdh (a+u.length+v.length) r with
 |ok N=>simp
 |bad n=>rfl
def sayW:List Bs->Bs
 |[]=>[]
 |w::l=>32::(w++sayW l)
end Go.Proofs.YtbhhgbgfaemfdaaGreatDoor

