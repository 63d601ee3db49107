/- Plain: a policy's text, the way either prints it. No program in sight. -/
import Derived.Test.YtbhhgbgfaemfdaaGreatDoorPrnPol
namespace Go.Proofs.YtbhhgbgfaemfdaaGreatDoor
theorem zzy (a:Alw) (l:List Alw):grpA (a::l)= .nm zay a.tag (a.name::(l.takeWhile (fun b=>decide (b.tag=a.tag))).map Alw.name)::grpA (l.dropWhile (fun b=>decide (b.tag=a.tag))):=by
 induction l generalizing a with
 |nil=>rfl
 |cons b r ih=>
  have e:grpA (a::b::r)=grpC a (grpA (b::r)):=rfl
  rw[e,ih b,zon]
  by_cases hb:b.tag=a.tag
  ·rw[if_pos hb,List.takeWhile_cons_of_pos (by simpa using hb),List.dropWhile_cons_of_pos (by simpa using hb),hb]
   rfl
  ·rw[if_neg hb,List.takeWhile_cons_of_neg (by simpa using hb),List.dropWhile_cons_of_neg (by simpa using hb),ih b]
   rfl
def zf8:Alw->List Alw->Bs
 |a,[]=>32::(a.name++[59,10])
 |a,b::r=>if b.tag=a.tag then 32::(a.name++zf8 b r)else 32::(a.name++([59,10]++(zay++(32::(b.tag++([58]++zf8 b r))))))
theorem zgo (st:St) (ss:List St):zsj (st::ss)=zwz st++zsj ss:=rfl
theorem zj7: ∀(l:List Alw) (a:Alw),zsj (grpA (a::l))=zay++(32::(a.tag++([58]++zf8 a l)))
 |[],a=>by simp[grpA,grpC,zsj,zwz,sayW,zf8]
 |b::r,a=>by
  have ih:=zj7 r b
  have hg: ∃ws ss,grpA (b::r)= .nm zay b.tag (b.name::ws)::ss:=⟨_,_,zzy b r⟩
  obtain⟨ws,ss,hg⟩:=hg
  have e:grpA (a::b::r)=grpC a (grpA (b::r)):=rfl
  rw[hg,zgo]at ih
  rw[e,hg,zon]
  have e1: ∀(t:Bs) (us:List Bs),zwz (.nm zay t us)=zay++(32::(t++([58]++(sayW us++[59,10])))):=fun t us=>by simp[zwz]
  unfold zf8
  by_cases hb:b.tag=a.tag
  ·rw[if_pos hb,if_pos hb,zgo,e1]
   rw[e1,hb]at ih
   have ih2:sayW (b.name::ws)++([59,10]++zsj ss)=zf8 b r:=by
    simpa using ih
   rw[<-ih2]
   simp[sayW]
  ·rw[if_neg hb,if_neg hb,zgo,zgo,e1,e1]
   rw[e1]at ih
   rw[ih]
   simp[sayW]
end Go.Proofs.YtbhhgbgfaemfdaaGreatDoor

