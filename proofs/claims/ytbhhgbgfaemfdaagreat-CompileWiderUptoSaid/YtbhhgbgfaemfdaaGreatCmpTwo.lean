/- How an argument that is two policies side by side is opened. -/
import Derived.Test.YtbhhgbgfaemfdaaGreatRGW
import Derived.SizedLaws
import Derived.OpenShut
import Derived.Test.YtbhhgbgfaemfdaaGreatRG
namespace Go.Proofs.YtbhhgbgfaemfdaaGreat
set_option maxRecDepth 100000
open Go.ChangeShapes Go.WideShapes Go.Deep Go.RowKit
def TwoV (w:World) (v:Value) (p q:Pol):Prop:= ∃v0 v1 v2 v3 v4 v5 u0 u1 u2 u3 u4 u5,v= .agg #[v0,v1,v2,v3,v4,v5,.bool p.rel,.int .i64 p.depth,.int .i64 p.name,.int .i64 p.value,u0,u1,u2,u3,u4,u5,.bool q.rel,.int .i64 q.depth,.int .i64 q.name,.int .i64 q.value]/\
 PolV w (fun _=>False) (.agg #[v0,v1,v2,v3,v4,v5,.bool p.rel,.int .i64 p.depth,.int .i64 p.name,.int .i64 p.value]) p/\PolV w (fun _=>False) (.agg #[u0,u1,u2,u3,u4,u5,.bool q.rel,.int .i64 q.depth,.int .i64 q.name,.int .i64 q.value]) q
theorem okWide_two {r:Reach} {w:World} {b0:Nat} {v:Value} (hv:Value.okWide Tryz.prog w r b0 51 v): ∃cs,v= .agg cs:=by
 simp only[Value.okWide,Tryz.underlying51]at hv
 obtain⟨cs,h1,_⟩:=hv
 exact⟨cs,h1⟩
section
variable {H:Type} {enc:TypeId × Value->H} {w:World} {base:Nat} {spare:Nat->Bool} {held:Bool}
theorem two_open {fuel:Nat} {cs:List Value} {x:DataW H × List MemPlace} (h:DataW.trod enc Tryz.prog w base spare held fuel 51 cs=some x):
  ∃p q:Pol,TwoV w (.agg cs.toArray) p q/\PolBk p (Rows.uptoBulk x.1)/\PolBk q (Rows.uptoBulk x.1):=by
 have hC:Tryz.prog.cellsOf 51=20:=by kernel_rfl
 have hE:Tryz.prog.cellsOf 40=10:=by kernel_rfl
 obtain⟨xs,m,_,hx,hlc,hl,hi⟩:=DataW.trod_array Tryz.underlying51 h
 have h0:=hi 0 (by omega)
 have h1:=hi 1 (by omega)
 rw[hE]at h0 h1
 have e0:xs[0]? =some (xs[0]'(by omega)):=List.getElem?_eq_getElem (by omega)
 have e1:xs[1]? =some (xs[1]'(by omega)):=List.getElem?_eq_getElem (by omega)
 rw[e0]at h0
 rw[e1]at h1
 obtain⟨p,hp,bp⟩:=pol_open h0
 obtain⟨q,hq,bq⟩:=pol_open h1
 have hb: ∀y∈xs,Rows.uptoBulk y.1<=Rows.uptoBulk x.1:=fun y hm=>by
  rw[hx]
  exact bulks.field_le (List.mem_map.2 ⟨y,hm,rfl⟩)
 refine⟨p,q, ?_,bp.mono (hb _ (List.getElem_mem _)),bq.mono (hb _ (List.getElem_mem _))⟩
 have hp':=hp
 have hq':=hq
 obtain⟨v0,v1,v2,v3,v4,v5,ep,_⟩:=hp
 obtain⟨u0,u1,u2,u3,u4,u5,eq,_⟩:=hq
 have lp:=congrArg (fun v=>match v with|Value.agg c=>c.toList|_=>[]) ep
 have lq:=congrArg (fun v=>match v with|Value.agg c=>c.toList|_=>[]) eq
 simp only at lp lq
 refine⟨v0,v1,v2,v3,v4,v5,u0,u1,u2,u3,u4,u5, ?_,by rw[<-ep];exact hp',by rw[<-eq];exact hq'⟩
 have hcs:cs=(cs.drop (0*10)).take 10++(cs.drop (1*10)).take 10:=by
  rw[Nat.zero_mul,Nat.one_mul,List.drop_zero,List.take_of_length_le (l:=cs.drop 10) (by rw[List.length_drop,hlc,hC];omega)]
  exact(List.take_append_drop 10 cs).symm
 rw[hcs,lp,lq]
 rfl
end
end Go.Proofs.YtbhhgbgfaemfdaaGreat

