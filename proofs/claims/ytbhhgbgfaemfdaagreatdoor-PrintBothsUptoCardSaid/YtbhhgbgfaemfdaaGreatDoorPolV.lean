/- Plain: two texts of policies, either way round, and each twice. No program in sight. -/
import Derived.Test.YtbhhgbgfaemfdaaGreatDoorPolU
namespace Go.Proofs.YtbhhgbgfaemfdaaGreatDoor
def St.cL (f:Bs):St->List Bs
 | .nm k _ ws=>if k=f then ws else []
 | .sg _ _ _ _=>[]
theorem zl0 {α:Type} [DecidableEq α] (a:α): ∀(l:List α),(l.filter (fun x=>decide (a=x))).take 1=if a∈l then [a]else []
 |[]=>by simp
 |x::l=>by
  by_cases h:a=x
  ·subst h;simp
  ·rw[List.filter_cons_of_neg (by simpa using h),zl0 a l]
   simp[h]
theorem ziq {α:Type} [DecidableEq α] {lt:α->α->Bool} (H:Swo lt) (he: ∀a b,ev lt a b=decide (a=b)) {l m:List α} (h: ∀x,x∈l↔x∈m):zar lt l=zar lt m:=by
 refine zwq H fun a=> ?_
 have:ev lt a=fun x=>decide (a=x):=funext fun x=>he a x
 rw[this,zl0,zl0]
 by_cases ha:a∈l
 ·rw[if_pos ha,if_pos ((h a).1 ha)]
 ·rw[if_neg ha,if_neg (fun h2=>ha ((h a).2 h2))]
theorem zxk (a b:Alw):ev ltA a b=decide (a=b):=by
 have:ev ltA a b=ev ltP a.key b.key:=rfl
 rw[this,ev_P,decide_eq_decide]
 cases a;cases b
 simp[Alw.key]
end Go.Proofs.YtbhhgbgfaemfdaaGreatDoor

