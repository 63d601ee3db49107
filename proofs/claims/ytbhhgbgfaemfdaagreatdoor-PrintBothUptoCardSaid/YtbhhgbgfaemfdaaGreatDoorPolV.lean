/- Plain: two texts of policies, either way round, and each twice. No program in sight. -/
import Derived.Test.YtbhhgbgfaemfdaaGreatDoorPolU
namespace Go.Proofs.YtbhhgbgfaemfdaaGreatDoor
theorem st_parse {s:Bs} {L:List Lx} {ss:List St} (h8:s.length<=8192) (hl:scanL 0 s= .ok L) (hp:Parsed L ss) (hg: ∀st∈ss,st.good=true):
  ((keysS ss).Nodup->parsePl s=if fitB (neatP (appS ss pol0))then .ok (neatP (appS ss pol0))else .error ⟨s.length,3⟩)/\(¬(keysS ss).Nodup-> ∃a,parsePl s= .error ⟨a,5⟩):=by
 obtain⟨h1,h2⟩:=parsed_run (en:=s.length) hp (p:=pol0) (told:=[]) (by decide) hg
 constructor
 ·intro hn
  obtain⟨t,h3,h4⟩:=h1 ⟨hn,fun _ _ h=>(by cases h)⟩
  unfold parsePl
  rw[if_neg (by omega),hl]
  simp only
  rw[h3]
  simp only
  rw[h4]
 ·intro hn
  obtain⟨a,h3⟩:=h2 (fun h=>hn h.1)
  refine⟨a, ?_⟩
  unfold parsePl
  rw[if_neg (by omega),hl]
  simp only
  rw[h3]
def St.cL (f:Bs):St->List Bs
 | .nm k _ ws=>if k=f then ws else []
 | .sg _ _ _ _=>[]
theorem take_dec {α:Type} [DecidableEq α] (a:α): ∀(l:List α),(l.filter (fun x=>decide (a=x))).take 1=if a∈l then [a]else []
 |[]=>by simp
 |x::l=>by
  by_cases h:a=x
  ·subst h;simp
  ·rw[List.filter_cons_of_neg (by simpa using h),take_dec a l]
   simp[h]
theorem neat_set {α:Type} [DecidableEq α] {lt:α->α->Bool} (H:Swo lt) (he: ∀a b,ev lt a b=decide (a=b)) {l m:List α} (h: ∀x,x∈l↔x∈m):neatL lt l=neatL lt m:=by
 refine neat_same H fun a=> ?_
 have:ev lt a=fun x=>decide (a=x):=funext fun x=>he a x
 rw[this,take_dec,take_dec]
 by_cases ha:a∈l
 ·rw[if_pos ha,if_pos ((h a).1 ha)]
 ·rw[if_neg ha,if_neg (fun h2=>ha ((h a).2 h2))]
theorem ev_alw (a b:Alw):ev ltA a b=decide (a=b):=by
 have:ev ltA a b=ev ltP a.key b.key:=rfl
 rw[this,ev_P,decide_eq_decide]
 cases a;cases b
 simp[Alw.key]
theorem keysS_app (a b:List St):keysS (a++b)=keysS a++keysS b:=List.filterMap_append
end Go.Proofs.YtbhhgbgfaemfdaaGreatDoor

