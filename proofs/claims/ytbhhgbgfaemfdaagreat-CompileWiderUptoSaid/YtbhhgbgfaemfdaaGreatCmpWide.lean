/- Plain: what one policy allows another one allows that it is within. No program in sight. -/
import Derived.Test.YtbhhgbgfaemfdaaGreatC3
import Derived.Test.YtbhhgbgfaemfdaaGreatPrnPlain
namespace Go.Proofs.YtbhhgbgfaemfdaaGreat
theorem wide_tag {p q:Pol} (h:Wi p q) (s:Bs):tagR p s=true->tagR q s=true:=by
 unfold tagR
 rw[decide_eq_true_eq,decide_eq_true_eq]
 exact h.tags s
theorem wide_attr {p q:Pol} (h:Wi p q) (s t:Bs) (ha:attrR p s t=true):attrR q s t=true:=by
 unfold attrR at ha ⊢
 simp only[Bool.and_eq_true,Bool.or_eq_true,decide_eq_true_eq]at ha ⊢
 refine⟨wide_tag h s ha.1, ?_⟩
 rcases ha.2 with h1|h1
 ·exact h.attrs _ h1
 ·rcases h.attrs _ h1 with h2|h2
  ·exact .inr h2
  ·exact .inr h2
theorem wide_sch {p q:Pol} (h:Wi p q) (s:Bs):schR p s=true->schR q s=true:=by
 unfold schR
 rw[decide_eq_true_eq,decide_eq_true_eq]
 exact h.schemes s
theorem wide_css {p q:Pol} (h:Wi p q) (s:Bs):cssR p s=true->cssR q s=true:=by
 unfold cssR
 rw[decide_eq_true_eq,decide_eq_true_eq]
 exact h.css s
theorem wide_drop {p q:Pol} (h:Wi p q) (s:Bs):dropR q s=true->dropR p s=true:=by
 unfold dropR
 rw[decide_eq_true_eq,decide_eq_true_eq]
 exact h.drops s
theorem imp_or {a b:Bool} (h:a=true->b=true):(!a||b)=true:=by
 cases a
 ·rfl
 ·exact h rfl
theorem wider {p q:Pol} (h:withinR p q=true) (s t:Bs):((!tagR p s||tagR q s)&&((!attrR p s t||attrR q s t)&&((!schR p s||schR q s)&&((!cssR p s||cssR q s)&&((!dropR q s||dropR p s)&&(!p.rel||q.rel))))))=true:=by
 have h:=(within_iff p q).1 h
 rw[imp_or (wide_tag h s),imp_or (wide_attr h s t),imp_or (wide_sch h s),imp_or (wide_css h s),imp_or (wide_drop h s),imp_or h.rel]
 rfl
end Go.Proofs.YtbhhgbgfaemfdaaGreat

