/- A region in order, cut: what holds behind its first operations. Over any program. -/
import Derived.Test.YtbhhgbgfaemfdaaGreatKB
namespace Go.Proofs.YtbhhgbgfaemfdaaGreat
open Go.RowKit
def CutQ (R:Act->World->Prop) (Q:Exit->Act->World->Prop) (e:Exit) (a:Act) (w:World):Prop:=(e= .normal/\R a w)\/(e≠ .normal/\Q e a w)
theorem CutQ.here {R:Act->World->Prop} {Q:Exit->Act->World->Prop} {a:Act} {w:World} (h:R a w):CutQ R Q .normal a w:= .inl ⟨rfl,h⟩
theorem wp_mono2 {P:Program} {o:Oper} {a:Act} {w:World} {K K':Act->World->Prop} {Q Q':Exit->Act->World->Prop} (h: ∀a w,K a w->K' a w) (hq: ∀e a w,e≠Exit.normal->Q e a w->Q' e a w)
  (hh:o.wp P a w K Q):o.wp P a w K' Q':=by
 unfold Oper.wp at*
 generalize(execOp a.eval o).run P w=r at*
 cases r with
 |ok n w'=>
  cases n<;>simp only[Oper.upon]at hh ⊢ <;>
   first
    |exact h _ _ hh
    |exact Calls.mono hh (fun e w'' he=>by cases e<;>first|exact h _ _ he|exact hq _ _ _ (fun e=>by cases e) he|(obtain⟨a,w,hl⟩:=he;exact⟨a,w,hq _ _ _ (fun e=>by cases e) hl⟩))
    |exact Rows.mono hh (fun _ _ he=>h _ _ he)
 |halt x w'=>cases x<;>simp only[Oper.upon]at hh ⊢ <;>first|exact hq _ _ _ (fun e=>by cases e) hh|exact hh
theorem wpList_cutR {P:Program} {ops:Array Oper} {Q:Exit->Act->World->Prop} {R:Act->World->Prop}: ∀(n:Nat) (l:List Oper) (a:Act) (w:World),wpList P ops (CutQ R Q) (l.take n) a w->(∀a' w',R a' w'->wpList P ops Q (l.drop n) a' w')->wpList P ops Q l a w
 |0,l,a,w,h,k=>by
  rcases(h:CutQ R Q .normal a w)with⟨_,h⟩|⟨h,_⟩
  ·exact k _ _ h
  ·exact absurd rfl h
 |n+1,[],a,w,h,k=>by
  rcases(h:CutQ R Q .normal a w)with⟨_,h⟩|⟨h,_⟩
  ·exact k _ _ h
  ·exact absurd rfl h
 |n+1,o::r,a,w,h,k=>by
  have hq: ∀e a w,e≠Exit.normal->CutQ R Q e a w->Q e a w:=fun e a w hn h=>by
   rcases h with⟨h,_⟩|⟨_,h⟩
   ·exact absurd h hn
   ·exact h
  rw[List.take_succ_cons]at h
  unfold wpList at h ⊢
  split
  ·next hw=>
   rw[if_pos hw]at h
   rcases h with h|⟨h1,a2,w2,h2⟩
   ·exact .inl (wp_mono2 (fun a w hk=>wpList_cutR n r a w hk k) hq h)
   ·exact .inr ⟨h1,a2,w2,hq _ _ _ (fun e=>by cases e) h2⟩
  ·next hw=>
   rw[if_neg hw]at h
   exact wpList_cutR n r _ _ h k
theorem wpList_cut {P:Program} {ops:Array Oper} {Q:Exit->Act->World->Prop} {l:List Oper} {a:Act} {w:World} (n:Nat) (R:Act->Act->World->Prop) (h1:wpList P ops (CutQ (R a) Q) (l.take n) a w)
  (h2: ∀a' w',R a a' w'->wpList P ops Q (l.drop n) a' w'):wpList P ops Q l a w:=wpList_cutR n l a w h1 h2
end Go.Proofs.YtbhhgbgfaemfdaaGreat

