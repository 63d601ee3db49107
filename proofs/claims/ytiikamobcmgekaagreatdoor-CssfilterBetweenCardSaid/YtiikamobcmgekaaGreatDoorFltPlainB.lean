/- Plain: what is not allowed, put between two styles. No program in sight. -/
import Derived.Test.YtiikamobcmgekaaGreatDoorJDecPlain
import Derived.Test.YtiikamobcmgekaaGreatDoorC3
import Derived.Test.YtiikamobcmgekaaGreatDoorJTB
namespace Go.Proofs.YtiikamobcmgekaaGreatDoor
def fnC (t:Bs):Css:=⟨2,t,0,[]⟩
def nuC (n:Int) (u:Bs):Css:=⟨3,[],n*1000,u⟩
def moveT:Bs:=[116,114,97,110,115,108,97,116,101]
def turnT:Bs:=[114,111,116,97,116,101]
def scaleT:Bs:=[115,99,97,108,101]
def flipT:Bs:=[115,99,97,108,101,121]
def pxT:Bs:=[112,120]
def degT:Bs:=[100,101,103]
def noneC:Css:=⟨1,[110,111,110,101],0,[]⟩
def transT:Bs:=[116,114,97,110,115,102,111,114,109]
def toldT (s:St):List Css:=
 if s.k=1 then [fnC moveT,nuC s.x pxT,mark1 44,nuC s.y pxT,mark1 41]
 else if s.k=2 then [fnC turnT,nuC (90*s.x) degT,mark1 41]
 else if s.k=3 then [fnC scaleT,nuC s.x [],mark1 41]
 else [fnC flipT,nuC (-1) [],mark1 41]
def atI (l:List Css) (i:Nat):Int:=match l[i]? with
 |some x=>x.num.tdiv 1000
 |none=>0
def guessT (l:List Css):St:=match l with
 |[]=>⟨4,0,0⟩
 |x::_=>if x.text=moveT then⟨1,atI l 1,atI l 3⟩else if x.text=turnT then⟨2,(atI l 1).tdiv 90,0⟩else if x.text=scaleT then⟨3,atI l 1,0⟩else⟨4,0,0⟩
def fitT (l:List Css):Bool:=decide (l.take (toldT (guessT l)).length=toldT (guessT l))
def restT (l:List Css):List Css:=l.drop (toldT (guessT l)).length
def handT:Nat->List Css->List (St × Bool)
 |0,_=>[]
 |_+1,[]=>[]
 |f+1,x::l=>if fitT (x::l)then(guessT (x::l),true)::handT f (restT (x::l))else [(guessT (x::l),false)]
def parseT:Nat->List Css->Option (List St)
 |_,[]=>some []
 |0,_=>none
 |f+1,x::l=>if fitT (x::l)then(parseT f (restT (x::l))).map (guessT (x::l):: ·)else none
def stepsT (l:List Css):Option (List St):=match parseT l.length l with
 |some ss=>if rightB ss then some ss else none
 |none=>none
def piecesT (l:List St):List Css:=l.flatMap toldT
theorem told_len3 (s:St):3<=(toldT s).length/\(toldT s).length<=5:=by
 unfold toldT
 split
 ·simp
 ·split
  ·simp
  ·split<;>simp
theorem told_ne (s:St):toldT s≠[]:=fun h=>by have:=(told_len3 s).1;rw[h]at this;simp at this
theorem rest_len (x:Css) (l:List Css):(restT (x::l)).length<=l.length:=by
 unfold restT
 rw[List.length_drop,List.length_cons]
 have:=(told_len3 (guessT (x::l))).1
 omega
theorem hand_fuel: ∀(f g:Nat) (l:List Css),l.length<=f->l.length<=g->handT f l=handT g l
 |0,0,[],_,_=>rfl
 |0,g+1,[],_,_=>rfl
 |f+1,0,[],_,_=>rfl
 |f+1,g+1,[],_,_=>rfl
 |f+1,g+1,x::l,h1,h2=>by
  have:=rest_len x l
  simp only[List.length_cons]at h1 h2
  simp only[handT]
  rw[hand_fuel f g (restT (x::l)) (by omega) (by omega)]
 |0,_,_::_,h1,_=>by simp at h1
 |_+1,0,_::_,_,h2=>by simp at h2
theorem hand_parse: ∀(f:Nat) (l:List Css),l.length<=f->parseT f l=if(handT f l).all (·.2)then some ((handT f l).map (·.1))else none
 |0,[],_=>rfl
 |f+1,[],_=>rfl
 |0,_::_,h=>by simp at h
 |f+1,x::l,h=>by
  have h1:=rest_len x l
  simp only[List.length_cons]at h
  have ih:=hand_parse f (restT (x::l)) (by omega)
  cases hf:fitT (x::l)
  ·have e1:handT (f+1) (x::l)=[(guessT (x::l),false)]:=by simp[handT,hf]
   have e2:parseT (f+1) (x::l)=none:=by simp[parseT,hf]
   rw[e1,e2];rfl
  ·have e1:handT (f+1) (x::l)=(guessT (x::l),true)::handT f (restT (x::l)):=by simp[handT,hf]
   have e2:parseT (f+1) (x::l)=(parseT f (restT (x::l))).map (guessT (x::l):: ·):=by simp[parseT,hf]
   rw[e1,e2,ih]
   simp only[List.all_cons,Bool.true_and,List.map_cons]
   split<;>simp
theorem tdiv_mul (n k:Int) (hk:0<k):(n*k).tdiv k=n:=Int.mul_tdiv_cancel n (by omega)
theorem guess_told {s:St} (h:mayB s=true) (r:List Css):guessT (toldT s++r)=s:=by
 obtain⟨k,x,y⟩:=s
 unfold mayB at h
 simp only at h
 by_cases h1:k=1
 ·subst h1
  simp only[toldT,if_true,List.cons_append,guessT,fnC]
  simp only[atI,List.getElem?_cons_succ,List.getElem?_cons_zero,nuC]
  rw[tdiv_mul _ _ (by omega),tdiv_mul _ _ (by omega)]
 ·rw[if_neg h1]at h
  by_cases h2:k=2
  ·subst h2
   rw[if_pos rfl]at h
   simp only[Bool.and_eq_true,decide_eq_true_eq]at h
   obtain⟨_,rfl⟩:=h
   have e:turnT≠moveT:=by decide
   simp only[toldT,if_neg h1,if_true,List.cons_append,guessT,fnC]
   rw[if_neg e]
   simp only[atI,List.getElem?_cons_succ,List.getElem?_cons_zero,nuC]
   rw[tdiv_mul _ _ (by omega),Int.mul_comm,tdiv_mul _ _ (by omega)]
  ·rw[if_neg h2]at h
   by_cases h3:k=3
   ·subst h3
    rw[if_pos rfl]at h
    simp only[Bool.and_eq_true,decide_eq_true_eq]at h
    obtain⟨_,rfl⟩:=h
    have e:scaleT≠moveT:=by decide
    have e2:scaleT≠turnT:=by decide
    simp only[toldT,if_neg h1,if_neg h2,if_true,List.cons_append,guessT,fnC]
    rw[if_neg e,if_neg e2]
    simp only[atI,List.getElem?_cons_succ,List.getElem?_cons_zero,nuC]
    rw[tdiv_mul _ _ (by omega)]
   ·rw[if_neg h3]at h
    by_cases h4:k=4
    ·subst h4
     rw[if_pos rfl]at h
     simp only[Bool.and_eq_true,decide_eq_true_eq]at h
     obtain⟨rfl,rfl⟩:=h
     have e:flipT≠moveT:=by decide
     have e2:flipT≠turnT:=by decide
     have e3:flipT≠scaleT:=by decide
     simp only[toldT,if_neg h1,if_neg h2,if_neg h3,List.cons_append,guessT,fnC]
     rw[if_neg e,if_neg e2,if_neg e3]
    ·rw[if_neg h4]at h;cases h
theorem fit_told {s:St} (h:mayB s=true) (r:List Css):fitT (toldT s++r)=true/\restT (toldT s++r)=r:=by
 have hg:=guess_told h r
 unfold fitT restT
 rw[hg]
 exact⟨by simp,by simp⟩
theorem pieces_parse: ∀(ss:List St),(∀s∈ss,mayB s=true)-> ∀f,(piecesT ss).length<=f->parseT f (piecesT ss)=some ss
 |[],_,f,_=>by cases f<;>rfl
 |s::ss,h,f,hf=>by
  obtain⟨h1,h2⟩:=fit_told (h s (List.mem_cons_self ..)) (piecesT ss)
  have hg:=guess_told (h s (List.mem_cons_self ..)) (piecesT ss)
  have e:piecesT (s::ss)=toldT s++piecesT ss:=rfl
  rw[e]at hf ⊢
  rw[List.length_append]at hf
  have h3:=(told_len3 s).1
  obtain⟨g,rfl⟩: ∃g,f=g+1:=⟨f-1,by omega⟩
  have ih:=pieces_parse ss (fun t ht=>h t (List.mem_cons_of_mem _ ht)) g (by omega)
  cases ht:toldT s with
  |nil=>exact absurd ht (told_ne s)
  |cons x l=>
   rw[ht,List.cons_append]at h1 h2 hg
   rw[List.cons_append,parseT,h1,if_pos rfl,h2,ih,hg];rfl
theorem right_may {ss:List St} (h:rightB ss=true):(∀s∈ss,mayB s=true)/\ss.length<=8:=by
 simp only[rightB,Bool.and_eq_true,List.all_eq_true,decide_eq_true_eq]at h
 exact h
theorem steps_pieces {ss:List St} (h:rightB ss=true):stepsT (piecesT ss)=some ss:=by
 unfold stepsT
 rw[pieces_parse ss (right_may h).1 _ (Nat.le_refl _)]
 simp[h]
def unitB (u:Bs):Bool:=decide (u=[]\/u=[37]\/u=pxT\/u=[101,109]\/u=[114,101,109]\/u=[112,116]\/u=[118,104]\/u=[118,119]\/u=degT\/u=[115]\/u=[109,115])
def hexB (c:UInt8):Bool:=digB c||decide (65<=c.toNat/\c.toNat<=70\/97<=c.toNat/\c.toNat<=102)
def hashB (t:Bs):Bool:=decide (t.length=3\/t.length=4\/t.length=6\/t.length=8)&&t.all hexB
def plain0 (x:Css):Bool:=
 if x.kind=1\/x.kind=5 then true else if x.kind=3 then unitB x.unit else if x.kind=4 then hashB x.text else if x.kind=6 then decide (x.text=[44]\/x.text=[47])else false
def plainC (x:Css):Bool:=plain0 x&&rightC x
def rgbT:Bs:=[114,103,98]
def rgbaT:Bs:=[114,103,98,97]
def hslT:Bs:=[104,115,108]
def hslaT:Bs:=[104,115,108,97]
def colourC (x:Css):Bool:=decide (x=fnC rgbT\/x=fnC rgbaT\/x=fnC hslT\/x=fnC hslaT)
def valF:Bool->List Css->Bool
 |o,[]=> !o
 |o,x::l=>if plainC x then valF o l else if !o&&colourC x then valF true l else if o&&decide (x=mark1 41)then valF false l else false
def movesT (l:List Css):Option (List Css):=if l=[noneC]then some [noneC]else match stepsT l with
 |none=>none
 |some ss=>if neatE ss=0 then(if neatOf ss=[]then some [noneC]else some (piecesT (neatOf ss)))else none
def valueT (name:Bs) (l:List Css):Option (List Css):=if l=[]then none else if name=transT then movesT l else if valF false l then some l else none
theorem none_right:rightC noneC=true:=by decide+kernel
theorem fn_right (t:Bs) (h:t=moveT\/t=turnT\/t=scaleT\/t=flipT\/t=rgbT\/t=rgbaT\/t=hslT\/t=hslaT):rightC (fnC t)=true:=by
 rcases h with rfl|rfl|rfl|rfl|rfl|rfl|rfl|rfl<;>decide+kernel
theorem mk_right (k:UInt8) (h:k=44\/k=41):rightC (mark1 k)=true:=by
 rcases h with rfl|rfl<;>decide+kernel
theorem nu_right (n:Int) (u:Bs) (hn:n.natAbs<=999999) (hu:u=pxT\/u=degT\/u=[]):rightC (nuC n u)=true:=by
 have hU:UnitOk u:=by
  rcases hu with rfl|rfl|rfl
  ·exact .inr (.inr ⟨112,[120],rfl,by decide,by decide,by decide,by decide⟩)
  ·exact .inr (.inr ⟨100,[101,103],rfl,by decide,by decide,by decide,by decide⟩)
  ·exact .inl rfl
 have h9:(n*1000).natAbs<=999999999:=by omega
 have e:toldC (nuC n u)=figuresL (n*1000)++u:=rfl
 refine right_of ?_ ?_ (by simp[nuC])
 ·rw[e];exact(fig_head (n*1000) u).2.2.2.1
 ·rw[e];exact num_scan (n*1000) u h9 hU
theorem near_abs {n:Int} {k:Int} (h:nearB n k=true):n.natAbs<=k.toNat:=by
 have:=nearB_iff.1 h;omega
theorem told_right {s:St} (h:mayB s=true): ∀x∈toldT s,rightC x=true:=by
 obtain⟨k,a,b⟩:=s
 unfold mayB at h
 simp only at h
 intro x hx
 unfold toldT at hx
 simp only at hx
 split at h
 ·rename_i h1
  rw[if_pos h1]at hx
  simp only[Bool.and_eq_true]at h
  have ha:=near_abs h.1
  have hb:=near_abs h.2
  simp only[List.mem_cons,List.not_mem_nil,or_false]at hx
  rcases hx with rfl|rfl|rfl|rfl|rfl
  ·exact fn_right _ (.inl rfl)
  ·exact nu_right _ _ (by omega) (.inl rfl)
  ·exact mk_right _ (.inl rfl)
  ·exact nu_right _ _ (by omega) (.inl rfl)
  ·exact mk_right _ (.inr rfl)
 ·rename_i h1
  rw[if_neg h1]at hx
  split at h
  ·rename_i h2
   rw[if_pos h2]at hx
   simp only[Bool.and_eq_true]at h
   have ha:=near_abs h.1
   simp only[List.mem_cons,List.not_mem_nil,or_false]at hx
   rcases hx with rfl|rfl|rfl
   ·exact fn_right _ (.inr (.inl rfl))
   ·exact nu_right _ _ (by omega) (.inr (.inl rfl))
   ·exact mk_right _ (.inr rfl)
  ·rename_i h2
   rw[if_neg h2]at hx
   split at h
   ·rename_i h3
    rw[if_pos h3]at hx
    simp only[Bool.and_eq_true,decide_eq_true_eq]at h
    simp only[List.mem_cons,List.not_mem_nil,or_false]at hx
    rcases hx with rfl|rfl|rfl
    ·exact fn_right _ (.inr (.inr (.inl rfl)))
    ·exact nu_right _ _ (by omega) (.inr (.inr rfl))
    ·exact mk_right _ (.inr rfl)
   ·rename_i h3
    rw[if_neg h3]at hx
    simp only[List.mem_cons,List.not_mem_nil,or_false]at hx
    rcases hx with rfl|rfl|rfl
    ·exact fn_right _ (.inr (.inr (.inr (.inl rfl))))
    ·exact nu_right _ _ (by omega) (.inr (.inr rfl))
    ·exact mk_right _ (.inr rfl)
def saneC (x:Css):Prop:=x.kind≠7/\(x.kind=2->x.text≠[117,114,108]/\x.text≠[101,120,112,114,101,115,115,105,111,110])
theorem told_sane (s:St): ∀x∈toldT s,saneC x:=by
 intro x hx
 unfold toldT at hx
 have f: ∀t,t=moveT\/t=turnT\/t=scaleT\/t=flipT->saneC (fnC t):=by
  intro t h
  refine⟨by simp[fnC],fun _=> ?_⟩
  rcases h with rfl|rfl|rfl|rfl<;>exact⟨by decide,by decide⟩
 have n: ∀a u,saneC (nuC a u):=fun a u=>⟨by simp[nuC],by simp[nuC]⟩
 have m: ∀k,saneC (mark1 k):=fun k=>⟨by simp[mark1],by simp[mark1]⟩
 split at hx
 ·simp only[List.mem_cons,List.not_mem_nil,or_false]at hx
  rcases hx with rfl|rfl|rfl|rfl|rfl
  ·exact f _ (.inl rfl)
  ·exact n _ _
  ·exact m _
  ·exact n _ _
  ·exact m _
 ·split at hx
  ·simp only[List.mem_cons,List.not_mem_nil,or_false]at hx
   rcases hx with rfl|rfl|rfl
   ·exact f _ (.inr (.inl rfl))
   ·exact n _ _
   ·exact m _
  ·split at hx
   ·simp only[List.mem_cons,List.not_mem_nil,or_false]at hx
    rcases hx with rfl|rfl|rfl
    ·exact f _ (.inr (.inr (.inl rfl)))
    ·exact n _ _
    ·exact m _
   ·simp only[List.mem_cons,List.not_mem_nil,or_false]at hx
    rcases hx with rfl|rfl|rfl
    ·exact f _ (.inr (.inr (.inr rfl)))
    ·exact n _ _
    ·exact m _
theorem plain_sane {x:Css} (h:plainC x=true):saneC x/\rightC x=true/\x.kind≠2:=by
 simp only[plainC,Bool.and_eq_true]at h
 obtain⟨h1,h2⟩:=h
 unfold plain0 at h1
 have h3:x.kind≠7/\x.kind≠2:=by
  split at h1
  ·omega
  ·split at h1
   ·omega
   ·split at h1
    ·omega
    ·split at h1
     ·omega
     ·cases h1
 exact⟨⟨h3.1,fun h=>absurd h h3.2⟩,h2,h3.2⟩
theorem colour_sane {x:Css} (h:colourC x=true):saneC x/\rightC x=true:=by
 simp only[colourC,decide_eq_true_eq]at h
 rcases h with rfl|rfl|rfl|rfl
 ·exact⟨⟨by decide,fun _=>⟨by decide,by decide⟩⟩,fn_right _ (by simp)⟩
 ·exact⟨⟨by decide,fun _=>⟨by decide,by decide⟩⟩,fn_right _ (by simp)⟩
 ·exact⟨⟨by decide,fun _=>⟨by decide,by decide⟩⟩,fn_right _ (by simp)⟩
 ·exact⟨⟨by decide,fun _=>⟨by decide,by decide⟩⟩,fn_right _ (by simp)⟩
theorem val_sane: ∀(l:List Css) (o:Bool),valF o l=true-> ∀x∈l,saneC x/\rightC x=true
 |[],_,_,x,hx=>by cases hx
 |y::l,o,h,x,hx=>by
  simp only[valF]at h
  rcases List.mem_cons.1 hx with rfl|hx
  ·split at h
   ·rename_i h1;exact⟨(plain_sane h1).1,(plain_sane h1).2.1⟩
   ·split at h
    ·rename_i h2;simp only[Bool.and_eq_true]at h2;exact colour_sane h2.2
    ·split at h
     ·rename_i h3
      simp only[Bool.and_eq_true,decide_eq_true_eq]at h3
      rw[h3.2]
      exact⟨⟨by decide,fun h=>absurd h (by decide)⟩,mk_right _ (.inr rfl)⟩
     ·cases h
  ·split at h
   ·exact val_sane l _ h x hx
   ·split at h
    ·exact val_sane l _ h x hx
    ·split at h
     ·exact val_sane l _ h x hx
     ·cases h
theorem pieces_first {ss:List St} (h:ss≠[]): ∃t r,piecesT ss=fnC t::r:=by
 cases ss with
 |nil=>exact absurd rfl h
 |cons s ss=>
  show ∃t r,toldT s++piecesT ss=fnC t::r
  unfold toldT
  split
  ·exact⟨_,_,rfl⟩
  ·split
   ·exact⟨_,_,rfl⟩
   ·split
    ·exact⟨_,_,rfl⟩
    ·exact⟨_,_,rfl⟩
theorem pieces_none {ss:List St}:piecesT ss≠[noneC]:=by
 intro h
 cases ss with
 |nil=>cases h
 |cons s ss=>
  obtain⟨t,r,hr⟩:=pieces_first (ss:=s::ss) (by simp)
  rw[hr]at h
  have:=(List.cons.inj h).1
  have:=congrArg Css.kind this
  simp[fnC,noneC]at this
theorem moves_again {l a:List Css} (h:movesT l=some a):movesT a=some a/\a≠[]/\(∀x∈a,saneC x/\rightC x=true):=by
 have hn:movesT [noneC]=some [noneC]/\[noneC]≠[]/\(∀x∈[noneC],saneC x/\rightC x=true):=by
  refine⟨by simp[movesT],by simp,fun x hx=> ?_⟩
  rw[List.mem_singleton]at hx
  subst hx
  exact⟨⟨by decide,fun h=>absurd h (by decide)⟩,none_right⟩
 unfold movesT at h
 split at h
 ·cases h;exact hn
 ·split at h
  ·cases h
  ·rename_i ss hss
   split at h
   ·rename_i he
    split at h
    ·cases h;exact hn
    ·rename_i hne
     cases h
     obtain⟨n1,n2,n3,n4,n5⟩:=neat_law ss he
     refine⟨?_, ?_,fun x hx=> ?_⟩
     ·unfold movesT
      rw[if_neg pieces_none,steps_pieces n1]
      simp only[n3,n4,if_true,if_neg hne]
     ·obtain⟨t,r,hr⟩:=pieces_first hne
      rw[hr];simp
     ·obtain⟨s,hs,hx⟩:=List.mem_flatMap.1 hx
      exact⟨told_sane s x hx,told_right ((right_may n1).1 s hs) x hx⟩
   ·cases h
theorem value_stays {name:Bs} {l a:List Css} (h:valueT name l=some a):valueT name a=some a/\a≠[]/\(∀x∈a,saneC x/\rightC x=true):=by
 unfold valueT at h
 split at h
 ·cases h
 ·rename_i h0
  split at h
  ·rename_i h1
   obtain⟨m1,m2,m3⟩:=moves_again h
   exact⟨by unfold valueT;rw[if_neg m2,if_pos h1];exact m1,m2,m3⟩
  ·rename_i h1
   split at h
   ·rename_i h2
    cases h
    exact⟨by unfold valueT;rw[if_neg h0,if_neg h1,if_pos h2],h0,val_sane _ _ h2⟩
   ·cases h
def keyD (d e:Dcl):Bool:=decide (e.name=d.name)&&(e.imp==d.imp)
def keepD (P:Pol) (d:Dcl):Option Dcl:=match valueT d.name d.value with
 |some v=>if cssR P d.name=true then some ⟨d.name,v,d.imp⟩else none
 |none=>none
def allD (P:Pol) (l:List Dcl):List Dcl:=l.filterMap (keepD P)
def lastD:List Dcl->List Dcl
 |[]=>[]
 |d::r=>if r.any (keyD d)=true then lastD r else d::lastD r
def fltD (P:Pol) (s:Bs):List Dcl:=lastD (allD P (declsL (cssL s)))
theorem dn_plain {x:Css} (h:x.kind≠2) (h1:mk1 40 x=false) (h2:mk1 41 x=false) (d:Nat):dn d x=d:=by
 unfold dn opC
 rw[h1,h2]
 simp[h]
theorem mk_kind {k:UInt8} {x:Css} (h:x.kind≠6):mk1 k x=false:=by
 unfold mk1
 simp[h]
theorem plain_even {x:Css} (h:plainC x=true):x.kind≠2/\mk1 40 x=false/\mk1 41 x=false/\okC x=true:=by
 have hs:=plain_sane h
 simp only[plainC,Bool.and_eq_true]at h
 have h1:=h.1
 unfold plain0 at h1
 have key:x.kind=6->x.text=[44]\/x.text=[47]:=fun h6=>by
  rw[if_neg (by omega),if_neg (by omega),if_neg (by omega),if_pos h6]at h1
  simpa using h1
 have hm: ∀k:UInt8,k≠44->k≠47->mk1 k x=false:=fun k a b=>by
  by_cases h6:x.kind=6
  ·unfold mk1
   rcases key h6 with hk|hk
   ·rw[hk];simp[Ne.symm a]
   ·rw[hk];simp[Ne.symm b]
  ·exact mk_kind h6
 refine⟨hs.2.2,hm 40 (by decide) (by decide),hm 41 (by decide) (by decide), ?_⟩
 unfold okC
 rw[hm 59 (by decide) (by decide),hm 33 (by decide) (by decide)]
 simp[hs.1.1]
theorem fn_dn (t:Bs) (d:Nat):dn d (fnC t)=d+1:=by
 unfold dn opC fnC
 simp
theorem fn_ok (t:Bs):okC (fnC t)=true/\mk1 41 (fnC t)=false:=by
 unfold okC mk1 fnC
 simp
theorem nu_ok (n:Int) (u:Bs):okC (nuC n u)=true/\mk1 41 (nuC n u)=false/\ ∀d,dn d (nuC n u)=d:=by
 refine⟨by unfold okC mk1 nuC;simp,mk_kind (by unfold nuC;simp),fun d=>dn_plain (by unfold nuC;simp) (mk_kind (by unfold nuC;simp)) (mk_kind (by unfold nuC;simp)) d⟩
theorem colour_fn {x:Css} (h:colourC x=true): ∃t,x=fnC t:=by
 simp only[colourC,decide_eq_true_eq]at h
 rcases h with rfl|rfl|rfl|rfl<;>exact⟨_,rfl⟩
theorem val_even: ∀(l:List Css) (o:Bool),valF o l=true->evenF (if o then 1 else 0) l=true/\ ∀x∈l,okC x=true
 |[],o,h=>by
  simp only[valF]at h
  cases o
  ·exact⟨rfl,fun x hx=>by cases hx⟩
  ·cases h
 |y::l,o,h=>by
  simp only[valF]at h
  split at h
  ·rename_i h1
   obtain⟨a,b,c,d⟩:=plain_even h1
   obtain⟨e,f⟩:=val_even l o h
   refine⟨?_,fun x hx=> ?_⟩
   ·simp only[evenF]
    rw[c,dn_plain a b c]
    simpa using e
   ·rcases List.mem_cons.1 hx with rfl|hx
    ·exact d
    ·exact f x hx
  ·split at h
   ·rename_i h2
    simp only[Bool.and_eq_true,Bool.not_eq_true']at h2
    obtain⟨t,rfl⟩:=colour_fn h2.2
    obtain⟨e,f⟩:=val_even l true h
    rw[h2.1]
    refine⟨?_,fun x hx=> ?_⟩
    ·simp only[evenF]
     rw[(fn_ok t).2,fn_dn]
     simpa using e
    ·rcases List.mem_cons.1 hx with rfl|hx
     ·exact(fn_ok t).1
     ·exact f x hx
   ·split at h
    ·rename_i h3
     simp only[Bool.and_eq_true,decide_eq_true_eq]at h3
     obtain⟨e,f⟩:=val_even l false h
     rw[h3.1,h3.2]
     refine⟨?_,fun x hx=> ?_⟩
     ·simp only[evenF]
      have h4:mk1 41 (mark1 41)=true:=by decide
      have h5:dn 1 (mark1 41)=0:=by decide
      simpa[h4,h5]using e
     ·rcases List.mem_cons.1 hx with rfl|hx
      ·decide
      ·exact f x hx
    ·cases h
theorem mark_even {k:UInt8} (hk:k=44):okC (mark1 k)=true/\mk1 41 (mark1 k)=false/\ ∀d,dn d (mark1 k)=d:=by
 subst hk
 exact⟨by decide,by decide,fun d=>dn_plain (by decide) (by decide) (by decide) d⟩
theorem close_even (d:Nat):mk1 41 (mark1 41)=true/\dn (d+1) (mark1 41)=d/\okC (mark1 41)=true:=by
 refine⟨by decide, ?_,by decide⟩
 unfold dn
 have h1:opC (mark1 41)=false:=by decide
 have h2:mk1 41 (mark1 41)=true:=by decide
 rw[h1,h2]
 simp
theorem told_even (s:St) (r:List Css):evenF 0 (toldT s++r)=evenF 0 r/\ ∀x∈toldT s,okC x=true:=by
 have c1:=(close_even 0).1
 have c2:=(close_even 0).2.1
 have m1:=(mark_even (k:=44) rfl).2.1
 have m2:=(mark_even (k:=44) rfl).2.2
 have key: ∀(t:Bs) (n:Int) (u:Bs),evenF 0 ([fnC t,nuC n u,mark1 41]++r)=evenF 0 r:=fun t n u=>by
  simp only[List.cons_append,List.nil_append,evenF]
  rw[(fn_ok t).2,fn_dn,(nu_ok n u).2.1,(nu_ok n u).2.2,c1,c2]
  simp
 have okey: ∀(t:Bs) (n:Int) (u:Bs),∀x∈[fnC t,nuC n u,mark1 41],okC x=true:=fun t n u x hx=>by
  simp only[List.mem_cons,List.not_mem_nil,or_false]at hx
  rcases hx with rfl|rfl|rfl
  ·exact(fn_ok t).1
  ·exact(nu_ok n u).1
  ·decide
 unfold toldT
 split
 ·refine⟨?_,fun x hx=> ?_⟩
  ·simp only[List.cons_append,List.nil_append,evenF]
   rw[(fn_ok moveT).2,fn_dn,(nu_ok s.x pxT).2.1,(nu_ok s.x pxT).2.2,m1,m2,(nu_ok s.y pxT).2.1,(nu_ok s.y pxT).2.2,c1,c2]
   simp
  ·simp only[List.mem_cons,List.not_mem_nil,or_false]at hx
   rcases hx with rfl|rfl|rfl|rfl|rfl
   ·exact(fn_ok _).1
   ·exact(nu_ok _ _).1
   ·decide
   ·exact(nu_ok _ _).1
   ·decide
 ·split
  ·exact⟨key _ _ _,okey _ _ _⟩
  ·split
   ·exact⟨key _ _ _,okey _ _ _⟩
   ·exact⟨key _ _ _,okey _ _ _⟩
theorem pieces_even: ∀ss:List St,evenF 0 (piecesT ss)=true/\ ∀x∈piecesT ss,okC x=true
 |[]=>⟨rfl,fun x hx=>by cases hx⟩
 |s::r=>by
  obtain⟨h1,h2⟩:=pieces_even r
  have h3:=told_even s (piecesT r)
  have h4:piecesT (s::r)=toldT s++piecesT r:=List.flatMap_cons
  rw[h4,h3.1]
  refine⟨h1,fun x hx=> ?_⟩
  rcases List.mem_append.1 hx with hx|hx
  ·exact h3.2 x hx
  ·exact h2 x hx
theorem none_even:evenF 0 [noneC]=true/\ ∀x∈[noneC],okC x=true:=by
 refine⟨by decide,fun x hx=> ?_⟩
 rw[List.mem_singleton]at hx
 subst hx
 decide
theorem moves_even {l a:List Css} (h:movesT l=some a):evenF 0 a=true/\ ∀x∈a,okC x=true:=by
 unfold movesT at h
 split at h
 ·cases h;exact none_even
 ·split at h
  ·cases h
  ·split at h
   ·split at h
    ·cases h;exact none_even
    ·cases h;exact pieces_even _
   ·cases h
theorem value_even {name:Bs} {l a:List Css} (h:valueT name l=some a):mayC a=true:=by
 obtain⟨_,hne,_⟩:=value_stays h
 have key:evenF 0 a=true/\ ∀x∈a,okC x=true:=by
  unfold valueT at h
  split at h
  ·cases h
  ·split at h
   ·exact moves_even h
   ·split at h
    ·next hv=>cases h;exact val_even _ false hv
    ·cases h
 unfold mayC
 rw[key.1,List.all_eq_true.2 key.2]
 cases a with
 |nil=>exact absurd rfl hne
 |cons x r=>rfl
theorem keep_some {P:Pol} {d e:Dcl} (h:keepD P d=some e):e.name=d.name/\e.imp=d.imp/\cssR P d.name=true/\valueT d.name d.value=some e.value:=by
 unfold keepD at h
 split at h
 ·next v hv=>
  split at h
  ·next hp=>cases h;exact⟨rfl,rfl,hp,hv⟩
  ·cases h
 ·cases h
structure Kept (P:Pol) (e:Dcl):Prop where
 css:cssR P e.name=true
 val:valueT e.name e.value=some e.value
 right:rightD e=true
theorem keep_kept {P:Pol} {d e:Dcl} (hd:rightD d=true) (h:keepD P d=some e):Kept P e:=by
 obtain⟨h1,h2,h3,h4⟩:=keep_some h
 obtain⟨h5,_,h7⟩:=value_stays h4
 refine⟨by rw[h1];exact h3,by rw[h1];exact h5, ?_⟩
 unfold rightD at hd ⊢
 simp only[Bool.and_eq_true]at hd ⊢
 exact⟨⟨List.all_eq_true.2 fun x hx=>(h7 x hx).2,value_even h4⟩,by rw[h1];exact hd.2⟩
theorem Kept.again {P:Pol} {e:Dcl} (h:Kept P e):keepD P e=some e:=by
 unfold keepD
 rw[h.val]
 simp only
 rw[if_pos h.css]
theorem all_kept {P:Pol} {l:List Dcl} (hl: ∀d∈l,rightD d=true): ∀e∈allD P l,Kept P e:=by
 intro e he
 unfold allD at he
 rw[List.mem_filterMap]at he
 obtain⟨d,hd,hk⟩:=he
 exact keep_kept (hl d hd) hk
theorem all_again {P:Pol}: ∀{l:List Dcl},(∀e∈l,Kept P e)->allD P l=l
 |[],_=>rfl
 |d::r,h=>by
  unfold allD
  rw[List.filterMap_cons,(h d (by simp)).again]
  have:=all_again (l:=r) (fun e he=>h e (by simp[he]))
  unfold allD at this
  simp only
  rw[this]
theorem last_mem: ∀{l:List Dcl} {d:Dcl},d∈lastD l->d∈l
 |c::r,d,h=>by
  unfold lastD at h
  split at h
  ·exact List.mem_cons_of_mem _ (last_mem h)
  ·rcases List.mem_cons.1 h with rfl|h
   ·exact List.mem_cons_self ..
   ·exact List.mem_cons_of_mem _ (last_mem h)
theorem last_any: ∀(l:List Dcl) (d:Dcl),(lastD l).any (keyD d)=l.any (keyD d)
 |[],_=>rfl
 |c::r,d=>by
  unfold lastD
  split
  ·next h=>
   rw[last_any r d,List.any_cons]
   cases hc:keyD d c
   ·rw[Bool.false_or]
   ·rw[Bool.true_or,List.any_eq_true]
    rw[List.any_eq_true]at h
    obtain⟨e,he,hk⟩:=h
    refine⟨e,he, ?_⟩
    unfold keyD at hc hk ⊢
    simp only[Bool.and_eq_true,decide_eq_true_eq,beq_iff_eq]at hc hk ⊢
    exact⟨hk.1.trans hc.1,hk.2.trans hc.2⟩
  ·rw[List.any_cons,List.any_cons,last_any r d]
theorem last_again: ∀l:List Dcl,lastD (lastD l)=lastD l
 |[]=>rfl
 |c::r=>by
  by_cases h:r.any (keyD c)=true
  ·have e:lastD (c::r)=lastD r:=by rw[lastD,if_pos h]
   rw[e]
   exact last_again r
  ·have e:lastD (c::r)=c::lastD r:=by rw[lastD,if_neg h]
   rw[e,lastD,last_any r c,if_neg h,last_again r]
theorem last_apart: ∀(l:List Dcl) (i k:Nat) (hi:i<(lastD l).length) (_:k<i),keyD ((lastD l)[k]'(by omega)) ((lastD l)[i])=false
 |[],i,k,hi,_=>by cases hi
 |c::r,i,k,hi,hk=>by
  by_cases h:r.any (keyD c)=true
  ·have e:lastD (c::r)=lastD r:=by rw[lastD,if_pos h]
   simp only[e]at hi ⊢
   exact last_apart r i k hi hk
  ·have e:lastD (c::r)=c::lastD r:=by rw[lastD,if_neg h]
   simp only[e]at hi ⊢
   cases i with
   |zero=>omega
   |succ i=>
    have hi':i<(lastD r).length:=by simpa using hi
    cases k with
    |zero=>
     simp only[List.getElem_cons_zero,List.getElem_cons_succ]
     cases hq:keyD c (lastD r)[i]
     ·rfl
     ·exfalso
      apply h
      rw[<-last_any r c,List.any_eq_true]
      exact⟨_,List.getElem_mem hi',hq⟩
    |succ k=>
     simp only[List.getElem_cons_succ]
     exact last_apart r i k hi' (by omega)
theorem last_nil {l:List Dcl}:lastD l=[]↔l=[]:=by
 constructor
 ·intro h
  cases l with
  |nil=>rfl
  |cons c r=>
   exfalso
   have h1:=last_any (c::r) c
   rw[h]at h1
   have h2:keyD c c=true:=by unfold keyD;simp
   rw[List.any_cons,h2,Bool.true_or]at h1
   cases h1
 ·intro h;subst h;rfl
theorem flt_kept {P:Pol} {s:Bs}: ∀d∈fltD P s,Kept P d:=by
 intro d hd
 exact all_kept (fun e he=>(parsed_right he).1) d (last_mem hd)
theorem flt_parse (P:Pol) (s:Bs):declsL (cssL (textD (fltD P s)))=fltD P s:=decl_back fun d hd=>(flt_kept d hd).right
theorem flt_again (P:Pol) (s:Bs):fltD P (textD (fltD P s))=fltD P s:=by
 show lastD (allD P (declsL (cssL (textD (fltD P s)))))=_
 rw[flt_parse,all_again flt_kept]
 exact last_again _
theorem all_app (P:Pol) (a b:List Dcl):allD P (a++b)=allD P a++allD P b:=List.filterMap_append
theorem flt_joins (P:Pol) (s t:Bs):fltD P (textD (fltD P s)++59::t)=lastD (fltD P s++allD P (declsL (cssL t))):=by
 show lastD (allD P (declsL (cssL (textD (fltD P s)++59::t))))=_
 rw[decl_joins (fun d hd=>(flt_kept d hd).right),all_app,all_again flt_kept]
theorem decls_part {a:List Css} (h1: ∀x∈a,mk1 59 x=false) (h2:dnF 0 a=0) (rest:List Css):declsL (a++mark1 59::rest)=(declOf a).toList++declsL rest:=by
 unfold declsL
 have hp:partsL (dnF 0 a) (mark1 59::rest)=[]::partsL 0 rest:=by
  rw[h2,partsL]
  have:mk1 59 (mark1 59)=true:=by decide
  rw[this]
  simp
 rw[parts_run a 0 (mark1 59::rest) h1 _ _ hp,List.append_nil,List.filterMap_cons]
 cases declOf a<;>rfl
def isLast (l:List Dcl) (k:Nat):Bool:=match l[k]? with
 |some d=> !(l.drop (k+1)).any (keyD d)
 |none=>false
def lastK (l:List Dcl):Nat->List Dcl
 |0=>[]
 |k+1=>lastK l k++(match l[k]? with
  |some d=>if isLast l k=true then [d]else []
  |none=>[])
theorem lastK_rest (l:List Dcl): ∀k,k<=l.length->lastK l k++lastD (l.drop k)=lastD l
 |0,_=>by rw[List.drop_zero];rfl
 |k+1,h=>by
  have hk:k<l.length:=h
  have ih:=lastK_rest l k (by omega)
  rw[List.drop_eq_getElem_cons hk]at ih
  have h1:l[k]? =some l[k]:=List.getElem?_eq_getElem hk
  have h2:isLast l k= !(l.drop (k+1)).any (keyD l[k]):=by unfold isLast;rw[h1]
  rw[<-ih,lastK,h1]
  simp only
  rw[h2]
  cases ha:(l.drop (k+1)).any (keyD l[k])
  ·rw[Bool.not_false,if_pos rfl,List.append_assoc]
   conv=>rhs;rw[lastD,if_neg (by rw[ha];decide)]
   rfl
  ·rw[Bool.not_true,if_neg (by decide),List.append_nil]
   conv=>rhs;rw[lastD,if_pos ha]
theorem lastK_all (l:List Dcl):lastK l l.length=lastD l:=by
 have h:=lastK_rest l l.length (Nat.le_refl _)
 rw[List.drop_length]at h
 rw[<-h,show lastD []=[]from rfl,List.append_nil]
theorem lastK_len (l:List Dcl): ∀k,(lastK l k).length<=k
 |0=>Nat.le_refl _
 |k+1=>by
  have:=lastK_len l k
  unfold lastK
  rw[List.length_append]
  split
  ·split
   ·simp;omega
   ·simp;omega
  ·simp;omega
def lastAt (l:List Dcl) (d:Dcl) (i:Nat):Prop:= ∃h:i<l.length,keyD d l[i]=true/\ ∀j (_:i<j) (hj:j<l.length),keyD d l[j]=false
theorem key_self (d:Dcl):keyD d d=true:=by unfold keyD;simp
theorem lastAt_nil (d:Dcl) (i:Nat): ¬lastAt [] d i:=fun⟨h,_⟩=>by cases h
theorem lastAt_snoc {l:List Dcl} {x d:Dcl} {i:Nat}:lastAt (l++[x]) d i↔(keyD d x=true/\i=l.length)\/(keyD d x=false/\lastAt l d i):=by
 constructor
 ·rintro⟨h,a,b⟩
  rw[List.length_append]at h
  have hx:(l++[x])[l.length]'(by simp)=x:=by simp
  by_cases hi:i=l.length
  ·subst hi
   rw[hx]at a
   exact .inl ⟨a,rfl⟩
  ·have hil:i<l.length:=by simp at h;omega
   have h1:=b l.length hil (by simp)
   rw[hx]at h1
   refine .inr ⟨h1,hil, ?_,fun j hj hjl=> ?_⟩
   ·rw[List.getElem_append_left hil]at a;exact a
   ·have:=b j hj (by simp;omega)
    rw[List.getElem_append_left hjl]at this;exact this
 ·rintro(⟨hk,rfl⟩|⟨hk,h,a,b⟩)
  ·refine⟨by simp,by simpa using hk,fun j hj hjl=> ?_⟩
   simp at hjl
   omega
  ·refine⟨by simp;omega,by rw[List.getElem_append_left h];exact a,fun j hj hjl=> ?_⟩
   by_cases hjx:j<l.length
   ·rw[List.getElem_append_left hjx];exact b j hj hjx
   ·have:j=l.length:=by simp at hjl;omega
    subst this
    simpa using hk
theorem lastAt_is {l:List Dcl} {k:Nat} (hk:k<l.length): ∃i,lastAt l l[k] i/\(decide (i=k)=isLast l k):=by
 have key: ∀n,n<=l.length-k-> ∃i,k<=i/\ ∃h:i<l.length,keyD l[k] l[i]=true/\ ∀j (_:i<j) (hj:j<l.length),j<=k+n->keyD l[k] l[j]=false:=by
  intro n
  induction n with
  |zero=>exact fun _=>⟨k,Nat.le_refl _,hk,key_self _,fun j hj _ hjk=>by omega⟩
  |succ n ih=>
   intro hn
   obtain⟨i,h0,h1,h2,h3⟩:=ih (by omega)
   by_cases hm:k+n+1<l.length
   ·cases hq:keyD l[k] (l[k+n+1]'hm)
    ·refine⟨i,h0,h1,h2,fun j hj hjl hjk=> ?_⟩
     by_cases e:j=k+n+1
     ·subst e;exact hq
     ·exact h3 j hj hjl (by omega)
    ·exact⟨k+n+1,by omega,hm,hq,fun j hj hjl hjk=>by omega⟩
   ·exact⟨i,h0,h1,h2,fun j hj hjl hjk=>h3 j hj hjl (by omega)⟩
 obtain⟨i,h0,h1,h2,h3⟩:=key (l.length-k) (Nat.le_refl _)
 refine⟨i,⟨h1,h2,fun j hj hjl=>h3 j hj hjl (by omega)⟩, ?_⟩
 have hl:isLast l k= !(l.drop (k+1)).any (keyD l[k]):=by unfold isLast;rw[List.getElem?_eq_getElem hk]
 rw[hl]
 by_cases e:i=k
 ·subst e
  rw[decide_eq_true rfl]
  cases ha:(l.drop (i+1)).any (keyD l[i])
  ·rfl
  ·exfalso
   rw[List.any_eq_true]at ha
   obtain⟨x,hx,hq⟩:=ha
   obtain⟨m,hm,hxm⟩:=List.getElem_of_mem hx
   rw[List.length_drop]at hm
   rw[List.getElem_drop]at hxm
   have:=h3 (i+1+m) (by omega) (by omega) (by omega)
   rw[hxm,hq]at this
   cases this
 ·rw[decide_eq_false e]
  have ha:(l.drop (k+1)).any (keyD l[k])=true:=by
   rw[List.any_eq_true]
   refine⟨l[i], ?_,h2⟩
   rw[List.mem_iff_getElem]
   refine⟨i-(k+1),by rw[List.length_drop];omega, ?_⟩
   rw[List.getElem_drop]
   congr 1
   omega
  rw[ha]
  rfl
def zzT:Bs:=[122,122,45,110,111,110,101]
def onePx:Css:=⟨3,[],1000,[112,120]⟩
def dZz:Dcl:=⟨zzT,[onePx],false⟩
def colT:Bs:=[99,111,108,111,114]
def colC:Css:=⟨1,colT,0,[]⟩
def widT:Bs:=[119,105,100,116,104]
def expT:Bs:=[101,120,112,114,101,115,115,105,111,110]
def dWid:Dcl:=⟨widT,[fnC expT,⟨3,[],1000,[]⟩,mark1 41],false⟩
def midT:Bs:=[32,122,122,45,110,111,110,101,58,32,49,112,120,59,32,99,111,108,111,114,59,32,119,105,100,116,104,58,32,101,120,112,114,101,115,115,105,111,110,40,49,41,59,32]
theorem zz_right:rightD dZz=true:=by decide+kernel
theorem wid_right:rightD dWid=true:=by decide+kernel
theorem col_right:rightC colC=true:=by decide+kernel
theorem sp32:spB 32=true:=by decide
theorem exp_scan (r:Bs):cssL (101::120::112::114::101::115::115::105::111::110::40::r)=fnC expT::cssL r:=by
 have h:=scan_cons (s:=101::120::112::114::101::115::115::105::111::110::40::r) (c:=101) (r:=120::112::114::101::115::115::105::111::110::40::r) rfl
 have hp:pieceC (101::120::112::114::101::115::115::105::111::110::40::r)=(fnC expT,11):=rfl
 rw[h,hp]
 rfl
theorem wid_scan (r:Bs):cssL (119::105::100::116::104::58::32::101::120::112::114::101::115::115::105::111::110::40::49::41::59::r)=toksD dWid++cssL (59::r):=by
 have h1: ∀q:Bs,cssL (119::105::100::116::104::58::q)=⟨1,widT,0,[]⟩::cssL (58::q):=fun q=>told_scan (x:=⟨1,widT,0,[]⟩) (by decide+kernel) (r:=58::q) (ends_colon q)
 have h5: ∀q:Bs,cssL (49::41::q)=⟨3,[],1000,[]⟩::cssL (41::q):=fun q=>by
  have h:=scan_cons (s:=49::41::q) (c:=49) (r:=41::q) rfl
  have hp:pieceC (49::41::q)=(⟨3,[],1000,[]⟩,1):=rfl
  rw[h,hp]
  rfl
 have h6: ∀q:Bs,cssL (41::59::q)=mark1 41::cssL (59::q):=fun q=>told_scan (x:=mark1 41) (mk_right 41 (.inr rfl)) (r:=59::q) (ends_semi q)
 rw[h1,scan_mark 58 (.inl rfl) _ (ends_sp _),scan_sp sp32,exp_scan,h5,h6]
 rfl
theorem mid_form (t:Bs):midT++t=32::(toldD dZz++59::(32::(toldC colC++59::(32::(119::105::100::116::104::58::32::101::120::112::114::101::115::115::105::111::110::40::49::41::59::(32::t)))))):=by
 have h1:toldD dZz=[122,122,45,110,111,110,101,58,32,49,112,120]:=by decide+kernel
 have h2:toldC colC=[99,111,108,111,114]:=by decide+kernel
 rw[h1,h2]
 rfl
theorem mid_toks (t:Bs):cssL (midT++t)=toksD dZz++mark1 59::([colC]++mark1 59::(toksD dWid++mark1 59::cssL t)):=by
 rw[mid_form,scan_sp sp32,told_toks zz_right _ (ends_semi _),scan_semi,scan_sp sp32,told_scan col_right (ends_semi _),scan_semi,scan_sp sp32,wid_scan,scan_semi,scan_sp sp32]
 rfl
theorem wid_value:valueT widT dWid.value=none:=by decide+kernel
theorem mid_decls (P:Pol) (h:cssR P zzT=false) (t:Bs):allD P (declsL (cssL (midT++t)))=allD P (declsL (cssL t)):=by
 have hz:=toks_semi zz_right
 have hw:=toks_semi wid_right
 rw[mid_toks,decls_part hz.1 hz.2,decls_part (a:=[colC]) (fun x hx=>by rw[List.mem_singleton]at hx;subst hx;decide) (by decide),decls_part hw.1 hw.2,decl_toks zz_right,decl_toks wid_right]
 have hc:declOf [colC]=none:=rfl
 rw[hc]
 have k1:keepD P dZz=none:=by
  unfold keepD
  split
  ·exact if_neg (by rw[show dZz.name=zzT from rfl,h];decide)
  ·rfl
 have k2:keepD P dWid=none:=by
  unfold keepD
  rw[show valueT dWid.name dWid.value=none from wid_value]
 simp only[all_app,Option.toList]
 unfold allD
 rw[List.filterMap_cons,k1,List.filterMap_cons,k2]
 rfl
theorem flt_between (P:Pol) (s t:Bs) (h:cssR P zzT=false):fltD P (textD (fltD P s)++59::(midT++t))=fltD P (textD (fltD P s)++59::t):=by
 rw[flt_joins,flt_joins,mid_decls P h]
theorem flt_more (P:Pol) (s t:Bs) (h:fltD P s≠[]):fltD P (textD (fltD P s)++59::t)≠[]:=by
 rw[flt_joins]
 intro hn
 have h1:=last_nil.1 hn
 rw[List.append_eq_nil_iff]at h1
 exact h h1.1
end Go.Proofs.YtiikamobcmgekaaGreatDoor
