/- Plain: what the program prints of a policy that may be is its text; how long it is. No program in sight but for names of what is said. -/
import Derived.Lib.ItoaLen
import Derived.Test.YtbhhgbgfaemfdaaGreatDoorPrwD
import Derived.Test.YtbhhgbgfaemfdaaGreatDoorPolV
namespace Go.Proofs.YtbhhgbgfaemfdaaGreatDoor
def PfxIf (ok:Bs->Prop) (xs:List (Nat × Bs)) (u:Bs):Prop:= ∀r,ok r-> ∀a,∃L:List Lx,L.map Lx.kt=xs/\scanL a (u++r)=match scanL (a+u.length) r with
 | .ok M=> .ok (L++M)
 | .bad n=> .bad n
abbrev PfxS (xs:List (Nat × Bs)) (u:Bs):Prop:=PfxIf stops xs u
abbrev PfxA (xs:List (Nat × Bs)) (u:Bs):Prop:=PfxIf (fun _=>True) xs u
theorem PfxIf.then {o p q:Bs->Prop} {xs ys:List (Nat × Bs)} {u v:Bs} (h:PfxIf o xs u) (g:PfxIf p ys v) (hv: ∀r,q r->p r/\o (v++r)):PfxIf q (xs++ys) (u++v):=by
 intro r hr a
 obtain⟨L,h1,h2⟩:=h (v++r) (hv r hr).2 a
 obtain⟨M,g1,g2⟩:=g r (hv r hr).1 (a+u.length)
 refine⟨L++M,by rw[List.map_append,h1,g1], ?_⟩
 rw[List.append_assoc,h2,g2,List.length_append,<-Nat.add_assoc]
 cases scanL (a+u.length+v.length) r with
 |ok N=>simp
 |bad n=>rfl
theorem PfxA.blank {b:Bs} (h:Blank b):PfxA [] b:=by
 intro r _ a
 refine⟨[],rfl, ?_⟩
 rw[scanL_skip b.length (by rw[h.2.2 r];simp),List.drop_left]
 cases scanL (a+b.length) r<;>rfl
theorem PfxS.piece {k:Nat} {t u:Bs} (h:toldL k t=some u):PfxS [(k,t)] u:=by
 intro r hr a
 obtain⟨h1,h2,h3⟩:=told_piece h hr
 refine⟨[⟨k,a,t⟩],rfl, ?_⟩
 rw[scanL_ok (by simp[h2]) h3 h1,List.drop_left]
 cases scanL (a+u.length) r<;>rfl
theorem blank1:Blank [32]:=⟨fun c r h=>by cases h;rfl,by simp,fun r=>by simp[blk,spB];omega⟩
theorem stop_32 (r:Bs):stops (32::r):=fun c r' h=>by cases h;rfl
theorem stop_59 (r:Bs):stops (59::r):=fun c r' h=>by cases h;rfl
def sayW:List Bs->Bs
 |[]=>[]
 |w::l=>32::(w++sayW l)
theorem sayW_stop (l:List Bs) (r:Bs) (hr:stops r):stops (sayW l++r):=by
 cases l with
 |nil=>exact hr
 |cons w l=>exact stop_32 _
def figF:Nat->Nat->Bs
 |0,_=>[]
 |f+1,n=>if n=0 then []else figF f (n/10)++[UInt8.ofNat (48+n%10)]
def figL (n:Nat):Bs:=figF n n
theorem figF_more: ∀(f g n:Nat),n<=f->n<=g->figF f n=figF g n
 |0,0,_,_,_=>rfl
 |0,g+1,n,h,_=>by(have:n=0:=by omega);subst this;rfl
 |f+1,0,n,_,h=>by(have:n=0:=by omega);subst this;rfl
 |f+1,g+1,n,h1,h2=>by
  unfold figF
  by_cases h:n=0
  ·rw[if_pos h,if_pos h]
  ·rw[if_neg h,if_neg h,figF_more f g (n/10) (by omega) (by omega)]
theorem figL_zero:figL 0=[]:=rfl
theorem figL_step {n:Nat} (h:n≠0):figL n=figL (n/10)++[UInt8.ofNat (48+n%10)]:=by
 obtain⟨m,rfl⟩: ∃m,n=m+1:=⟨n-1,by omega⟩
 show(if m+1=0 then []else figF m ((m+1)/10)++_)=_
 rw[if_neg h]
 congr 1
 exact figF_more _ _ _ (by omega) (Nat.le_refl _)
theorem dig_byte (k:Nat) (hk:k<10):(UInt8.ofNat (48+k)).toNat=48+k:=by
 rw[UInt8.toNat_ofNat'];omega
theorem figL_facts (n:Nat):(figL n).all digB=true/\numT (figL n)=n/\(n≠0->1<=(figL n).length)/\(n<1000000000↔(figL n).length<=9)/\((figL n).length<=n):=by
 have key: ∀k n:Nat,(figL n).length<=k↔n<10 ^ k:=by
  intro k
  induction k with
  |zero=>
   intro n
   by_cases h:n=0
   ·subst h;simp[figL_zero]
   ·rw[figL_step h];simp[h]
  |succ k ih=>
   intro n
   by_cases h:n=0
   ·subst h;simp[figL_zero];exact Nat.pos_of_ne_zero (by simp)
   ·rw[figL_step h]
    have:=ih (n/10)
    simp only[List.length_append,List.length_cons,List.length_nil]
    rw[Nat.pow_succ]
    omega
 have hstr: ∀m n:Nat,n<=m->(figL n).all digB=true/\numT (figL n)=n/\(figL n).length<=n:=by
  intro m
  induction m with
  |zero=>
   intro n h
   obtain rfl:n=0:=by omega
   exact⟨rfl,rfl,Nat.le_refl _⟩
  |succ m ih=>
   intro n h
   by_cases h0:n=0
   ·subst h0;exact⟨rfl,rfl,Nat.le_refl _⟩
   ·obtain⟨i1,i2,i3⟩:=ih (n/10) (by omega)
    have hb:=dig_byte (n%10) (by omega)
    rw[figL_step h0]
    refine⟨?_, ?_, ?_⟩
    ·rw[List.all_append,i1]
     simp only[List.all_cons,List.all_nil,Bool.and_true,Bool.true_and]
     unfold digB
     rw[hb]
     simp;omega
    ·unfold numT at i2 ⊢
     rw[List.foldl_append,i2]
     simp only[List.foldl_cons,List.foldl_nil,hb]
     omega
    ·simp only[List.length_append,List.length_cons,List.length_nil];omega
 obtain⟨h1,h2,h3⟩:=hstr n n (Nat.le_refl _)
 refine⟨h1,h2,fun h=> ?_,((key 9 n).trans (by rfl)).symm,h3⟩
 rw[figL_step h];simp
def lxs (ks:List (Nat × Bs)):List Lx:=ks.map fun x=>⟨x.1,0,x.2⟩
theorem lxs_kt (ks:List (Nat × Bs)):(lxs ks).map Lx.kt=ks:=by
 unfold lxs;rw[List.map_map]
 conv=>rhs;rw[<-List.map_id ks]
 rfl
theorem blank10:Blank [10]:=⟨fun c r h=>by cases h;rfl,by simp,fun r=>by simp[blk,spB];omega⟩
theorem stop_10 (r:Bs):stops (10::r):=fun c r' h=>by cases h;rfl
theorem stop_58 (r:Bs):stops (58::r):=fun c r' h=>by cases h;rfl
theorem wov_end {xs:List (Nat × Bs)} {r:Bs} (h:Woven xs r):Woven ((4,[59])::xs) ([59,10]++r):=
 .piece (k:=4) (t:=[59]) (u:=[59]) (r:=[10]++r) (by decide) (stop_10 r) (.blank blank10 h)
theorem word_told {w:Bs} (h:wordB w=true):toldL 1 w=some w:=by
 unfold toldL
 rw[if_neg (by decide),if_pos rfl,if_pos h]
theorem wov_one {k:Nat} {t u r:Bs} {xs:List (Nat × Bs)} (h:toldL k t=some u) (hs:stops r) (hr:Woven xs r):Woven ((k,t)::xs) (32::(u++r)):=
 .blank (b:=[32]) blank1 (.piece h hs hr)
theorem wov_words {xs:List (Nat × Bs)} {r:Bs} (h:Woven xs r) (hs:stops r): ∀(ws:List Bs),(∀w∈ws,wordB w=true)->Woven (ws.map (fun w=>(1,w))++xs) (sayW ws++r)
 |[],_=>h
 |w::l,hw=>by
  have e:sayW (w::l)++r=32::(w++(sayW l++r)):=by simp[sayW]
  rw[e]
  exact wov_one (word_told (hw w List.mem_cons_self)) (sayW_stop l r hs) (wov_words h hs l fun x hx=>hw x (List.mem_cons_of_mem _ hx))
def quoT (z:Bs):Bs:=(quoteL z).getD []
def lineS:St->Bs
 | .nm k tag ws=>if k=attrsT then attrsT++(32::(tag++([58]++(sayW ws++[59,10]))))else k++(sayW ws++[59,10])
 | .sg k x y z=>if k=relT then relT++(32::(x++[59,10]))else if k=forceT then forceT++(32::(x++(32::(y++(32::(quoT z++[59,10]))))))else limitT++(32::(x++(32::(y++[59,10]))))
def tagK (tag:Bs):Nat:=if tag=[42]then 4 else 1
def lineK:St->List (Nat × Bs)
 | .nm k tag ws=>if k=attrsT then(1,attrsT)::(tagK tag,tag)::(4,[58])::(ws.map (fun w=>(1,w))++[(4,[59])])else(1,k)::(ws.map (fun w=>(1,w))++[(4,[59])])
 | .sg k x y z=>if k=relT then [(1,relT),(1,x),(4,[59])]else if k=forceT then [(1,forceT),(1,x),(1,y),(3,z),(4,[59])]else [(1,limitT),(1,x),(2,y),(4,[59])]
def okT:St->Prop
 | .nm k tag ws=>ws≠[]/\(∀w∈ws,wordB w=true)/\((k=attrsT/\(tag=[42]\/wordB tag=true))\/((k=tagsT\/k=schemesT\/k=cssT\/k=dropT)/\tag=[]))
 | .sg k x y z=>(k=relT/\(x=yesT\/x=noT)/\y=[]/\z=[])\/(k=forceT/\wordB x=true/\wordB y=true/\ ∃u,quoteL z=some u)\/(k=limitT/\(x=depthT\/x=nameT\/x=valT)/\toldL 2 y=some y/\z=[])
theorem tag_told {tag:Bs} (h:tag=[42]\/wordB tag=true):toldL (tagK tag) tag=some tag:=by
 unfold tagK
 rcases h with rfl|h
 ·rfl
 ·have: ¬tag=[42]:=by rintro rfl;revert h;decide
  rw[if_neg this]
  exact word_told h
theorem wov_line {xs:List (Nat × Bs)} {r:Bs} (h:Woven xs r): ∀(st:St),okT st->Woven (lineK st++xs) (lineS st++r)
 | .nm k tag ws,⟨_,hw,hk⟩=>by
  have h1:=wov_words (wov_end h) (stop_59 _) ws hw
  rcases hk with⟨rfl,ht⟩|⟨hk,rfl⟩
  ·have e1:lineS (.nm attrsT tag ws)++r=attrsT++(32::(tag++([58]++(sayW ws++([59,10]++r))))):=by simp[lineS]
   have e2:lineK (.nm attrsT tag ws)++xs=(1,attrsT)::(tagK tag,tag)::(4,[58])::(ws.map (fun w=>(1,w))++((4,[59])::xs)):=by simp[lineK]
   rw[e1,e2]
   exact .piece (k:=1) (by decide) (stop_32 _) (wov_one (tag_told ht) (stop_58 _) (.piece (k:=4) (by decide) (sayW_stop ws _ (stop_59 _)) h1))
  ·have hne: ¬k=attrsT:=by rintro rfl;revert hk;decide
   have e1:lineS (.nm k [] ws)++r=k++(sayW ws++([59,10]++r)):=by simp[lineS,hne]
   have e2:lineK (.nm k [] ws)++xs=(1,k)::(ws.map (fun w=>(1,w))++((4,[59])::xs)):=by simp[lineK,hne]
   rw[e1,e2]
   refine .piece (k:=1) ?_ (sayW_stop ws _ (stop_59 _)) h1
   rcases hk with rfl|rfl|rfl|rfl<;>rfl
 | .sg k x y z,hk=>by
  rcases hk with⟨rfl,hx,rfl,rfl⟩|⟨rfl,hx,hy,u,hz⟩|⟨rfl,hx,hy,rfl⟩
  ·have e1:lineS (.sg relT x [] [])++r=relT++(32::(x++([59,10]++r))):=by simp[lineS]
   have e2:lineK (.sg relT x [] [])++xs=(1,relT)::(1,x)::(4,[59])::xs:=by simp[lineK]
   rw[e1,e2]
   refine .piece (k:=1) (by decide) (stop_32 _) (wov_one ?_ (stop_59 _) (wov_end h))
   rcases hx with rfl|rfl<;>rfl
  ·have hne: ¬forceT=relT:=by decide
   have hq:quoT z=u:=by unfold quoT;rw[hz];rfl
   have e1:lineS (.sg forceT x y z)++r=forceT++(32::(x++(32::(y++(32::(u++([59,10]++r))))))):=by simp[lineS,hne,hq]
   have e2:lineK (.sg forceT x y z)++xs=(1,forceT)::(1,x)::(1,y)::(3,z)::(4,[59])::xs:=by simp[lineK,hne]
   rw[e1,e2]
   exact .piece (k:=1) (by decide) (stop_32 _) (wov_one (word_told hx) (stop_32 _) (wov_one (word_told hy) (stop_32 _) (wov_one (k:=3) (by unfold toldL;rw[if_pos rfl];exact hz) (stop_59 _) (wov_end h))))
  ·have hne: ¬limitT=relT:=by decide
   have hne2: ¬limitT=forceT:=by decide
   have e1:lineS (.sg limitT x y [])++r=limitT++(32::(x++(32::(y++([59,10]++r))))):=by simp[lineS,hne,hne2]
   have e2:lineK (.sg limitT x y [])++xs=(1,limitT)::(1,x)::(2,y)::(4,[59])::xs:=by simp[lineK,hne,hne2]
   rw[e1,e2]
   refine .piece (k:=1) (by decide) (stop_32 _) (wov_one ?_ (stop_32 _) (wov_one hy (stop_59 _) (wov_end h)))
   rcases hx with rfl|rfl|rfl<;>rfl
def textS (ss:List St):Bs:=ss.flatMap lineS
def textK (ss:List St):List (Nat × Bs):=ss.flatMap lineK
theorem wov_text: ∀(ss:List St),(∀st∈ss,okT st)->Woven (textK ss) (textS ss)
 |[],_=> .nil
 |st::ss,h=>wov_line (wov_text ss fun x hx=>h x (List.mem_cons_of_mem _ hx)) st (h st List.mem_cons_self)
theorem names_lx (pre r:List Lx) (ws:List Bs) (hw:ws≠[]) {b:Nat} (hb:pre.length=b):namesR (pre++(lxs (ws.map fun w=>(1,w))++(⟨4,0,[59]⟩::r))) b= .ok ws:=by
 have hd:(pre++(lxs (ws.map fun w=>(1,w))++(⟨4,0,[59]⟩::r))).drop b=lxs (ws.map fun w=>(1,w))++(⟨4,0,[59]⟩::r):=by
  rw[<-hb,List.drop_left]
 have ht: ∀(l:List Bs),(lxs (l.map fun w=>(1,w))++(⟨4,0,[59]⟩::r)).takeWhile (isP 1 [])=lxs (l.map fun w=>(1,w)):=by
  intro l
  induction l with
  |nil=>rfl
  |cons w l ih=>
   have:lxs ((w::l).map fun w=>(1,w))=(⟨1,0,w⟩:Lx)::lxs (l.map fun w=>(1,w)):=rfl
   rw[this,List.cons_append,List.takeWhile_cons_of_pos (by simp[isP]),ih]
 have hws:wordsR (pre++(lxs (ws.map fun w=>(1,w))++(⟨4,0,[59]⟩::r))) b=ws:=by
  unfold wordsR
  rw[hd,ht]
  unfold lxs
  rw[List.map_map,List.map_map]
  conv=>rhs;rw[<-List.map_id ws]
  rfl
 have hi:isR (pre++(lxs (ws.map fun w=>(1,w))++(⟨4,0,[59]⟩::r))) (b+ws.length) 4 semiT=true:=by
  unfold isR
  rw[<-List.drop_drop,hd,List.drop_append_of_le_length (by simp[lxs]),List.drop_of_length_le (by simp[lxs])]
  rfl
 unfold namesR
 rw[hws,hi,if_neg (by rintro(h|h);exact hw (List.eq_nil_of_length_eq_zero h);cases h)]
theorem one_line: ∀(st:St),okT st-> ∀r:List Lx,oneR (lxs (lineK st)++r)=some (st,(lineK st).length)
 | .nm k tag ws,⟨hn,_,hk⟩,r=>by
  rcases hk with⟨rfl,ht⟩|⟨hk,rfl⟩
  ·have e:lxs (lineK (.nm attrsT tag ws))++r=[⟨1,0,attrsT⟩,⟨tagK tag,0,tag⟩,⟨4,0,[58]⟩]++(lxs (ws.map fun w=>(1,w))++(⟨4,0,[59]⟩::r)):=by simp[lineK,lxs]
   have hl:(lineK (.nm attrsT tag ws)).length=3+ws.length+1:=by simp[lineK];omega
   rw[e,hl]
   obtain⟨q,hq⟩: ∃q,lxs (ws.map fun w=>(1,w))++(⟨4,0,[59]⟩::r)=q:=⟨_,rfl⟩
   have hN:=names_lx [⟨1,0,attrsT⟩,⟨tagK tag,0,tag⟩,⟨4,0,[58]⟩] r ws hn (b:=3) rfl
   rw[hq]at hN ⊢
   have hh:headR ([⟨1,0,attrsT⟩,⟨tagK tag,0,tag⟩,⟨4,0,[58]⟩]++q)= .ok tag:=by
    unfold headR
    have h1:(!isR ([⟨1,0,attrsT⟩,⟨tagK tag,0,tag⟩,⟨4,0,[58]⟩]++q) 1 1 []&& !isR ([⟨1,0,attrsT⟩,⟨tagK tag,0,tag⟩,⟨4,0,[58]⟩]++q) 1 4 [42])=false:=by
     rcases ht with rfl|ht
     ·rfl
     ·have:tagK tag=1:=by
       unfold tagK
       rw[if_neg (by rintro rfl;revert ht;decide)]
      rw[this]
      rfl
    rw[h1,if_neg (by decide)]
    rfl
   unfold oneR
   rw[show kindR ([⟨1,0,attrsT⟩,⟨tagK tag,0,tag⟩,⟨4,0,[58]⟩]++q)=attrsT from rfl,if_pos (by decide)]
   unfold nmS listR
   rw[if_pos rfl,hh]
   simp only
   rw[hN]
  ·have e: ¬k=attrsT:=by rintro rfl;revert hk;decide
   have e1:lxs (lineK (.nm k [] ws))++r=[⟨1,0,k⟩]++(lxs (ws.map fun w=>(1,w))++(⟨4,0,[59]⟩::r)):=by simp[lineK,lxs,e]
   have hl:(lineK (.nm k [] ws)).length=1+ws.length+1:=by simp[lineK,e];omega
   rw[e1,hl]
   have hN:=names_lx [⟨1,0,k⟩] r ws hn (b:=1) rfl
   unfold oneR
   rw[show kindR ([⟨1,0,k⟩]++(lxs (ws.map fun w=>(1,w))++(⟨4,0,[59]⟩::r)))=k from rfl,if_pos (by rcases hk with rfl|rfl|rfl|rfl<;>decide)]
   unfold nmS listR
   rw[if_neg e]
   simp only
   rw[hN]
 | .sg k x y z,hk,r=>by
  rcases hk with⟨rfl,hx,rfl,rfl⟩|⟨rfl,hx,hy,u,hz⟩|⟨rfl,hx,hy,rfl⟩
  ·rcases hx with rfl|rfl<;>rfl
  ·rfl
  ·rcases hx with rfl|rfl|rfl<;>rfl
theorem text_parsed: ∀(ss:List St),(∀st∈ss,okT st)-> ∀L:List Lx,L.map Lx.kt=textK ss->Parsed L ss
 |[],_,L,hL=>by
  have:L=[]:=List.map_eq_nil_iff.1 hL
  subst this
  exact .nil
 |st::ss,h,L,hL=>by
  have e:textK (st::ss)=lineK st++textK ss:=rfl
  rw[e]at hL
  refine .cons (n:=(lineK st).length) ?_ (text_parsed ss (fun x hx=>h x (List.mem_cons_of_mem _ hx)) _ ?_)
  ·rw[oneR_kt (m:=lxs (lineK st)++lxs (textK ss)) (by rw[hL,List.map_append,lxs_kt,lxs_kt])]
   exact one_line st (h st List.mem_cons_self) _
  ·rw[List.map_drop,hL,List.drop_left]
theorem text_parse {ss:List St} (h: ∀st∈ss,okT st) (hg: ∀st∈ss,st.good=true) (hn:(keysS ss).Nodup) (h8:(textS ss).length<=8192):
  parsePl (textS ss)=if fitB (neatP (appS ss pol0))then .ok (neatP (appS ss pol0))else .error ⟨(textS ss).length,3⟩:=by
 obtain⟨L,hl,hk⟩:=woven_scans (wov_text ss h) 0
 exact(st_parse h8 hl (text_parsed ss h L hk) hg).1 hn
def stL (k:Bs) (l:List Bs):List St:=if l=[]then []else [.nm k [] l]
def grpC (a:Alw):List St->List St
 | .nm k tag ws::ss=>if tag=a.tag then .nm attrsT a.tag (a.name::ws)::ss else .nm attrsT a.tag [a.name]:: .nm k tag ws::ss
 |ss=> .nm attrsT a.tag [a.name]::ss
theorem grpC_cons (a:Alw) (k tag:Bs) (ws:List Bs) (ss:List St):grpC a (.nm k tag ws::ss)=if tag=a.tag then .nm attrsT a.tag (a.name::ws)::ss else .nm attrsT a.tag [a.name]:: .nm k tag ws::ss:=rfl
def grpA:List Alw->List St
 |[]=>[]
 |a::l=>grpC a (grpA l)
def forS (f:Frc):St:= .sg forceT f.tag f.name f.value
def limS (p:Pol):List St:=[.sg limitT depthT (figL p.depth.toNat) [],.sg limitT nameT (figL p.name.toNat) [],.sg limitT valT (figL p.value.toNat) []]
def polS (p:Pol):List St:=stL tagsT p.tags++(grpA p.attrs++(stL schemesT p.schemes++(stL cssT p.css++(stL dropT p.drops++(.sg relT (if p.rel=true then yesT else noT) [] []::(p.forces.map forS++limS p))))))
def textP (p:Pol):Bs:=textS (polS p)
theorem appS_app (a b:List St) (p:Pol):appS (a++b) p=appS b (appS a p):=List.foldl_append ..
theorem app_stL {k:Bs} (l:List Bs) (p:Pol) (h:addK k [] p []=p):appS (stL k l) p=addK k [] p l:=by
 unfold stL
 by_cases hl:l=[]
 ·subst hl;rw[if_pos rfl,h];rfl
 ·rw[if_neg hl];rfl
theorem grp_shape: ∀l:List Alw,∀st∈grpA l,∃tag ws,st= .nm attrsT tag ws
 |[],st,h=>by cases h
 |a::l,st,h=>by
  have ih:=grp_shape l
  unfold grpA at h
  cases hg:grpA l with
  |nil=>
   rw[hg]at h
   rw[List.mem_singleton.1 h]
   exact⟨_,_,rfl⟩
  |cons s ss=>
   obtain⟨tag,ws,rfl⟩:=ih s (by rw[hg];exact List.mem_cons_self)
   rw[hg,grpC_cons]at h
   split at h
   ·rcases List.mem_cons.1 h with rfl|h
    ·exact⟨_,_,rfl⟩
    ·exact ih st (by rw[hg];exact List.mem_cons_of_mem _ h)
   ·rcases List.mem_cons.1 h with rfl|h
    ·exact⟨_,_,rfl⟩
    ·exact ih st (by rw[hg];exact h)
theorem addA_attrs (tag:Bs) (p:Pol) (ws:List Bs):addK attrsT tag p ws={p with attrs:=p.attrs++ws.map (fun n=>⟨tag,n⟩)}:=by
 unfold addK
 rw[if_neg (by decide),if_neg (by decide),if_neg (by decide),if_neg (by decide)]
theorem app_grpC (a:Alw) (ss:List St) (p:Pol) (h: ∀st∈ss,∃tag ws,st= .nm attrsT tag ws):appS (grpC a ss) p=appS ss {p with attrs:=p.attrs++[a]}:=by
 cases ss with
 |nil=>
  show addK attrsT a.tag p [a.name]=_
  rw[addA_attrs];rfl
 |cons s ss=>
  obtain⟨tag,ws,rfl⟩:=h s List.mem_cons_self
  rw[grpC_cons]
  split
  ·next ht=>
   subst ht
   show appS ss (addK attrsT a.tag p (a.name::ws))=appS ss (addK attrsT a.tag {p with attrs:=p.attrs++[a]} ws)
   rw[addA_attrs,addA_attrs]
   simp
  ·show appS ss (addK attrsT tag (addK attrsT a.tag p [a.name]) ws)=appS ss (addK attrsT tag {p with attrs:=p.attrs++[a]} ws)
   rw[addA_attrs a.tag];rfl
theorem app_grp: ∀(l:List Alw) (p:Pol),appS (grpA l) p={p with attrs:=p.attrs++l}
 |[],p=>by simp[grpA,appS]
 |a::l,p=>by
  unfold grpA
  rw[app_grpC a _ p (grp_shape l),app_grp l]
  simp
theorem app_for: ∀(l:List Frc) (p:Pol),appS (l.map forS) p={p with forces:=p.forces++l}
 |[],p=>by simp[appS]
 |f::l,p=>by
  have:appS ((f::l).map forS) p=appS (l.map forS) {p with forces:=p.forces++[f]}:=rfl
  rw[this,app_for l]
  simp
theorem num_fig {n:Int} (h:1<=n):numT (figL n.toNat)=n:=by
 rw[(figL_facts n.toNat).2.1]
 omega
theorem app_limS (p q:Pol) (h:limB p=true):appS (limS p) q={q with depth:=p.depth,name:=p.name,value:=p.value}:=by
 unfold limB inB at h
 simp only[Bool.and_eq_true,decide_eq_true_eq]at h
 show setL valT (numT (figL p.value.toNat)) (setL nameT (numT (figL p.name.toNat)) (setL depthT (numT (figL p.depth.toNat)) q))=_
 rw[num_fig h.1.1.1,num_fig h.1.2.1,num_fig h.2.1]
 rfl
theorem app_polS {p:Pol} (h:limB p=true):appS (polS p) pol0=p:=by
 unfold polS
 rw[appS_app,app_stL _ _ rfl,appS_app,app_grp,appS_app,app_stL _ _ rfl,appS_app,app_stL _ _ rfl,appS_app,app_stL _ _ rfl]
 have e: ∀(x:Bs) (R:List St) (q:Pol),appS (St.sg relT x [] []::R) q=appS R {q with rel:=decide (x=yesT)}:=fun _ _ _=>rfl
 rw[e,appS_app,app_for,app_limS p _ h]
 cases p with
 |mk t s c d a f r x y z=>cases r<;>rfl
structure Rgt (p:Pol):Prop where
 tags: ∀w∈p.tags,wordB w=true
 schemes: ∀w∈p.schemes,wordB w=true
 css: ∀w∈p.css,wordB w=true
 drops: ∀w∈p.drops,wordB w=true
 attrs: ∀a∈p.attrs,alwB a=true
 forces: ∀f∈p.forces,frcB f=true
 lim:limB p=true
 fit:fitB p=true
 neat:neatP p=p
theorem rgt {p:Pol} (h:rightP p=true):Rgt p:=by
 unfold rightP at h
 simp only[Bool.and_eq_true,List.all_eq_true,decide_eq_true_eq]at h
 obtain⟨⟨⟨⟨⟨⟨⟨⟨h1,h2⟩,h3⟩,h4⟩,h5⟩,h6⟩,h7⟩,h8⟩,h9⟩:=h
 exact⟨h1,h2,h3,h4,h5,h6,h7,h8,h9⟩
theorem stL_ok {k:Bs} (hk:k=tagsT\/k=schemesT\/k=cssT\/k=dropT) {l:List Bs} (h: ∀w∈l,wordB w=true): ∀st∈stL k l,okT st:=by
 intro st hs
 unfold stL at hs
 split at hs
 ·cases hs
 ·next hl=>
  rw[List.mem_singleton.1 hs]
  exact⟨hl,h,.inr ⟨hk,rfl⟩⟩
theorem alw_parts {a:Alw} (h:alwB a=true):(a.tag=[42]\/wordB a.tag=true)/\wordB a.name=true:=by
 unfold alwB at h
 simpa using h
theorem grp_ok: ∀{l:List Alw},(∀a∈l,alwB a=true)-> ∀st∈grpA l,okT st
 |[],_,st,h=>by cases h
 |a::l,ha,st,h=>by
  have ih:=grp_ok (l:=l) fun x hx=>ha x (List.mem_cons_of_mem _ hx)
  obtain⟨ht,hn⟩:=alw_parts (ha a List.mem_cons_self)
  have h1:okT (.nm attrsT a.tag [a.name]):=⟨by simp,fun w hw=>by rw[List.mem_singleton.1 hw];exact hn,.inl ⟨rfl,ht⟩⟩
  unfold grpA at h
  cases hg:grpA l with
  |nil=>
   rw[hg]at h
   rw[List.mem_singleton.1 h]
   exact h1
  |cons s ss=>
   obtain⟨tag,ws,rfl⟩:=grp_shape l s (by rw[hg];exact List.mem_cons_self)
   have h2:=ih _ (by rw[hg];exact List.mem_cons_self)
   rw[hg,grpC_cons]at h
   split at h
   ·rcases List.mem_cons.1 h with rfl|h
    ·refine⟨by simp,fun w hw=> ?_,.inl ⟨rfl,ht⟩⟩
     rcases List.mem_cons.1 hw with rfl|hw
     ·exact hn
     ·exact h2.2.1 w hw
    ·exact ih st (by rw[hg];exact List.mem_cons_of_mem _ h)
   ·rcases List.mem_cons.1 h with rfl|h
    ·exact h1
    ·exact ih st (by rw[hg];exact h)
theorem frc_parts {f:Frc} (h:frcB f=true):wordB f.tag=true/\wordB f.name=true/\ ∃u,quoteL f.value=some u:=by
 unfold frcB at h
 simp only[Bool.and_eq_true,Bool.not_eq_true']at h
 refine⟨h.1.2,h.2, ?_⟩
 unfold quoteL
 rw[h.1.1]
 exact⟨_,rfl⟩
theorem fig_told {n:Int} (h1:1<=n) (h2:n<=65536):toldL 2 (figL n.toNat)=some (figL n.toNat):=by
 obtain⟨f1,_,f3,f4,_⟩:=figL_facts n.toNat
 unfold toldL
 rw[if_neg (by decide),if_neg (by decide),if_pos rfl,if_pos ⟨f3 (by omega),f4.1 (by omega),f1⟩]
theorem lim_parts {p:Pol} (h:limB p=true):(1<=p.depth/\p.depth<=256)/\(1<=p.name/\p.name<=64)/\(1<=p.value/\p.value<=65536):=by
 unfold limB inB at h
 simp only[Bool.and_eq_true,decide_eq_true_eq]at h
 exact⟨h.1.1,h.1.2,h.2⟩
theorem polS_ok {p:Pol} (h:Rgt p): ∀st∈polS p,okT st:=by
 obtain⟨hd,hn,hv⟩:=lim_parts h.lim
 intro st hs
 unfold polS at hs
 rcases List.mem_append.1 hs with hs|hs
 ·exact stL_ok (.inl rfl) h.tags st hs
 rcases List.mem_append.1 hs with hs|hs
 ·exact grp_ok h.attrs st hs
 rcases List.mem_append.1 hs with hs|hs
 ·exact stL_ok (.inr (.inl rfl)) h.schemes st hs
 rcases List.mem_append.1 hs with hs|hs
 ·exact stL_ok (.inr (.inr (.inl rfl))) h.css st hs
 rcases List.mem_append.1 hs with hs|hs
 ·exact stL_ok (.inr (.inr (.inr rfl))) h.drops st hs
 rcases List.mem_cons.1 hs with rfl|hs
 ·refine .inl ⟨rfl, ?_,rfl,rfl⟩
  by_cases hr:p.rel=true
  ·exact .inl (if_pos hr)
  ·exact .inr (if_neg hr)
 rcases List.mem_append.1 hs with hs|hs
 ·obtain⟨f,hf,rfl⟩:=List.mem_map.1 hs
  exact .inr (.inl ⟨rfl,frc_parts (h.forces f hf)⟩)
 ·simp only[limS,List.mem_cons,List.not_mem_nil,or_false]at hs
  rcases hs with rfl|rfl|rfl
  ·exact .inr (.inr ⟨rfl,.inl rfl,fig_told hd.1 (by omega),rfl⟩)
  ·exact .inr (.inr ⟨rfl,.inr (.inl rfl),fig_told hn.1 (by omega),rfl⟩)
  ·exact .inr (.inr ⟨rfl,.inr (.inr rfl),fig_told hv.1 (by omega),rfl⟩)
theorem good_lim {x:Bs} {n:Int} (h1:1<=n) (h:boundB x n=true):(St.sg limitT x (figL n.toNat) []).good=true:=by
 show(if limitT=relT then true else if limitT=forceT then true else boundB x (numT (figL n.toNat)))=true
 rw[if_neg (by decide),if_neg (by decide),num_fig h1]
 exact h
theorem polS_good {p:Pol} (h:Rgt p): ∀st∈polS p,st.good=true:=by
 obtain⟨hd,hn,hv⟩:=lim_parts h.lim
 have hL: ∀k l,∀st∈stL k l,st.good=true:=fun k l st hs=>by
  unfold stL at hs
  split at hs
  ·cases hs
  ·rw[List.mem_singleton.1 hs];rfl
 intro st hs
 unfold polS at hs
 rcases List.mem_append.1 hs with hs|hs
 ·exact hL _ _ st hs
 rcases List.mem_append.1 hs with hs|hs
 ·obtain⟨tag,ws,rfl⟩:=grp_shape _ st hs
  rfl
 rcases List.mem_append.1 hs with hs|hs
 ·exact hL _ _ st hs
 rcases List.mem_append.1 hs with hs|hs
 ·exact hL _ _ st hs
 rcases List.mem_append.1 hs with hs|hs
 ·exact hL _ _ st hs
 rcases List.mem_cons.1 hs with rfl|hs
 ·rfl
 rcases List.mem_append.1 hs with hs|hs
 ·obtain⟨f,hf,rfl⟩:=List.mem_map.1 hs
  rfl
 ·simp only[limS,List.mem_cons,List.not_mem_nil,or_false]at hs
  rcases hs with rfl|rfl|rfl
  ·exact good_lim hd.1 (by unfold boundB inB;rw[if_pos rfl,decide_eq_true_eq];exact hd)
  ·exact good_lim hn.1 (by unfold boundB inB;rw[if_neg (by decide),if_pos rfl,decide_eq_true_eq];exact hn)
  ·exact good_lim hv.1 (by unfold boundB inB;rw[if_neg (by decide),if_neg (by decide),decide_eq_true_eq];exact hv)
theorem no_sp {w:Bs} (h:wordB w=true): ∀c∈w,c≠32:=by
 intro c hc e
 subst e
 cases w with
 |nil=>cases hc
 |cons a r=>
  unfold wordB at h
  simp only[Bool.and_eq_true,List.all_eq_true]at h
  rcases List.mem_cons.1 hc with rfl|hc
  ·have:=h.1.2;revert this;decide
  ·have:=h.2 32 hc;revert this;decide
theorem cut_sp: ∀{x x' y y':Bs},(∀c∈x,c≠32)->(∀c∈x',c≠32)->x++32::y=x'++32::y'->x=x'/\y=y'
 |[],[],y,y',_,_,h=>by simpa using h
 |[],c::r,y,y',_,h2,h=>by
  have:(32:UInt8)=c:=(List.cons.inj h).1
  exact absurd this.symm (h2 c List.mem_cons_self)
 |c::r,[],y,y',h1,_,h=>by
  have:c=(32:UInt8):=(List.cons.inj h).1
  exact absurd this (h1 c List.mem_cons_self)
 |c::r,d::r',y,y',h1,h2,h=>by
  obtain⟨rfl,h3⟩:=List.cons.inj h
  obtain⟨h4,h5⟩:=cut_sp (fun x hx=>h1 x (List.mem_cons_of_mem _ hx)) (fun x hx=>h2 x (List.mem_cons_of_mem _ hx)) h3
  exact⟨by rw[h4],h5⟩
theorem keys_stL (k:Bs) (l:List Bs):keysS (stL k l)=[]:=by
 unfold stL
 split<;>rfl
theorem keys_grp (l:List Alw):keysS (grpA l)=[]:=by
 unfold keysS
 rw[List.filterMap_eq_nil_iff]
 intro st hs
 obtain⟨tag,ws,rfl⟩:=grp_shape l st hs
 rfl
def forK (f:Frc):Bs:=forceT++[32]++f.tag++[32]++f.name
theorem keys_for (l:List Frc):keysS (l.map forS)=l.map forK:=by
 induction l with
 |nil=>rfl
 |cons f l ih=>
  have:keysS ((f::l).map forS)=forK f::keysS (l.map forS):=rfl
  rw[this,ih];rfl
theorem polS_keys {p:Pol} (h:Rgt p):(keysS (polS p)).Nodup:=by
 have e:keysS (polS p)=relT::(p.forces.map forK++[limitT++[32]++depthT,limitT++[32]++nameT,limitT++[32]++valT]):=by
  unfold polS
  rw[keysS_app,keys_stL,keysS_app,keys_grp,keysS_app,keys_stL,keysS_app,keys_stL,keysS_app,keys_stL]
  have: ∀(x:Bs) (R:List St),keysS (St.sg relT x [] []::R)=relT::keysS R:=fun _ _=>rfl
  simp only[List.nil_append]
  rw[this,keysS_app,keys_for]
  rfl
 have hF: ∀f:Frc,∃r,forK f=102::r:=fun f=>⟨_,rfl⟩
 rw[e,List.nodup_cons,List.nodup_append]
 refine⟨?_, ?_,by decide, ?_⟩
 ·intro hm
  rcases List.mem_append.1 hm with hm|hm
  ·obtain⟨f,_,hf⟩:=List.mem_map.1 hm
   obtain⟨r,hr⟩:=hF f
   rw[hr]at hf
   exact absurd (List.cons.inj hf).1 (by decide)
  ·revert hm;decide
 ·have hn:neatL ltF p.forces=p.forces:=congrArg Pol.forces h.neat
  have hr:=neat_rise swoF p.forces
  rw[hn]at hr
  unfold List.Nodup
  rw[List.pairwise_map]
  refine List.Pairwise.imp_of_mem (fun {a b} ha hb hab he=> ?_) hr
  obtain⟨a1,a2,_⟩:=frc_parts (h.forces a ha)
  obtain⟨b1,b2,_⟩:=frc_parts (h.forces b hb)
  have e2:a.tag++32::a.name=b.tag++32::b.name:=by
   unfold forK at he
   simpa using he
  obtain⟨h1,h2⟩:=cut_sp (no_sp a1) (no_sp b1) e2
  have e1:ltF a b=(ltB a.tag b.tag||(decide (a.tag=b.tag)&&ltB a.name b.name)):=rfl
  rw[e1,h1,h2,ltB_irrefl,ltB_irrefl]at hab
  simp at hab
 ·intro x hx y hy exy
  subst exy
  obtain⟨f,_,rfl⟩:=List.mem_map.1 hx
  obtain⟨r,hr⟩:=hF f
  rw[hr]at hy
  simp only[List.mem_cons,List.not_mem_nil,or_false]at hy
  rcases hy with hy|hy|hy<;>exact absurd (List.cons.inj hy).1 (by decide)
theorem text_back {p:Pol} (h:rightP p=true) (h8:(textP p).length<=8192):parsePl (textP p)= .ok p:=by
 have hr:=rgt h
 have:=text_parse (polS_ok hr) (polS_good hr) (polS_keys hr) h8
 rw[app_polS hr.lim,hr.neat,hr.fit]at this
 exact this
theorem grp_step (a:Alw) (l:List Alw):grpA (a::l)= .nm attrsT a.tag (a.name::(l.takeWhile (fun b=>decide (b.tag=a.tag))).map Alw.name)::grpA (l.dropWhile (fun b=>decide (b.tag=a.tag))):=by
 induction l generalizing a with
 |nil=>rfl
 |cons b r ih=>
  have e:grpA (a::b::r)=grpC a (grpA (b::r)):=rfl
  rw[e,ih b,grpC_cons]
  by_cases hb:b.tag=a.tag
  ·rw[if_pos hb,List.takeWhile_cons_of_pos (by simpa using hb),List.dropWhile_cons_of_pos (by simpa using hb),hb]
   rfl
  ·rw[if_neg hb,List.takeWhile_cons_of_neg (by simpa using hb),List.dropWhile_cons_of_neg (by simpa using hb),ih b]
   rfl
def contA:Alw->List Alw->Bs
 |a,[]=>32::(a.name++[59,10])
 |a,b::r=>if b.tag=a.tag then 32::(a.name++contA b r)else 32::(a.name++([59,10]++(attrsT++(32::(b.tag++([58]++contA b r))))))
theorem text_cons (st:St) (ss:List St):textS (st::ss)=lineS st++textS ss:=rfl
theorem cont_text: ∀(l:List Alw) (a:Alw),textS (grpA (a::l))=attrsT++(32::(a.tag++([58]++contA a l)))
 |[],a=>by simp[grpA,grpC,textS,lineS,sayW,contA]
 |b::r,a=>by
  have ih:=cont_text r b
  have hg: ∃ws ss,grpA (b::r)= .nm attrsT b.tag (b.name::ws)::ss:=⟨_,_,grp_step b r⟩
  obtain⟨ws,ss,hg⟩:=hg
  have e:grpA (a::b::r)=grpC a (grpA (b::r)):=rfl
  rw[hg,text_cons]at ih
  rw[e,hg,grpC_cons]
  have e1: ∀(t:Bs) (us:List Bs),lineS (.nm attrsT t us)=attrsT++(32::(t++([58]++(sayW us++[59,10])))):=fun t us=>by simp[lineS]
  unfold contA
  by_cases hb:b.tag=a.tag
  ·rw[if_pos hb,if_pos hb,text_cons,e1]
   rw[e1,hb]at ih
   have ih2:sayW (b.name::ws)++([59,10]++textS ss)=contA b r:=by
    simpa using ih
   rw[<-ih2]
   simp[sayW]
  ·rw[if_neg hb,if_neg hb,text_cons,text_cons,e1,e1]
   rw[e1]at ih
   rw[ih]
   simp[sayW]
theorem text_app (a b:List St):textS (a++b)=textS a++textS b:=List.flatMap_append
theorem text_stL {k:Bs} (hk: ¬k=attrsT) (l:List Bs):textS (stL k l)=if l=[]then []else k++(sayW l++[59,10]):=by
 unfold stL
 by_cases hl:l=[]
 ·rw[if_pos hl,if_pos hl];rfl
 ·rw[if_neg hl,if_neg hl,text_cons]
  simp[lineS,hk,textS]
theorem tail_say (l:List Bs):tailW l=sayW l:=by
 induction l with
 |nil=>rfl
 |cons w l ih=>show [32]++w++tailW l=32::(w++sayW l);rw[ih];simp
theorem rest_cont: ∀(r:List Alw) (a:Alw),contA a r=32::(a.name++restA a.tag r)
 |[],a=>rfl
 |b::r,a=>by
  unfold contA
  rw[restA_cons,rest_cont r b]
  by_cases hb:b.tag=a.tag
  ·rw[if_pos hb,if_pos hb,hb]
  ·rw[if_neg hb,if_neg hb]
   rfl
theorem txA_grp (l:List Alw):txA l=textS (grpA l):=by
 cases l with
 |nil=>rfl
 |cons a r=>
  rw[cont_text,rest_cont]
  rfl
theorem sayN_stL {k:Bs} (hk: ¬k=attrsT) (l:List Bs):sayN k l=textS (stL k l):=by
 rw[text_stL hk]
 unfold sayN sayS
 rw[tail_say]
theorem figL_nat: ∀u:Nat,1<=u->Lib.decDigits u=figL u:=by
 intro u
 induction u using Nat.strongRecOn with
 |_ u ih=>
  intro hu
  rw[Lib.decDigits,figL_step (by omega)]
  by_cases h:u<10
  ·rw[dif_pos h,show u/10=0 by omega,figL_zero,show u%10=u by omega]
   rfl
  ·rw[dif_neg h,ih (u/10) (by omega) (by omega)]
theorem itoa_fig {n:Int} (h:1<=n):Lib.itoa n=figL n.toNat:=by
 unfold Lib.itoa
 rw[if_neg (by omega),figL_nat _ (by omega)]
theorem lims_text {p:Pol} (h:limB p=true):limsX p=textS (limS p):=by
 obtain⟨h1,h2,h3⟩:=lim_parts h
 unfold limsX limS
 rw[itoa_fig h1.1,itoa_fig h2.1,itoa_fig h3.1]
 unfold sayS
 simp only[tail_say]
 simp[textS,lineS,sayW,limT,limitT,relT,forceT,depthT,nameT,valT]
theorem forces_text (l:List Frc):l.flatMap saidF=textS (l.map forS):=by
 induction l with
 |nil=>rfl
 |cons f l ih=>
  rw[List.flatMap_cons,List.map_cons,text_cons,ih]
  congr 1
  unfold saidF sayS
  rw[tail_say]
  simp[lineS,forS,sayW,foT,forceT,relT,quoT,quoV]
theorem right_limB {p:Pol} (h:rightP p=true):limB p=true:=by
 unfold rightP at h
 simp only[Bool.and_eq_true]at h
 exact h.1.1.2
theorem txP_eq {p:Pol} (h:rightP p=true):txP p=textP p:=by
 unfold txP headX textP polS
 rw[sayN_stL (k:=tgT) (by decide),sayN_stL (k:=scT) (by decide),sayN_stL (k:=csT) (by decide),sayN_stL (k:=drT) (by decide),txA_grp,forces_text,lims_text (right_limB h)]
 simp only[text_app,text_cons]
 have e:relX p=lineS (.sg relT (if p.rel=true then yesT else noT) [] []):=by
  unfold relX
  cases p.rel<;>rfl
 rw[e]
 simp only[List.append_assoc]
 rfl
theorem tail_len {l:List Bs} {m:Nat} (h: ∀t∈l,t.length<=m):(sayW l).length<=l.length*(m+1):=by
 induction l with
 |nil=>simp[sayW]
 |cons w l ih=>
  have h1:=h w List.mem_cons_self
  have h2:=ih fun t ht=>h t (List.mem_cons_of_mem _ ht)
  simp only[sayW,List.length_cons,List.length_append,Nat.add_mul]at*
  omega
theorem rest_len {m:Nat}: ∀{l:List Alw} (t:Bs),(∀a∈l,a.tag.length<=m/\a.name.length<=m)->(restA t l).length<=2+l.length*(2*m+12)
 |[],t,_=>by simp[restA]
 |b::r,t,h=>by
  obtain⟨h1,h2⟩:=h b List.mem_cons_self
  have hr: ∀a∈r,a.tag.length<=m/\a.name.length<=m:=fun a ha=>h a (List.mem_cons_of_mem _ ha)
  have k1:=rest_len (l:=r) t hr
  have k2:=rest_len (l:=r) b.tag hr
  rw[restA_cons]
  split<;>simp only[List.length_cons,List.length_append,List.length_nil,Nat.add_mul]at* <;>omega
theorem txA_len {m:Nat} {l:List Alw} (h: ∀a∈l,a.tag.length<=m/\a.name.length<=m):(txA l).length<=2+l.length*(2*m+12):=by
 cases l with
 |nil=>simp[txA]
 |cons a r=>
  have:=rest_len (l:=a::r) (a.tag++[0]) h
  rw[restA_cons,if_neg (by intro e;have:=congrArg List.length e;simp at this)]at this
  unfold txA
  simp only[List.length_cons,List.length_append,List.length_nil]at*
  omega
theorem esc_le (l:Bs):(esc l).length<=2*l.length:=by
 induction l with
 |nil=>simp[esc]
 |cons c l ih=>unfold esc;split<;>simp only[List.length_cons]at* <;>omega
theorem quo_len (z:Bs):(quoV z).length<=2*z.length+2:=by
 unfold quoV quoteL
 split
 ·simp
 ·have:=esc_le z
  simp only[Option.getD_some,List.length_cons,List.length_append,List.length_nil]
  omega
theorem frcs_len {m:Nat} {l:List Frc} (h: ∀a∈l,a.tag.length<=m/\a.name.length<=m/\a.value.length<=m):(l.flatMap saidF).length<=l.length*(4*m+12):=by
 induction l with
 |nil=>simp
 |cons f l ih=>
  obtain⟨h1,h2,h3⟩:=h f List.mem_cons_self
  have k:=ih fun a ha=>h a (List.mem_cons_of_mem _ ha)
  have q:=quo_len f.value
  have e:(saidF f).length=5+((1+f.tag.length)+((1+f.name.length)+(1+(quoV f.value).length))+2):=by
   unfold saidF sayS
   rw[tail_say]
   simp[sayW,foT]
   omega
  rw[List.flatMap_cons,List.length_append,e]
  simp only[List.length_cons,Nat.add_mul]at*
  omega
theorem sayN_len {k:Bs} {l:List Bs} {m:Nat} (h: ∀t∈l,t.length<=m):(sayN k l).length<=k.length+(l.length*(m+1)+2):=by
 unfold sayN sayS
 split
 ·simp
 ·have:=tail_len h
  rw[tail_say]
  simp only[List.length_append,List.length_cons,List.length_nil]
  omega
theorem right_fit {p:Pol} (h:rightP p=true):fitB p=true:=by
 unfold rightP at h
 simp only[Bool.and_eq_true]at h
 exact h.1.2
theorem tell_of {p:Pol} (hk:PolBk p 1048576):Tellable p:=by
 refine⟨hk.sm,hk.tx,fun hr=> ?_⟩
 have hf:=right_fit hr
 unfold fitB at hf
 simp only[decide_eq_true_eq]at hf
 obtain⟨f0,f1,f2,f3,f4,f5⟩:=hf
 have a0:=sayN_len (k:=tgT) hk.tags
 have a1:=sayN_len (k:=scT) hk.schemes
 have a2:=sayN_len (k:=csT) hk.css
 have a3:=sayN_len (k:=drT) hk.drops
 have a4:=txA_len hk.attrs
 have a5:=frcs_len hk.forces
 have b0:=Nat.mul_le_mul_right (1048576+1) f0
 have b1:=Nat.mul_le_mul_right (1048576+1) f1
 have b2:=Nat.mul_le_mul_right (1048576+1) f2
 have b3:=Nat.mul_le_mul_right (1048576+1) f3
 have b4:=Nat.mul_le_mul_right (2*1048576+12) f4
 have b5:=Nat.mul_le_mul_right (4*1048576+12) f5
 have r:(relX p).length<=100:=by unfold relX;cases p.rel<;>decide
 have hl:=right_lims hr
 have t1:=Lib.itoa_length_le p.depth (by omega) (by omega)
 have t2:=Lib.itoa_length_le p.name (by omega) (by omega)
 have t3:=Lib.itoa_length_le p.value (by omega) (by omega)
 have l:(limsX p).length<=500:=by
  unfold limsX sayS
  simp only[tail_say,sayW,List.length_append,List.length_cons,List.length_nil,limT]
  omega
 have k0:tgT.length=4:=rfl
 have k1:scT.length=7:=rfl
 have k2:csT.length=3:=rfl
 have k3:drT.length=4:=rfl
 unfold txP headX
 simp only[List.length_append]
 omega
end Go.Proofs.YtbhhgbgfaemfdaaGreatDoor
