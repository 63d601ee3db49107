/- Plain laws: pictures as text are parsed as they were. No program in sight. -/
import Derived.Test.YtiikamobcmgekaaGreatDoorKB
namespace Go.Proofs.YtiikamobcmgekaaGreatDoor
structure Pic where
 url:Bs
 size:Bs
 deriving DecidableEq
def sepB (c:UInt8):Bool:=spB c||decide (c.toNat=44)
def szL:Nat->Bs->Nat
 |_,[]=>0
 |d,c::r=>if c.toNat=44/\d=0 then 0 else 1+szL (if c.toNat=40 then d+1 else if c.toNat=41 then d-1 else d) r
def wordsA:Bs->Bs->List Bs
 |w,[]=>if w=[]then []else [w]
 |w,c::r=>if spB c then(if w=[]then wordsA [] r else w::wordsA [] r)else wordsA (w++[c]) r
def wordsL (l:Bs):List Bs:=wordsA [] l
def joinBs (sep:Bs):List Bs->Bs
 |[]=>[]
 |[x]=>x
 |x::y::r=>x++sep++joinBs sep (y::r)
def trimC (l:Bs):Bs:=(l.reverse.dropWhile (fun c=>decide (c.toNat=44))).reverse
def endsC (l:Bs):Bool:=match l.getLast? with
 |some c=>decide (c.toNat=44)
 |none=>false
def picF:Nat->Bs->List Pic
 |0,_=>[]
 |n+1,l=>match l.dropWhile sepB with
  |[]=>[]
  |c::r=>
   if endsC ((c::r).takeWhile (fun c=> !spB c))then⟨trimC ((c::r).takeWhile (fun c=> !spB c)),[]⟩::picF n ((c::r).dropWhile (fun c=> !spB c))
   else⟨(c::r).takeWhile (fun c=> !spB c),joinBs [32] (wordsL (((c::r).dropWhile (fun c=> !spB c)).take (szL 0 ((c::r).dropWhile (fun c=> !spB c)))))⟩::picF n (((c::r).dropWhile (fun c=> !spB c)).drop (szL 0 ((c::r).dropWhile (fun c=> !spB c))))
def picL (l:Bs):List Pic:=picF (l.length+1) l
def toldP' (p:Pic):Bs:=if p.size=[]then p.url else p.url++32::p.size
def textP (l:List Pic):Bs:=joinBs [44,32] (l.map toldP')
def sizeTail:Bs->Bool
 |[120]=>true
 |_=>false
def sizeB (s:Bs):Bool:=
 if s=[]then true
 else
  let n:=(s.takeWhile digB).length
  if n<1\/9<n then false
  else match s.dropWhile digB with
   |[119]=>(s.takeWhile digB).any (fun c=>decide (c.toNat≠48))
   |46::r=>decide (1<=(r.takeWhile digB).length)&&decide ((r.takeWhile digB).length<=9)&&sizeTail (r.dropWhile digB)
   |t=>sizeTail t
def okP (p:Pic):Bool:=match p.url with
 |[]=>false
 |c::r=>decide (c.toNat≠44)&& !endsC (c::r)&&(c::r).all (fun c=> !spB c)&&sizeB p.size
theorem drop_while_len (p:UInt8->Bool) (l:Bs):(l.dropWhile p).length<=l.length:=(List.dropWhile_sublist p).length_le
theorem tail_len {c:UInt8} {r:Bs} (h:spB c=false):((c::r).dropWhile (fun c=> !spB c)).length<=r.length:=by
 rw[List.dropWhile_cons_of_pos (by simp[h])]
 exact drop_while_len _ r
theorem sep_head {l:Bs} {c:UInt8} {r:Bs} (h:l.dropWhile sepB=c::r):sepB c=false:=by
 have:=List.head?_dropWhile_not sepB l
 rw[h]at this
 simpa using this
theorem sep_sp {c:UInt8} (h:sepB c=false):spB c=false:=by
 unfold sepB at h
 simp at h;exact h.1
theorem pic_more: ∀(n m:Nat) (l:Bs),l.length<n->l.length<m->picF n l=picF m l:=by
 intro n
 induction n with
 |zero=>intro m l h;omega
 |succ n ih=>
  intro m l h1 h2
  cases m with
  |zero=>omega
  |succ m=>
   rw[picF,picF]
   split
   ·rfl
   ·rename_i c r hd
    have hs:=sep_sp (sep_head hd)
    have h3:=tail_len (r:=r) hs
    have h4:=drop_while_len sepB l
    rw[hd]at h4
    simp at h4
    have h5:(((c::r).dropWhile (fun c=> !spB c)).drop (szL 0 ((c::r).dropWhile (fun c=> !spB c)))).length<=r.length:=by
     rw[List.length_drop];omega
    rw[ih m _ (by omega) (by omega),ih m _ (by omega) (by omega)]
theorem pic_sep {c:UInt8} {r:Bs} (h:sepB c=true):picL (c::r)=picL r:=by
 unfold picL
 rw[pic_more ((c::r).length+1) (r.length+2) _ (by simp) (by simp)]
 rw[pic_more (r.length+1) (r.length+2) r (by omega) (by omega)]
 rw[picF,picF,List.dropWhile_cons_of_pos h]
theorem pic_nil:picL []=[]:=rfl
theorem pic_round {c:UInt8} {r:Bs} (h:sepB c=false):picL (c::r)=
  if endsC ((c::r).takeWhile (fun c=> !spB c))then⟨trimC ((c::r).takeWhile (fun c=> !spB c)),[]⟩::picL ((c::r).dropWhile (fun c=> !spB c))
  else⟨(c::r).takeWhile (fun c=> !spB c),joinBs [32] (wordsL (((c::r).dropWhile (fun c=> !spB c)).take (szL 0 ((c::r).dropWhile (fun c=> !spB c)))))⟩::picL (((c::r).dropWhile (fun c=> !spB c)).drop (szL 0 ((c::r).dropWhile (fun c=> !spB c)))):=by
 unfold picL
 rw[picF,List.dropWhile_cons_of_neg (by simp[h])]
 have h3:=tail_len (r:=r) (sep_sp h)
 have h5:(((c::r).dropWhile (fun c=> !spB c)).drop (szL 0 ((c::r).dropWhile (fun c=> !spB c)))).length<=r.length:=by
  rw[List.length_drop];omega
 dsimp only
 rw[pic_more (c::r).length _ _ (by simp;omega) (Nat.lt_succ_self _)]
 rw[pic_more (c::r).length _ _ (by simp;simp at h5;omega) (Nat.lt_succ_self _)]
theorem words_run (w:Bs): ∀(acc r:Bs),w.all (fun c=> !spB c)=true->wordsA acc (w++r)=wordsA (acc++w) r:=by
 induction w with
 |nil=>intro acc r _;simp
 |cons c w ih=>
  intro acc r h
  simp at h
  rw[List.cons_append,wordsA,if_neg (by simp[h.1]),ih _ _ (by simpa using h.2)];simp
theorem words_sp (c:UInt8) (r:Bs) (h:spB c=true):wordsL (c::r)=wordsL r:=by
 unfold wordsL
 rw[wordsA,if_pos h,if_pos rfl]
theorem words_one {w:Bs} (h:w.all (fun c=> !spB c)=true) (hn:w≠[]):wordsL w=[w]:=by
 unfold wordsL
 have:=words_run w [] [] h
 rw[List.append_nil,List.nil_append]at this
 rw[this,wordsA,if_neg hn]
theorem words_end {w:Bs} (h:w.all (fun c=> !spB c)=true) (hn:w≠[]):wordsL (w++[32])=[w]:=by
 unfold wordsL
 rw[words_run w [] [32] h,List.nil_append,wordsA,if_pos (by rfl),if_neg hn];rfl
theorem sz_plain (s:Bs): ∀r,(∀c∈s,c.toNat≠40/\c.toNat≠41/\c.toNat≠44)->szL 0 (s++r)=s.length+szL 0 r:=by
 induction s with
 |nil=>intro r _;simp
 |cons c s ih=>
  intro r h
  obtain⟨h1,h2,h3⟩:=h c (by simp)
  rw[List.cons_append,szL,if_neg (by omega),if_neg h1,if_neg h2,ih r fun d hd=>h d (by simp[hd])]
  simp;omega
theorem sz_comma (r:Bs):szL 0 (44::r)=0:=rfl
theorem tail_bytes {t:Bs} (h:sizeTail t=true):t=[120]:=by
 unfold sizeTail at h
 split at h
 ·rfl
 ·cases h
def szB (c:UInt8):Bool:=digB c||decide (c.toNat=46)||decide (c.toNat=119)||decide (c.toNat=120)
theorem take_dig (s:Bs): ∀c∈s.takeWhile digB,szB c=true:=by
 intro c hc
 have:=List.all_takeWhile (p:=digB) (l:=s)
 rw[List.all_eq_true]at this
 unfold szB;simp[this c hc]
theorem size_bytes {s:Bs} (h:sizeB s=true): ∀c∈s,szB c=true:=by
 by_cases hs:s=[]
 ·subst hs;intro c hc;cases hc
 ·rw[sizeB,if_neg hs]at h
  dsimp only at h
  split at h
  ·cases h
  ·intro c hc
   rw[<-List.takeWhile_append_dropWhile (p:=digB) (l:=s),List.mem_append]at hc
   rcases hc with hc|hc
   ·exact take_dig s c hc
   ·split at h
    ·rename_i he;rw[he]at hc;simp at hc;subst hc;rfl
    ·rename_i r he
     rw[he]at hc
     simp only[Bool.and_eq_true]at h
     rw[List.mem_cons,<-List.takeWhile_append_dropWhile (p:=digB) (l:=r),List.mem_append,tail_bytes h.2]at hc
     rcases hc with rfl|hc|hc
     ·rfl
     ·exact take_dig r c hc
     ·simp at hc;subst hc;rfl
    ·rw[tail_bytes h]at hc;simp at hc;subst hc;rfl
theorem szB_ok {c:UInt8} (h:szB c=true):spB c=false/\c.toNat≠40/\c.toNat≠41/\c.toNat≠44:=by
 unfold szB digB at h
 unfold spB
 simp at h ⊢
 omega
theorem take_run (u:Bs) (r:Bs) (h:u.all (fun c=> !spB c)=true) (hr:r.takeWhile (fun c=> !spB c)=[]):(u++r).takeWhile (fun c=> !spB c)=u/\(u++r).dropWhile (fun c=> !spB c)=r:=by
 have hd:r.dropWhile (fun c=> !spB c)=r:=by
  have:=List.takeWhile_append_dropWhile (p:=fun c=> !spB c) (l:=r)
  rw[hr,List.nil_append]at this;exact this
 rw[List.all_eq_true]at h
 exact⟨by rw[List.takeWhile_append_of_pos h,hr,List.append_nil],by rw[List.dropWhile_append_of_pos h,hd]⟩
theorem ends_app (u:Bs) (c:UInt8):endsC (u++[c])=decide (c.toNat=44):=by
 unfold endsC
 rw[List.getLast?_concat]
theorem trim_ends {u:Bs} (h:endsC u=false):trimC (u++[44])=u:=by
 unfold trimC
 rw[List.reverse_append]
 show(List.dropWhile _ (44::u.reverse)).reverse=u
 rw[List.dropWhile_cons_of_pos (by rfl)]
 cases hr:u.reverse with
 |nil=>simp at hr;subst hr;rfl
 |cons c r=>
  have hu:u=r.reverse++[c]:=by
   have:=congrArg List.reverse hr
   simpa using this
  rw[hu,ends_app]at h
  rw[List.dropWhile_cons_of_neg (by simpa using h),<-hr,List.reverse_reverse]
theorem okP_parts {p:Pic} (h:okP p=true): ∃c r,p.url=c::r/\sepB c=false/\endsC (c::r)=false/\(c::r).all (fun c=> !spB c)=true/\sizeB p.size=true:=by
 unfold okP at h
 split at h
 ·cases h
 ·rename_i c r he
  simp only[Bool.and_eq_true]at h
  obtain⟨⟨⟨h1,h2⟩,h3⟩,h4⟩:=h
  refine⟨c,r,he, ?_,by simpa using h2,h3,h4⟩
  unfold sepB
  simp at h1 h3 ⊢
  exact⟨h3.1,h1⟩
def Behind (r:Bs):Prop:=r=[]\/ ∃x,r=44::32::x\/r=32::44::x
theorem pic_told {p:Pic} (h:okP p=true) {r:Bs} (hr:Behind r):picL (toldP' p++r)=p::picL r:=by
 obtain⟨c,u,hu,h1,h2,h3,h4⟩:=okP_parts h
 obtain⟨url,size⟩:=p
 dsimp only at hu h4
 subst hu
 unfold toldP'
 dsimp only
 by_cases hs:size=[]
 ·rw[if_pos hs]
  subst hs
  rcases hr with rfl|⟨x,rfl|rfl⟩
  ·obtain⟨e1,e2⟩:=take_run (c::u) [] h3 rfl
   rw[List.cons_append]at e1 e2 ⊢
   rw[pic_round h1,e1,e2,if_neg (by rw[h2];decide)];rfl
  ·have h5:(c::u++[44]).all (fun c=> !spB c)=true:=by rw[List.all_append,h3];rfl
   obtain⟨e1,e2⟩:=take_run (c::u++[44]) (32::x) h5 (by rw[List.takeWhile_cons_of_neg (by decide)])
   have e:c::u++44::32::x=c::u++[44]++32::x:=by simp
   rw[e]
   rw[List.cons_append,List.cons_append]at e1 e2 ⊢
   rw[pic_round h1,e1,e2,<-List.cons_append,if_pos (by rw[ends_app];rfl),trim_ends h2,pic_sep (c:=44) (by decide)]
  ·obtain⟨e1,e2⟩:=take_run (c::u) (32::44::x) h3 (by rw[List.takeWhile_cons_of_neg (by decide)])
   rw[List.cons_append]at e1 e2 ⊢
   rw[pic_round h1,e1,e2,if_neg (by rw[h2];decide),pic_sep (c:=32) (by decide)];rfl
 ·rw[if_neg hs]
  have hb:=size_bytes h4
  have hsp:size.all (fun c=> !spB c)=true:=by
   rw[List.all_eq_true];intro d hd;simp[(szB_ok (hb d hd)).1]
  have hpl: ∀d∈32::size,d.toNat≠40/\d.toNat≠41/\d.toNat≠44:=by
   intro d hd
   rcases List.mem_cons.1 hd with rfl|hd
   ·decide
   ·exact(szB_ok (hb d hd)).2
  obtain⟨e1,e2⟩:=take_run (c::u) (32::size++r) h3 (by rw[List.cons_append,List.takeWhile_cons_of_neg (by decide)])
  have e:c::u++32::size++r=c::u++(32::size++r):=by simp
  rw[e]
  rw[List.cons_append]at e1 e2 ⊢
  rw[pic_round h1,e1,e2,if_neg (by rw[h2];decide),sz_plain _ _ hpl]
  rcases hr with rfl|⟨x,rfl|rfl⟩
  ·rw[show szL 0 []=0 from rfl,List.append_nil,Nat.add_zero,List.take_length,List.drop_length,words_sp _ _ (by decide),words_one hsp hs];rfl
  ·rw[sz_comma,Nat.add_zero,List.take_left,List.drop_left,words_sp _ _ (by decide),words_one hsp hs];rfl
  ·have e3:szL 0 (32::44::x)=1:=rfl
   have e4:32::size++32::44::x=(32::size++[32])++44::x:=by simp
   have e5:(32::size).length+1=(32::size++[32]).length:=by simp
   rw[e3,e4,e5,List.take_left,List.drop_left,List.cons_append,words_sp _ _ (by decide),words_end hsp hs,pic_sep (c:=32) (by decide)];rfl
theorem pic_text: ∀(l:List Pic) (r:Bs),l.all okP=true->Behind r->picL (textP l++r)=l++picL r:=by
 intro l
 induction l with
 |nil=>intro r _ _;rfl
 |cons p l ih=>
  intro r h hr
  rw[List.all_cons,Bool.and_eq_true]at h
  cases l with
  |nil=>exact pic_told h.1 hr
  |cons q l=>
   have e:textP (p::q::l)++r=toldP' p++(44::32::(textP (q::l)++r)):=by
    simp[textP,joinBs]
   rw[e,pic_told h.1 (Or.inr ⟨_,Or.inl rfl⟩),pic_sep (c:=44) (by decide),pic_sep (c:=32) (by decide),ih r h.2 hr];rfl
theorem pic_back (l:List Pic) (h:l.all okP=true):picL (textP l)=l:=by
 have:=pic_text l [] h (Or.inl rfl)
 simpa[pic_nil]using this
end Go.Proofs.YtiikamobcmgekaaGreatDoor
