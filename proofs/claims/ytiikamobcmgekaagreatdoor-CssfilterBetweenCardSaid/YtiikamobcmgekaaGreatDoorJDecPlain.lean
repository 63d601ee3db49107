/- Plain laws: declarations of styles. No program in sight. -/
import Derived.Test.YtiikamobcmgekaaGreatDoorRowU
import Derived.Test.YtiikamobcmgekaaGreatDoorKB
namespace Go.Proofs.YtiikamobcmgekaaGreatDoor
def begB (c:UInt8):Bool:=letB c||decide (c.toNat=95)
def goB (c:UInt8):Bool:=begB c||digB c||decide (c.toNat=45)
def sgB (c:UInt8):Bool:=decide (c.toNat=43\/c.toNat=45)
def qtB (c:UInt8):Bool:=decide (c.toNat=34\/c.toNat=39)
def plB (c:UInt8):Bool:=decide (32<=c.toNat/\c.toNat≠127/\c.toNat≠92/\c.toNat≠34/\c.toNat≠39)
def mkB (c:UInt8):Bool:=[58,59,44,40,41,47,33,42,43,46,62,61,45].contains c
def twc (p:UInt8->Bool) (l:Bs):Nat:=(l.takeWhile p).length
structure Css where
 kind:Int
 text:Bs
 num:Int
 unit:Bs
deriving DecidableEq
def badC:Css:=⟨7,[],0,[]⟩
def namedC (k:Int) (t:Bs):Css:=if 64<t.length then badC else⟨k,lowL t,0,[]⟩
def nameB:Bs->Bool
 |[]=>false
 |c::r=>begB c||(decide (c.toNat=45)&&match r with
  |[]=>false
  |d::_=>begB d)
def hd (p:UInt8->Bool):Bs->Bool
 |[]=>false
 |c::_=>p c
def nameC (s:Bs):Css × Nat:=
 if 64<twc goB s then(badC,twc goB s)
 else if hd (fun c=>decide (c.toNat=40)) (s.drop (twc goB s))then(⟨2,lowL (s.take (twc goB s)),0,[]⟩,twc goB s+1)
 else(⟨1,lowL (s.take (twc goB s)),0,[]⟩,twc goB s)
def sgN (s:Bs):Nat:=if hd sgB s then 1 else 0
def dotN:Bs->Nat
 |[]=>0
 |c::r=>if c.toNat=46 then twc digB r else 0
def unitN:Bs->Nat
 |[]=>0
 |c::r=>if c.toNat=37 then 1 else if letB c then twc goB (c::r)else 0
def valL (ds:Bs):Nat:=ds.foldl (fun n c=>n*10+(c.toNat-48)) 0
structure Num where
 neg:Bool
 whole:Bs
 part:Bs
 unit:Bs
 tu:Nat
def numP (s:Bs):Num:=
 let u:=s.drop (sgN s)
 let v:=u.drop (twc digB u)
 let r:=if dotN v=0 then v else v.drop (dotN v+1)
 ⟨hd (fun c=>decide (c.toNat=45)) s,u.take (twc digB u),(v.drop 1).take (dotN v),r.take (unitN r),sgN s+twc digB u+(if dotN v=0 then 0 else dotN v+1)⟩
def numOf (x:Num):Option (Css × Nat):=
 if x.whole=[]/\x.part=[]then none
 else if 6<x.whole.length\/3<x.part.length\/64<x.unit.length then some (badC,x.tu+x.unit.length)
 else some (⟨3,[],if x.neg then-(valL (x.whole++x.part++List.replicate (3-x.part.length) 48):Int)else valL (x.whole++x.part++List.replicate (3-x.part.length) 48),lowL x.unit⟩,x.tu+x.unit.length)
def numC (s:Bs):Option (Css × Nat):=numOf (numP s)
def quotC:Bs->Option (Css × Nat)
 |[]=>none
 |c::r=>if qtB c&&hd (fun d=>decide (d=c)) (r.drop (twc plB r))then some (⟨5,r.take (twc plB r),0,[]⟩,twc plB r+2)else none
def pieceC (s:Bs):Css × Nat:=
 if nameB s then nameC s
 else match numC s with
 |some x=>x
 |none=>match quotC s with
  |some x=>x
  |none=>match s with
   |[]=>(badC,1)
   |c::r=>if c.toNat=35/\0<twc goB r then(namedC 4 (r.take (twc goB r)),twc goB r+1)else if mkB c then(⟨6,[c],0,[]⟩,1)else(badC,1)
def blkM:Nat->Bs->Bs
 |_,[]=>[]
 |0,c::r=>if spB c then blkM 0 r else if c.toNat=47/\hd (fun d=>decide (d.toNat=42)) r=true then blkM 1 r else c::r
 |1,_::r=>blkM 2 r
 |2,c::r=>if c.toNat=42/\hd (fun d=>decide (d.toNat=47)) r=true then blkM 3 r else blkM 2 r
 |_,_::r=>blkM 0 r
def cssF:Nat->Bs->List Css
 |0,_=>[]
 |f+1,s=>match blkM 0 s with
  |[]=>[]
  |c::r=>(pieceC (c::r)).1::cssF f ((c::r).drop (pieceC (c::r)).2)
def cssL (s:Bs):List Css:=cssF (s.length+1) s
def fgB (d:Nat):UInt8:=UInt8.ofNat (48+d)
def figF:Nat->Nat->Bs
 |0,n=>[fgB (n%10)]
 |f+1,n=>if n<10 then [fgB n]else figF f (n/10)++[fgB (n%10)]
def figL (n:Nat):Bs:=figF 20 n
def fracL (p:Nat):Bs:=
 if p=0 then []else 46::fgB (p/100)::(if p%100=0 then []else fgB (p/10%10)::(if p%10=0 then []else [fgB (p%10)]))
def figuresL (n:Int):Bs:=(if n<0 then [45]else [])++figL (n.natAbs/1000)++fracL (n.natAbs%1000)
def toldC (x:Css):Bs:=
 if x.kind=1\/x.kind=6 then x.text else if x.kind=2 then x.text++[40]else if x.kind=3 then figuresL x.num++x.unit
 else if x.kind=4 then 35::x.text else if x.kind=5 then 34::x.text++[34]else []
def rightC (x:Css):Bool:=decide (x.kind≠7)&&decide (cssL (toldC x)=[x])
def joinC:List Bs->Bs
 |[]=>[]
 |[u]=>u
 |u::v::l=>u++32::joinC (v::l)
def textC (l:List Css):Bs:=joinC (l.map toldC)
theorem twc_le (p:UInt8->Bool) (l:Bs):twc p l<=l.length:=(List.takeWhile_sublist p).length_le
theorem twc_take (p:UInt8->Bool) (l:Bs):l.take (twc p l)=l.takeWhile p:=by
 unfold twc
 induction l with
 |nil=>rfl
 |cons c r ih=>by_cases h:p c<;>simp[h,ih]
theorem twc_drop (p:UInt8->Bool) (l:Bs):l.drop (twc p l)=l.dropWhile p:=by
 unfold twc
 induction l with
 |nil=>rfl
 |cons c r ih=>by_cases h:p c<;>simp[h,ih]
theorem twc_stop (p:UInt8->Bool) (s r:Bs) (h:hd p r=false):twc p (s++r)=twc p s:=by
 unfold twc
 induction s with
 |nil=>
  cases r with
  |nil=>rfl
  |cons c r=>simp[hd]at h;simp[h]
 |cons c s ih=>by_cases hc:p c<;>simp[hc,ih]
theorem twc_all (p:UInt8->Bool) (s:Bs) (h:s.all p=true):twc p s=s.length:=by
 unfold twc
 induction s with
 |nil=>rfl
 |cons c s ih=>
  simp only[List.all_cons,Bool.and_eq_true]at h
  simp[h.1,ih h.2]
theorem all_take (p:UInt8->Bool) (s:Bs):(s.take (twc p s)).all p=true:=by
 rw[twc_take]
 induction s with
 |nil=>rfl
 |cons c s ih=>by_cases hc:p c<;>simp[hc,ih]
theorem twc_run (p:UInt8->Bool) (s r:Bs) (h:s.all p=true) (hr:hd p r=false):twc p (s++r)=s.length:=by
 rw[twc_stop p s r hr,twc_all p s h]
theorem twc_ge (p:UInt8->Bool) (s r:Bs) (h:s.all p=true):s.length<=twc p (s++r):=by
 unfold twc
 induction s with
 |nil=>simp
 |cons c s ih=>
  simp only[List.all_cons,Bool.and_eq_true]at h
  simp[h.1];exact ih h.2
theorem hd_app (p:UInt8->Bool) (s r:Bs):hd p (s++r)=if s=[]then hd p r else hd p s:=by
 cases s<;>simp[hd]
def endB (c:UInt8):Bool:=spB c||decide (c.toNat=58\/c.toNat=59)
def Ends (r:Bs):Prop:=r=[]\/ ∃c t,r=c::t/\endB c=true
theorem sp_no {c:UInt8} (h:endB c=true):goB c=false/\digB c=false/\begB c=false/\letB c=false/\sgB c=false/\c.toNat≠40/\c.toNat≠46/\c.toNat≠37/\c.toNat≠42/\c.toNat≠47/\c.toNat≠45:=by
 simp only[endB,spB,goB,digB,begB,letB,sgB,upB,lowB,decide_eq_true_eq,Bool.or_eq_true,Bool.or_eq_false_iff,decide_eq_false_iff_not]at*
 omega
theorem Ends.hd {r:Bs} (h:Ends r) (p:UInt8->Bool) (hp: ∀c,endB c=true->p c=false):hd p r=false:=by
 rcases h with rfl|⟨c,t,rfl,hc⟩
 ·rfl
 ·exact hp c hc
theorem drop_app (s r:Bs) (n:Nat) (h:n<=s.length):(s++r).drop n=s.drop n++r:=List.drop_append_of_le_length h
theorem take_app (s r:Bs) (n:Nat) (h:n<=s.length):(s++r).take n=s.take n:=List.take_append_of_le_length h
theorem nameB_app {s r:Bs} (hs:s≠[]) (h:Ends r):nameB (s++r)=nameB s:=by
 cases s with
 |nil=>exact absurd rfl hs
 |cons c s=>
  cases s with
  |nil=>
   rcases h with rfl|⟨d,t,rfl,hd⟩
   ·rfl
   ·simp[nameB,(sp_no hd).2.2.1]
  |cons d s=>rfl
theorem nameC_app {s r:Bs} (h:Ends r):nameC (s++r)=nameC s:=by
 have h1:twc goB (s++r)=twc goB s:=twc_stop _ _ _ (h.hd _ fun c hc=>(sp_no hc).1)
 have hle:=twc_le goB s
 unfold nameC
 rw[h1,drop_app _ _ _ hle,take_app _ _ _ hle,hd_app]
 split
 ·rfl
 ·by_cases hd0:s.drop (twc goB s)=[]
  ·rw[if_pos hd0,hd0,h.hd _ fun c hc=>by simp[(sp_no hc).2.2.2.2.2.1]]
   rfl
  ·rw[if_neg hd0]
theorem dotN_app {s r:Bs} (h:Ends r):dotN (s++r)=dotN s:=by
 cases s with
 |nil=>
  rcases h with rfl|⟨c,t,rfl,hc⟩
  ·rfl
  ·simp[dotN,(sp_no hc).2.2.2.2.2.2.1]
 |cons c s=>
  simp only[List.cons_append,dotN]
  split
  ·exact twc_stop _ _ _ (h.hd _ fun c hc=>(sp_no hc).2.1)
  ·rfl
theorem unitN_app {s r:Bs} (h:Ends r):unitN (s++r)=unitN s:=by
 cases s with
 |nil=>
  rcases h with rfl|⟨c,t,rfl,hc⟩
  ·rfl
  ·simp[unitN,(sp_no hc).2.2.2.2.2.2.2.1,(sp_no hc).2.2.2.1]
 |cons c s=>
  simp only[List.cons_append,unitN]
  split
  ·rfl
  ·split
   ·exact twc_stop _ (c::s) _ (h.hd _ fun c hc=>(sp_no hc).1)
   ·rfl
theorem dotN_le (s:Bs):dotN s=0\/dotN s+1<=s.length:=by
 cases s with
 |nil=>exact .inl rfl
 |cons c s=>
  simp only[dotN]
  split
  ·have:=twc_le digB s;right;simp;exact this
  ·exact .inl rfl
theorem unitN_le (s:Bs):unitN s<=s.length:=by
 cases s with
 |nil=>exact Nat.le_refl _
 |cons c s=>
  simp only[unitN]
  split
  ·simp
  ·split
   ·exact twc_le goB (c::s)
   ·simp
theorem sgN_le (s:Bs):sgN s<=s.length:=by
 unfold sgN
 cases s with
 |nil=>simp[hd]
 |cons c r=>by_cases h:sgB c=true<;>simp[hd,h]
theorem numP_app {s r:Bs} (hs:s≠[]) (h:Ends r):numP (s++r)=numP s:=by
 have h1:sgN (s++r)=sgN s:=by unfold sgN;rw[hd_app,if_neg hs]
 have h0:hd (fun c=>decide (c.toNat=45)) (s++r)=hd (fun c=>decide (c.toNat=45)) s:=by rw[hd_app,if_neg hs]
 have h2: ∀u:Bs,twc digB (u++r)=twc digB u:=fun u=>twc_stop _ _ _ (h.hd _ fun c hc=>(sp_no hc).2.1)
 have h3:=sgN_le s
 unfold numP
 simp only[h0,h1,drop_app s r _ h3,h2]
 generalize s.drop (sgN s)=u
 rw[drop_app u r _ (twc_le digB u),take_app u r _ (twc_le digB u)]
 generalize hv:u.drop (twc digB u)=v
 rw[dotN_app h]
 rcases dotN_le v with hd0|hd1
 ·simp only[hd0,if_true,List.take_zero,unitN_app h]
  rw[take_app v r _ (unitN_le v)]
 ·have hne:dotN v≠0\/dotN v=0:=by omega
  rcases hne with hne|hne
  ·simp only[if_neg hne]
   rw[drop_app v r 1 (by omega),drop_app v r _ hd1,take_app (v.drop 1) r _ (by simp;omega),unitN_app h,take_app _ r _ (unitN_le _)]
  ·simp only[hne,if_true,List.take_zero,unitN_app h]
   rw[take_app v r _ (unitN_le v)]
theorem quotC_app {s r:Bs} {x:Css × Nat} (hq:quotC s=some x):quotC (s++r)=some x:=by
 cases s with
 |nil=>simp[quotC]at hq
 |cons c s=>
  simp only[quotC]at hq
  split at hq
  ·rename_i h
   rw[Bool.and_eq_true]at h
   obtain⟨hq1,hq2⟩:=h
   have hlt:twc plB (s++r)=twc plB s/\hd (fun d=>decide (d=c)) ((s++r).drop (twc plB s))=true:=by
    have hle:=twc_le plB s
    generalize hd0:s.drop (twc plB s)=t at hq2
    cases t with
    |nil=>simp[hd]at hq2
    |cons d t=>
     have hpl:plB d=false:=by
      simp[hd]at hq2
      subst hq2
      simp[qtB]at hq1
      simp only[plB,decide_eq_false_iff_not];omega
     have hs:s=s.take (twc plB s)++d::t:=by rw[<-hd0];exact(List.take_append_drop _ _).symm
     refine⟨?_,by rw[drop_app _ _ _ hle,hd0];exact hq2⟩
     have e1:twc plB (s++r)=(s.take (twc plB s)).length:=by
      conv=>lhs;rw[hs,List.append_assoc]
      exact twc_run _ _ _ (all_take plB s) hpl
     rw[e1,List.length_take];omega
   simp only[List.cons_append,quotC,hlt.1,hq1,hlt.2,Bool.and_self,if_true]
   rw[take_app _ _ _ (twc_le plB s)]
   exact hq
  ·cases hq
theorem piece_app {s r:Bs} (hs:s≠[]) (h:Ends r) (hb:(pieceC s).1.kind≠7):pieceC (s++r)=pieceC s:=by
 unfold pieceC at hb ⊢
 rw[nameB_app hs h]
 cases hn:nameB s
 ·rw[hn]at hb
  simp only[Bool.false_eq_true,if_false]at hb ⊢
  rw[show numC (s++r)=numC s from by unfold numC;rw[numP_app hs h]]
  cases hm:numC s with
  |some x=>rfl
  |none=>
   rw[hm]at hb
   cases hq:quotC s with
   |some x=>rw[quotC_app hq]
   |none=>
    rw[hq]at hb
    cases s with
    |nil=>exact absurd rfl hs
    |cons c s=>
     have hqt:qtB c=false:=by
      cases hc:qtB c
      ·rfl
      ·exfalso
       apply hb
       have h35:c.toNat≠35:=by simp[qtB]at hc;omega
       have hmk:mkB c=false:=by
        simp[qtB]at hc
        unfold mkB
        rcases hc with hc|hc
        ·have:c=34:=UInt8.toNat_inj.1 hc
         subst this;decide
        ·have:c=39:=UInt8.toNat_inj.1 hc
         subst this;decide
       simp[h35,hmk,badC]
     have hq2:quotC (c::s++r)=none:=by simp[quotC,hqt]
     have ht:twc goB (s++r)=twc goB s:=twc_stop _ _ _ (h.hd _ fun c hc=>(sp_no hc).1)
     rw[hq2]
     simp only[List.cons_append,ht,take_app _ _ _ (twc_le goB s)]
 ·simp only[if_true,nameC_app h]
theorem nameB_pos {s:Bs} (h:nameB s=true):1<=twc goB s:=by
 cases s with
 |nil=>simp[nameB]at h
 |cons c r=>
  have:goB c=true:=by
   simp only[nameB,Bool.or_eq_true,Bool.and_eq_true,decide_eq_true_eq]at h
   simp only[goB,Bool.or_eq_true,decide_eq_true_eq]
   rcases h with h|⟨h,_⟩
   ·exact .inl (.inl h)
   ·exact .inr h
  simp[twc,this]
theorem num_le (s:Bs):(numP s).tu+(numP s).unit.length<=s.length:=by
 have h1:=sgN_le s
 have h2:(s.drop (sgN s)).length=s.length-sgN s:=List.length_drop ..
 unfold numP
 simp only
 generalize s.drop (sgN s)=u at*
 have h3:=twc_le digB u
 have h4:(u.drop (twc digB u)).length=u.length-twc digB u:=List.length_drop ..
 generalize u.drop (twc digB u)=v at*
 rw[List.length_take]
 rcases dotN_le v with h5|h5
 ·rw[if_pos h5,if_pos h5]
  have:=unitN_le v
  omega
 ·by_cases h6:dotN v=0
  ·rw[if_pos h6,if_pos h6]
   have:=unitN_le v
   omega
  ·rw[if_neg h6,if_neg h6]
   have:=unitN_le (v.drop (dotN v+1))
   rw[List.length_drop]at this ⊢
   omega
theorem num_pos (s:Bs) (h: ¬((numP s).whole=[]/\(numP s).part=[])):1<=(numP s).tu:=by
 revert h
 unfold numP
 simp only
 generalize s.drop (sgN s)=u
 generalize u.drop (twc digB u)=v
 intro h
 by_cases h6:dotN v=0
 ·rw[if_pos h6]
  cases hd0:twc digB u with
  |zero=>exact absurd ⟨by rw[hd0];rfl,by rw[h6];rfl⟩ h
  |succ n=>omega
 ·rw[if_neg h6];omega
theorem numC_some {s:Bs} {x:Css} {n:Nat} (h:numC s=some (x,n)):n=(numP s).tu+(numP s).unit.length/\1<=(numP s).tu/\(x=badC\/((numP s).whole.length<=6/\(numP s).part.length<=3/\(numP s).unit.length<=64/\
  x=⟨3,[],if(numP s).neg then-(valL ((numP s).whole++(numP s).part++List.replicate (3-(numP s).part.length) 48):Int)else valL ((numP s).whole++(numP s).part++List.replicate (3-(numP s).part.length) 48),lowL (numP s).unit⟩)):=by
 have hp:=num_pos s
 unfold numC numOf at h
 split at h
 ·cases h
 ·rename_i h0
  split at h
  ·simp only[Option.some.injEq,Prod.mk.injEq]at h
   exact⟨h.2.symm,hp h0,.inl h.1.symm⟩
  ·rename_i h1
   simp only[Option.some.injEq,Prod.mk.injEq]at h
   exact⟨h.2.symm,hp h0,.inr ⟨by omega,by omega,by omega,h.1.symm⟩⟩
theorem quotC_some {s:Bs} {x:Css} {n:Nat} (h:quotC s=some (x,n)): ∃c r,s=c::r/\n=twc plB r+2/\n<=s.length/\x=⟨5,r.take (twc plB r),0,[]⟩:=by
 cases s with
 |nil=>simp[quotC]at h
 |cons c r=>
  simp only[quotC]at h
  split at h
  ·rename_i h1
   rw[Bool.and_eq_true]at h1
   simp only[Option.some.injEq,Prod.mk.injEq]at h
   refine⟨c,r,rfl,h.2.symm, ?_,h.1.symm⟩
   rw[<-h.2]
   have h2:r.drop (twc plB r)≠[]:=by intro h3;rw[h3]at h1;simp[hd]at h1
   have h3:0<(r.drop (twc plB r)).length:=List.length_pos_iff.2 h2
   rw[List.length_drop]at h3
   simp;omega
  ·cases h
theorem lowL_len (s:Bs):(lowL s).length=s.length:=by simp[lowL]
theorem piece_kinds {s:Bs} (hs:s≠[]) {x:Css} {n:Nat} (h:pieceC s=(x,n)):1<=n/\n<=s.length/\
  (x.kind=7\/(x.kind=1/\x.text.length=n)\/(x.kind=2/\x.text.length+1=n)\/(x.kind=3/\nameB s=false/\numC s=some (x,n))\/(x.kind=4/\x.text.length+1=n)\/(x.kind=5/\x.text.length+2=n)\/(x.kind=6/\x.text.length=n)):=by
 unfold pieceC at h
 cases hn:nameB s
 ·rw[hn]at h
  simp only[Bool.false_eq_true,if_false]at h
  cases hm:numC s with
  |some y=>
   rw[hm]at h
   simp only at h
   subst h
   obtain⟨h1,h2,h3⟩:=numC_some hm
   refine⟨by omega,by have:=num_le s;omega, ?_⟩
   rcases h3 with rfl|⟨_,_,_,h3⟩
   ·exact .inl rfl
   ·exact .inr (.inr (.inr (.inl ⟨by rw[h3],rfl,rfl⟩)))
  |none=>
   rw[hm]at h
   simp only at h
   cases hq:quotC s with
   |some y=>
    rw[hq]at h
    simp only at h
    subst h
    obtain⟨c,r,rfl,h1,h2,rfl⟩:=quotC_some hq
    refine⟨by omega,h2,.inr (.inr (.inr (.inr (.inr (.inl ⟨rfl, ?_⟩)))))⟩
    have:=twc_le plB r
    simp;omega
   |none=>
    rw[hq]at h
    simp only at h
    cases s with
    |nil=>exact absurd rfl hs
    |cons c r=>
     simp only at h
     split at h
     ·rename_i h1
      have hle:=twc_le goB r
      simp only[Prod.mk.injEq]at h
      obtain⟨rfl,rfl⟩:=h
      refine⟨by omega,by simp;omega, ?_⟩
      unfold namedC
      split
      ·exact .inl rfl
      ·exact .inr (.inr (.inr (.inr (.inl ⟨rfl,by simp[lowL_len];omega⟩))))
     ·split at h
      ·simp only[Prod.mk.injEq]at h
       obtain⟨rfl,rfl⟩:=h
       exact⟨by omega,by simp,.inr (.inr (.inr (.inr (.inr (.inr ⟨rfl,rfl⟩)))))⟩
      ·simp only[Prod.mk.injEq]at h
       obtain⟨rfl,rfl⟩:=h
       exact⟨by omega,by simp,.inl rfl⟩
 ·rw[hn]at h
  simp only[if_true]at h
  have hp:=nameB_pos hn
  have hle:=twc_le goB s
  unfold nameC at h
  split at h
  ·simp only[Prod.mk.injEq]at h
   obtain⟨rfl,rfl⟩:=h
   exact⟨hp,hle,.inl rfl⟩
  ·split at h
   ·rename_i h1
    simp only[Prod.mk.injEq]at h
    obtain⟨rfl,rfl⟩:=h
    have h2:s.drop (twc goB s)≠[]:=by intro h3;rw[h3]at h1;simp[hd]at h1
    have h3:0<(s.drop (twc goB s)).length:=List.length_pos_iff.2 h2
    rw[List.length_drop]at h3
    exact⟨by omega,by omega,.inr (.inr (.inl ⟨rfl,by simp[lowL_len];omega⟩))⟩
   ·simp only[Prod.mk.injEq]at h
    obtain⟨rfl,rfl⟩:=h
    exact⟨hp,hle,.inr (.inl ⟨rfl,by simp[lowL_len];omega⟩)⟩
theorem blk_suffix: ∀(s:Bs) (m:Nat),∃pre,s=pre++blkM m s:=by
 intro s
 induction s with
 |nil=>intro m;exact⟨[],by cases m<;>rfl⟩
 |cons c r ih=>
  intro m
  match m with
  |0=>
   simp only[blkM]
   split
   ·obtain⟨p,hp⟩:=ih 0;exact⟨c::p,by rw[List.cons_append,<-hp]⟩
   ·split
    ·obtain⟨p,hp⟩:=ih 1;exact⟨c::p,by rw[List.cons_append,<-hp]⟩
    ·exact⟨[],rfl⟩
  |1=>obtain⟨p,hp⟩:=ih 2;exact⟨c::p,by rw[List.cons_append];simp only[blkM];rw[<-hp]⟩
  |2=>
   simp only[blkM]
   split
   ·obtain⟨p,hp⟩:=ih 3;exact⟨c::p,by rw[List.cons_append,<-hp]⟩
   ·obtain⟨p,hp⟩:=ih 2;exact⟨c::p,by rw[List.cons_append,<-hp]⟩
  |n+3=>obtain⟨p,hp⟩:=ih 0;exact⟨c::p,by rw[List.cons_append];simp only[blkM];rw[<-hp]⟩
theorem blk_len (s:Bs) (m:Nat):(blkM m s).length<=s.length:=by
 obtain⟨p,hp⟩:=blk_suffix s m
 conv=>rhs;rw[hp]
 simp
def Solid:Bs->Prop
 |[]=>False
 |c::r=>spB c=false/\ ¬(c.toNat=47/\hd (fun d=>decide (d.toNat=42)) r=true)
theorem blk_solid: ∀(s:Bs) (m:Nat) {c:UInt8} {r:Bs},blkM m s=c::r->Solid (c::r):=by
 intro s
 induction s with
 |nil=>intro m c r h;cases m<;>simp[blkM]at h
 |cons d t ih=>
  intro m c r h
  match m with
  |0=>
   simp only[blkM]at h
   split at h
   ·exact ih 0 h
   ·rename_i h1
    split at h
    ·exact ih 1 h
    ·rename_i h2
     cases h
     exact⟨by simpa using h1,h2⟩
  |1=>exact ih 2 (by simpa only[blkM]using h)
  |2=>
   simp only[blkM]at h
   split at h
   ·exact ih 3 h
   ·exact ih 2 h
  |n+3=>exact ih 0 (by simpa only[blkM]using h)
theorem solid_blk {s:Bs} (h:Solid s):blkM 0 s=s:=by
 cases s with
 |nil=>exact h.elim
 |cons c r=>simp only[blkM,h.1,Bool.false_eq_true,if_false,if_neg h.2]
theorem solid_app {s r:Bs} (h:Solid s) (hr:Ends r):Solid (s++r):=by
 cases s with
 |nil=>exact h.elim
 |cons c t=>
  refine⟨h.1,fun⟨h1,h2⟩=> ?_⟩
  change hd _ (t++r)=true at h2
  rw[hd_app]at h2
  split at h2
  ·rw[hr.hd _ fun c hc=>by simp[(sp_no hc).2.2.2.2.2.2.2.2.1]]at h2;cases h2
  ·exact h.2 ⟨h1,h2⟩
theorem scan_fuel: ∀(f g:Nat) (s:Bs),s.length<f->s.length<g->cssF f s=cssF g s:=by
 intro f
 induction f with
 |zero=>intro g s h;omega
 |succ f ih=>
  intro g s h1 h2
  cases g with
  |zero=>omega
  |succ g=>
   simp only[cssF]
   have hl:=blk_len s 0
   cases hb:blkM 0 s with
   |nil=>rfl
   |cons c r=>
    have hk:=(piece_kinds (s:=c::r) (by simp) (x:=(pieceC (c::r)).1) (n:=(pieceC (c::r)).2) rfl).1
    rw[hb]at hl
    have he:(c::r).length=r.length+1:=rfl
    simp only
    congr 1
    exact ih _ _ (by rw[List.length_drop];omega) (by rw[List.length_drop];omega)
theorem scan_nil {s:Bs} (h:blkM 0 s=[]):cssL s=[]:=by
 unfold cssL;simp only[cssF,h]
theorem scan_cons {s:Bs} {c:UInt8} {r:Bs} (h:blkM 0 s=c::r):cssL s=(pieceC (c::r)).1::cssL ((c::r).drop (pieceC (c::r)).2):=by
 have hl:=blk_len s 0
 rw[h]at hl
 have hk:=(piece_kinds (s:=c::r) (by simp) (x:=(pieceC (c::r)).1) (n:=(pieceC (c::r)).2) rfl).1
 have he:(c::r).length=r.length+1:=rfl
 conv=>lhs;unfold cssL
 simp only[cssF,h]
 congr 1
 exact scan_fuel _ _ _ (by rw[List.length_drop];omega) (by omega)
theorem scan_blk {s t:Bs} (h:blkM 0 s=blkM 0 t):cssL s=cssL t:=by
 cases hb:blkM 0 t with
 |nil=>rw[scan_nil (h.trans hb),scan_nil hb]
 |cons c r=>rw[scan_cons (h.trans hb),scan_cons hb]
theorem scan_sp {c:UInt8} {r:Bs} (h:spB c=true):cssL (c::r)=cssL r:=scan_blk (by simp only[blkM,h,if_true])
theorem scan_solid {s:Bs} (h:Solid s):cssL s=(pieceC s).1::cssL (s.drop (pieceC s).2):=by
 cases s with
 |nil=>exact h.elim
 |cons c r=>exact scan_cons (solid_blk h)
theorem digB_of (d:Nat) (h:d<10):digB (fgB d)=true:=by
 simp only[digB,fgB,decide_eq_true_eq,UInt8.toNat_ofNat'];omega
theorem val_of (d:Nat) (h:d<10):(fgB d).toNat-48=d:=by
 simp only[fgB,UInt8.toNat_ofNat'];omega
theorem figF_dig: ∀(f n:Nat),(figF f n).all digB=true/\figF f n≠[]:=by
 have h1:=digB_of
 intro f
 induction f with
 |zero=>intro n;exact⟨by simp[figF,h1 _ (Nat.mod_lt n (by omega))],by simp[figF]⟩
 |succ f ih=>
  intro n
  simp only[figF]
  split
  ·rename_i h;exact⟨by simp[h1 _ h],by simp⟩
  ·exact⟨by simp[(ih (n/10)).1,h1 _ (Nat.mod_lt n (by omega))],by simp⟩
theorem figF_len: ∀(f n k:Nat),1<=k->n<10 ^ k->(figF f n).length<=k:=by
 intro f
 induction f with
 |zero=>intro n k h1 _;simpa[figF]using h1
 |succ f ih=>
  intro n k h1 h2
  simp only[figF]
  split
  ·simpa using h1
  ·rename_i h
   obtain⟨j,rfl⟩: ∃j,k=j+1:=⟨k-1,by omega⟩
   have hj:1<=j:=by
    rcases Nat.eq_zero_or_pos j with rfl|h3
    ·simp at h2;omega
    ·exact h3
   have:=ih (n/10) j hj (by rw[Nat.pow_succ]at h2;omega)
   simp;exact this
theorem valL_app (a b:Bs): ∀k,(a++b).foldl (fun n (c:UInt8)=>n*10+(c.toNat-48)) k=b.foldl (fun n (c:UInt8)=>n*10+(c.toNat-48)) (a.foldl (fun n (c:UInt8)=>n*10+(c.toNat-48)) k):=fun _=>List.foldl_append ..
theorem figF_val: ∀(f n:Nat),n<10 ^ (f+1)->valL (figF f n)=n:=by
 have h1:=val_of
 intro f
 induction f with
 |zero=>intro n h;simp only[figF,valL,List.foldl_cons,List.foldl_nil];rw[h1 _ (Nat.mod_lt n (by omega))];simp at h;omega
 |succ f ih=>
  intro n h
  simp only[figF]
  split
  ·rename_i h2;simp only[valL,List.foldl_cons,List.foldl_nil];rw[h1 _ h2];omega
  ·have:=ih (n/10) (by rw[Nat.pow_succ]at h;omega)
   unfold valL at this ⊢
   rw[valL_app,this]
   simp only[List.foldl_cons,List.foldl_nil]
   rw[h1 _ (Nat.mod_lt n (by omega))];omega
def fracD (p:Nat):Bs:=(fracL p).drop 1
theorem frac_is (p:Nat):fracL p=if p=0 then []else 46::fracD p:=by
 unfold fracD fracL
 split<;>rfl
theorem frac_dig (p:Nat) (h:p<1000):(fracD p).all digB=true/\(fracD p).length<=3/\(p≠0->fracD p≠[]):=by
 have h1:p/100<10:=by omega
 have h2:p/10%10<10:=by omega
 have h3:p%10<10:=by omega
 unfold fracD fracL
 split
 ·exact⟨rfl,by simp,fun h=>absurd (by assumption) h⟩
 ·refine⟨?_, ?_,fun _=>by simp⟩<;>split<;>try split
  all_goals simp[digB_of,h1,h2,h3]
theorem frac_val (p k:Nat) (h:p<1000):(fracD p++List.replicate (3-(fracD p).length) 48).foldl (fun n (c:UInt8)=>n*10+(c.toNat-48)) k=k*1000+p:=by
 have h1:=val_of (p/100) (by omega)
 have h2:=val_of (p/10%10) (by omega)
 have h3:=val_of (p%10) (by omega)
 unfold fracD fracL
 split
 ·rename_i h0;subst h0;simp[List.replicate];omega
 ·split
  ·simp[List.replicate,h1];omega
  ·split
   ·simp[h1,h2];omega
   ·simp[h1,h2,h3];omega
def UnitOk (U:Bs):Prop:=U=[]\/U=[37]\/ ∃c r,U=c::r/\letB c=true/\U.all goB=true/\lowL U=U/\U.length<=64
theorem lw_let (c:UInt8):letB (lwB c)=letB c:=by
 unfold lwB
 split
 ·rename_i h
  simp only[upB,decide_eq_true_eq]at h
  have:(c+32).toNat=c.toNat+32:=by rw[UInt8.toNat_add];simp;omega
  rw[Bool.eq_iff_iff];simp only[letB,upB,lowB,Bool.or_eq_true,decide_eq_true_eq,this];omega
 ·rfl
theorem lw_dig (c:UInt8):digB (lwB c)=digB c:=by
 unfold lwB
 split
 ·rename_i h
  simp only[upB,decide_eq_true_eq]at h
  have:(c+32).toNat=c.toNat+32:=by rw[UInt8.toNat_add];simp;omega
  rw[Bool.eq_iff_iff];simp only[digB,decide_eq_true_eq,this];omega
 ·rfl
theorem lw_eq (c:UInt8) (k:Nat) (hk:k<65\/122<k\/(90<k/\k<97)):decide ((lwB c).toNat=k)=decide (c.toNat=k):=by
 unfold lwB
 split
 ·rename_i h
  simp only[upB,decide_eq_true_eq]at h
  have:(c+32).toNat=c.toNat+32:=by rw[UInt8.toNat_add];simp;omega
  rw[Bool.eq_iff_iff];simp only[decide_eq_true_eq,this];omega
 ·rfl
theorem lw_beg (c:UInt8):begB (lwB c)=begB c:=by unfold begB;rw[lw_let,lw_eq c 95 (by omega)]
theorem lw_go (c:UInt8):goB (lwB c)=goB c:=by unfold goB;rw[lw_beg,lw_dig,lw_eq c 45 (by omega)]
theorem lw_lw (c:UInt8):lwB (lwB c)=lwB c:=by
 have:upB (lwB c)=false:=by
  unfold lwB
  split
  ·rename_i h
   simp only[upB,decide_eq_true_eq]at h
   have:(c+32).toNat=c.toNat+32:=by rw[UInt8.toNat_add];simp;omega
   simp only[upB,decide_eq_false_iff_not,this];omega
  ·rename_i h;simpa using h
 rw[show lwB (lwB c)=if upB (lwB c)=true then lwB c+32 else lwB c from rfl,this];rfl
theorem low_low (s:Bs):lowL (lowL s)=lowL s:=by simp[lowL,lw_lw]
theorem low_all (p:UInt8->Bool) (hp: ∀c,p (lwB c)=p c) (s:Bs):(lowL s).all p=s.all p:=by
 induction s with
 |nil=>rfl
 |cons c s ih=>simp only[lowL,List.map_cons,List.all_cons,hp]at*;rw[ih]
theorem unit_ok (r:Bs) (h:(r.take (unitN r)).length<=64):UnitOk (lowL (r.take (unitN r))):=by
 cases r with
 |nil=>exact .inl rfl
 |cons c r=>
  simp only[unitN]at h ⊢
  split
  ·rename_i h1
   have:c=37:=UInt8.toNat_inj.1 h1
   subst this
   exact .inr (.inl rfl)
  ·split
   ·rename_i h0 h1
    rw[if_neg h0,if_pos h1]at h
    have h2:goB c=true:=by simp only[goB,begB,h1,Bool.true_or]
    have h3:twc goB (c::r)=twc goB r+1:=by simp[twc,h2]
    rw[h3,List.take_succ_cons]at h ⊢
    refine .inr (.inr ⟨lwB c,lowL (r.take (twc goB r)),rfl,by rw[lw_let];exact h1, ?_,low_low _,by rw[lowL_len];exact h⟩)
    rw[low_all _ lw_go,List.all_cons,h2,all_take];rfl
   ·exact .inl rfl
theorem unit_facts {U:Bs} (h:UnitOk U):unitN U=U.length/\hd digB U=false/\hd (fun c=>decide (c.toNat=46)) U=false/\lowL U=U/\U.length<=64:=by
 rcases h with rfl|rfl|⟨c,r,rfl,h1,h2,h3,h4⟩
 ·exact⟨rfl,rfl,rfl,rfl,by simp⟩
 ·exact⟨by decide,by decide,by decide,by decide,by decide⟩
 ·refine⟨?_, ?_, ?_,h3,h4⟩
  ·have h5:c.toNat≠37:=by simp only[letB,upB,lowB,Bool.or_eq_true,decide_eq_true_eq]at h1;omega
   simp only[unitN,if_neg h5,h1,if_true]
   exact twc_all _ _ h2
  ·simp only[hd,letB,upB,lowB,digB,Bool.or_eq_true,decide_eq_true_eq,decide_eq_false_iff_not]at*;omega
  ·simp only[hd,letB,upB,lowB,Bool.or_eq_true,decide_eq_true_eq,decide_eq_false_iff_not]at*;omega
def sgL (n:Int):Bs:=if n<0 then [45]else []
theorem fig_split (n:Int):figuresL n=sgL n++(figL (n.natAbs/1000)++fracL (n.natAbs%1000)):=by
 unfold figuresL sgL;rw[List.append_assoc]
theorem fig_cons (k:Nat): ∃c r,figL k=c::r/\digB c=true:=by
 have h:=figF_dig 20 k
 unfold figL
 cases hf:figF 20 k with
 |nil=>exact absurd hf h.2
 |cons c r=>rw[hf]at h;simp at h;exact⟨c,r,rfl,h.1⟩
theorem dig_not {c:UInt8} (h:digB c=true):begB c=false/\sgB c=false/\spB c=false/\c.toNat≠45/\c.toNat≠47/\qtB c=false:=by
 simp only[digB,begB,letB,sgB,spB,qtB,upB,lowB,decide_eq_true_eq,Bool.or_eq_false_iff,decide_eq_false_iff_not]at*
 omega
theorem fig_head (n:Int) (V:Bs):sgN (figuresL n++V)=(sgL n).length/\(figuresL n++V).drop (sgL n).length=figL (n.natAbs/1000)++(fracL (n.natAbs%1000)++V)/\nameB (figuresL n++V)=false/\Solid (figuresL n++V)/\hd (fun c=>decide (c.toNat=45)) (figuresL n++V)=decide (n<0):=by
 obtain⟨c,r,hc,hd0⟩:=fig_cons (n.natAbs/1000)
 obtain⟨d1,d2,d3,d4,d5,_⟩:=dig_not hd0
 rw[fig_split,List.append_assoc,List.append_assoc]
 unfold sgL
 by_cases hn:n<0
 ·rw[if_pos hn]
  refine⟨rfl,rfl, ?_,⟨by decide,by simp⟩,by simp[hd,hn]⟩
  rw[hc]
  simp[nameB,d1]
  decide
 ·rw[if_neg hn]
  refine⟨?_,rfl, ?_, ?_, ?_⟩
  ·rw[hc];simp[sgN,hd,d2]
  ·rw[hc];simp[nameB,d1,d4]
  ·rw[hc];exact⟨d3,fun h=>d5 h.1⟩
  ·rw[hc];simp[hd,d4,hn]
theorem fig_to (n:Int) (V:Bs):(figuresL n).length<=(numP (figuresL n++V)).tu:=by
 obtain⟨h1,h2,_⟩:=fig_head n V
 have hf:=(figF_dig 20 (n.natAbs/1000)).1
 have hfr:=frac_dig (n.natAbs%1000) (Nat.mod_lt _ (by omega))
 unfold numP
 simp only[h1,h2]
 have hlen:(figuresL n).length=(sgL n).length+((figL (n.natAbs/1000)).length+(fracL (n.natAbs%1000)).length):=by rw[fig_split];simp
 rw[hlen]
 rw[frac_is]at*
 by_cases hp:n.natAbs%1000=0
 ·rw[if_pos hp]
  have:=twc_ge digB (figL (n.natAbs/1000)) ([]++V) hf
  simp only[List.length_nil]
  omega
 ·rw[if_neg hp]
  have e1:twc digB (figL (n.natAbs/1000)++(46::fracD (n.natAbs%1000)++V))=(figL (n.natAbs/1000)).length:=twc_run _ _ _ hf (by rfl)
  rw[e1,List.drop_left]
  have e2:dotN (46::fracD (n.natAbs%1000)++V)=twc digB (fracD (n.natAbs%1000)++V):=rfl
  rw[e2]
  have h3:=twc_ge digB (fracD (n.natAbs%1000)) V hfr.1
  have h4:0<(fracD (n.natAbs%1000)).length:=List.length_pos_iff.2 (hfr.2.2 hp)
  rw[if_neg (by omega)]
  simp only[List.length_cons];omega
theorem num_scan (n:Int) (U:Bs) (hn:n.natAbs<=999999999) (hU:UnitOk U):pieceC (figuresL n++U)=(⟨3,[],n,U⟩,(figuresL n++U).length):=by
 obtain⟨h1,h2,h3,_,h5⟩:=fig_head n U
 obtain⟨u1,u2,u3,u4,u5⟩:=unit_facts hU
 have hf:=(figF_dig 20 (n.natAbs/1000)).1
 have hfl:(figL (n.natAbs/1000)).length<=6:=figF_len 20 _ 6 (by omega) (by omega)
 have hfv:valL (figL (n.natAbs/1000))=n.natAbs/1000:=figF_val 20 _ (by omega)
 have hfr:=frac_dig (n.natAbs%1000) (Nat.mod_lt _ (by omega))
 have hlen:(figuresL n).length=(sgL n).length+((figL (n.natAbs/1000)).length+(fracL (n.natAbs%1000)).length):=by rw[fig_split];simp
 have hne:figL (n.natAbs/1000)≠[]:=(figF_dig 20 _).2
 have hP:numP (figuresL n++U)=⟨decide (n<0),figL (n.natAbs/1000),fracD (n.natAbs%1000),U,(figuresL n).length⟩:=by
  unfold numP
  simp only[h1,h2,h5]
  rw[frac_is]at*
  by_cases hp:n.natAbs%1000=0
  ·rw[if_pos hp]at hlen ⊢
   have e1:twc digB (figL (n.natAbs/1000)++([]++U))=(figL (n.natAbs/1000)).length:=twc_run _ _ _ hf (by simpa using u2)
   rw[e1,List.drop_left,List.take_left]
   have e2:dotN U=0:=by
    cases U with
    |nil=>rfl
    |cons c r=>simp only[hd,decide_eq_false_iff_not]at u3;simp[dotN,u3]
   have e3:fracD (n.natAbs%1000)=[]:=by rw[hp];rfl
   simp only[List.nil_append,e2,e3,if_true,List.take_zero,u1,List.take_length,hlen,List.length_nil]
   congr 1
  ·rw[if_neg hp]at hlen ⊢
   have e1:twc digB (figL (n.natAbs/1000)++(46::fracD (n.natAbs%1000)++U))=(figL (n.natAbs/1000)).length:=twc_run _ _ _ hf (by rfl)
   rw[e1,List.drop_left,List.take_left]
   have e2:dotN (46::(fracD (n.natAbs%1000)++U))=(fracD (n.natAbs%1000)).length:=twc_run _ _ _ hfr.1 u2
   have h4:0<(fracD (n.natAbs%1000)).length:=List.length_pos_iff.2 (hfr.2.2 hp)
   have h6:(fracD (n.natAbs%1000)).length≠0:=by omega
   simp only[List.cons_append,e2,if_neg h6,List.drop_succ_cons,List.drop_zero,List.take_left,List.drop_left,u1,List.take_length,hlen,List.length_cons]
   congr 1
   omega
 unfold pieceC
 rw[h3]
 simp only[Bool.false_eq_true,if_false]
 unfold numC
 rw[hP]
 unfold numOf
 simp only
 rw[if_neg (fun h=>hne h.1),if_neg (by omega)]
 have hv:valL (figL (n.natAbs/1000)++fracD (n.natAbs%1000)++List.replicate (3-(fracD (n.natAbs%1000)).length) 48)=n.natAbs:=by
  unfold valL at hfv ⊢
  rw[List.append_assoc,valL_app,hfv,frac_val _ _ (Nat.mod_lt _ (by omega))]
  omega
 simp only[hv,u4,List.length_append]
 congr 2
 by_cases h:n<0
 ·simp[h];omega
 ·simp[h];omega
theorem right_partsQ {x:Css} (h:rightC x=true):x.kind≠7/\cssL (toldC x)=[x]:=by
 simpa[rightC]using h
theorem right_piece {x:Css} (h:rightC x=true):Solid (toldC x)/\pieceC (toldC x)=(x,(toldC x).length):=by
 obtain⟨h7,hs⟩:=right_partsQ h
 obtain⟨pre,hpre⟩:=blk_suffix (toldC x) 0
 have hl:=blk_len (toldC x) 0
 cases hb:blkM 0 (toldC x)with
 |nil=>rw[scan_nil hb]at hs;cases hs
 |cons c r=>
  rw[hb]at hpre hl
  rw[scan_cons hb]at hs
  have hx:=(List.cons.inj hs).1
  obtain⟨n,hn⟩: ∃n,(pieceC (c::r)).2=n:=⟨_,rfl⟩
  have hp:pieceC (c::r)=(x,n):=Prod.ext hx hn
  obtain⟨n1,n2,hk⟩:=piece_kinds (s:=c::r) (by simp) hp
  have key:n=(toldC x).length->Solid (toldC x)/\pieceC (toldC x)=(x,(toldC x).length):=fun he=>by
   have h0:pre=[]:=List.eq_nil_of_length_eq_zero (by have:=congrArg List.length hpre;rw[List.length_append]at this;omega)
   rw[h0,List.nil_append]at hpre
   rw[<-he,hpre]
   exact⟨blk_solid _ _ hb,hp⟩
  rcases hk with hk|⟨k1,k2⟩|⟨k1,k2⟩|⟨k1,k2,k3⟩|⟨k1,k2⟩|⟨k1,k2⟩|⟨k1,k2⟩
  ·exact absurd hk h7
  ·exact key (by rw[toldC,if_pos (.inl k1)];omega)
  ·exact key (by rw[toldC,if_neg (by omega),if_pos k1];simp;omega)
  ·have ht:toldC x=figuresL x.num++x.unit:=by rw[toldC,if_neg (by omega),if_neg (by omega),if_pos k1]
   obtain⟨_,_,_,hsol,_⟩:=fig_head x.num x.unit
   rw[<-ht]at hsol
   rw[solid_blk hsol]at hb
   rw[<-hb]at hp k3 n2
   obtain⟨m1,_,m3⟩:=numC_some k3
   have m4:x.unit.length=(numP (toldC x)).unit.length:=by
    rcases m3 with m3|⟨_,_,_,m3⟩
    ·exact absurd (by rw[m3];rfl) h7
    ·have:=congrArg Css.unit m3;simp only at this;rw[this,lowL_len]
   have m5:=fig_to x.num x.unit
   rw[<-ht]at m5
   have m6:(toldC x).length=(figuresL x.num).length+x.unit.length:=by rw[ht];simp
   have:n=(toldC x).length:=by omega
   exact⟨hsol,by rw[<-this];exact hp⟩
  ·exact key (by rw[toldC,if_neg (by omega),if_neg (by omega),if_neg (by omega),if_pos k1];simp;omega)
  ·exact key (by rw[toldC,if_neg (by omega),if_neg (by omega),if_neg (by omega),if_neg (by omega),if_pos k1];simp;omega)
  ·exact key (by rw[toldC,if_pos (.inr k1)];omega)
theorem told_scan {x:Css} (h:rightC x=true) {r:Bs} (hr:Ends r):cssL (toldC x++r)=x::cssL r:=by
 obtain⟨h1,h2⟩:=right_piece h
 have hne:toldC x≠[]:=by intro h0;rw[h0]at h1;exact h1
 have h3:=piece_app hne hr (by rw[h2];exact(right_partsQ h).1)
 rw[scan_solid (solid_app h1 hr),h3,h2,List.drop_left]
theorem text_scan: ∀(l:List Css),(∀x∈l,rightC x=true)-> ∀r,Ends r->cssL (textC l++r)=l++cssL r:=by
 intro l
 induction l with
 |nil=>intro _ r _;rfl
 |cons x l ih=>
  intro h r hr
  have hx:=h x (List.mem_cons_self ..)
  have hl:=ih (fun y hy=>h y (List.mem_cons_of_mem _ hy)) r hr
  cases l with
  |nil=>exact told_scan hx hr
  |cons y l=>
   show cssL ((toldC x++32::textC (y::l))++r)=_
   rw[List.append_assoc,List.cons_append,told_scan hx (.inr ⟨32,_,rfl,by decide⟩),scan_sp (by decide),hl]
   rfl
theorem right_of {x:Css} (h1:Solid (toldC x)) (h2:pieceC (toldC x)=(x,(toldC x).length)) (h7:x.kind≠7):rightC x=true:=by
 have h3:=scan_solid h1
 rw[h2,List.drop_length]at h3
 simp only[rightC,h3,Bool.and_eq_true,decide_eq_true_eq]
 exact⟨h7,by rw[scan_nil rfl]⟩
theorem name_low {s:Bs} (h:nameB s=true) (V:Bs):nameB (lowL (s.take (twc goB s))++V)=true:=by
 cases s with
 |nil=>simp[nameB]at h
 |cons c r=>
  simp only[nameB,Bool.or_eq_true,Bool.and_eq_true,decide_eq_true_eq]at h
  rcases h with h|⟨h,h2⟩
  ·have h3:goB c=true:=by simp only[goB,h,Bool.true_or]
   have h4:twc goB (c::r)=twc goB r+1:=by simp[twc,h3]
   rw[h4,List.take_succ_cons]
   simp[lowL,nameB,lw_beg,h]
  ·cases r with
   |nil=>simp at h2
   |cons d r=>
    have h3:goB c=true:=by simp[goB,h]
    have h5:goB d=true:=by simp only[goB];simp only at h2;rw[h2];rfl
    have h4:twc goB (c::d::r)=twc goB r+2:=by simp[twc,h3,h5]
    have hc:c=45:=UInt8.toNat_inj.1 h
    subst hc
    rw[h4,List.take_succ_cons,List.take_succ_cons]
    have h6:lwB 45=45:=by decide
    simp only at h2
    simp[lowL,nameB,lw_beg,h2,h6]
theorem name_solid {s:Bs} (h:nameB s=true):Solid s:=by
 cases s with
 |nil=>simp[nameB]at h
 |cons c r=>
  simp only[nameB,Bool.or_eq_true,Bool.and_eq_true,decide_eq_true_eq]at h
  have:c.toNat=45\/begB c=true:=by rcases h with h|h;exact .inr h;exact .inl h.1
  refine⟨?_,fun h=> ?_⟩
  ·simp only[begB,letB,upB,lowB,spB,Bool.or_eq_true,decide_eq_true_eq,decide_eq_false_iff_not]at*;omega
  ·have:=h.1;simp only[begB,letB,upB,lowB,Bool.or_eq_true,decide_eq_true_eq]at*;omega
theorem mk_cases {c:UInt8} (h:mkB c=true):c∈([58,59,44,40,41,47,33,42,43,46,62,61,45]:Bs):=by
 unfold mkB at h
 exact List.contains_iff_mem.1 h
theorem scanned_right {s:Bs} (hs:s≠[]) {x:Css} {n:Nat} (h:pieceC s=(x,n)) (h7:x.kind≠7):rightC x=true:=by
 unfold pieceC at h
 cases hn:nameB s
 ·rw[hn]at h
  simp only[Bool.false_eq_true,if_false]at h
  cases hm:numC s with
  |some y=>
   rw[hm]at h
   simp only at h
   subst h
   obtain⟨_,_,h3⟩:=numC_some hm
   rcases h3 with rfl|⟨l1,l2,l3,h3⟩
   ·exact absurd rfl h7
   ·have hu:UnitOk (lowL (numP s).unit):=unit_ok _ l3
    have hv:valL ((numP s).whole++(numP s).part++List.replicate (3-(numP s).part.length) 48)<=999999999:=by
     have hb: ∀(l:Bs),l.all digB=true-> ∀k,l.foldl (fun n (c:UInt8)=>n*10+(c.toNat-48)) k+1<=(k+1)*10 ^ l.length:=by
      intro l
      induction l with
      |nil=>intro _ k;simp
      |cons c l ih=>
       intro hl k
       simp only[List.all_cons,Bool.and_eq_true]at hl
       have:=ih hl.2 (k*10+(c.toNat-48))
       have hc:=hl.1
       simp only[digB,decide_eq_true_eq]at hc
       simp only[List.foldl_cons,List.length_cons,Nat.pow_succ]
       refine Nat.le_trans this ?_
       rw[Nat.mul_comm (10 ^ l.length) 10,<-Nat.mul_assoc]
       exact Nat.mul_le_mul_right _ (by omega)
     have ha:((numP s).whole++(numP s).part++List.replicate (3-(numP s).part.length) 48).all digB=true:=by
      simp only[List.all_append,Bool.and_eq_true]
      refine⟨⟨all_take digB _, ?_⟩, ?_⟩
      ·unfold numP
       simp only
       generalize((s.drop (sgN s)).drop (twc digB (s.drop (sgN s))))=v
       cases v with
       |nil=>rfl
       |cons c v=>
        simp only[dotN,List.drop_succ_cons,List.drop_zero]
        split
        ·exact all_take digB _
        ·rfl
      ·rw[List.all_eq_true]
       intro c hc
       rw[List.eq_of_mem_replicate hc];decide
     have:=hb _ ha 0
     have hl:((numP s).whole++(numP s).part++List.replicate (3-(numP s).part.length) 48).length<=9:=by simp;omega
     have hp:=Nat.pow_le_pow_right (n:=10) (by omega) hl
     unfold valL
     omega
    have hnum:x.num.natAbs<=999999999:=by
     rw[h3]
     simp only
     split<;>omega
    have ht:toldC x=figuresL x.num++lowL (numP s).unit:=by rw[h3];rfl
    obtain⟨_,_,_,hsol,_⟩:=fig_head x.num (lowL (numP s).unit)
    refine right_of (by rw[ht];exact hsol) ?_ h7
    rw[ht,num_scan _ _ hnum hu]
    congr 1
    rw[h3]
  |none=>
   rw[hm]at h
   simp only at h
   cases hq:quotC s with
   |some y=>
    rw[hq]at h
    simp only at h
    subst h
    obtain⟨c,r,rfl,h1,h2,rfl⟩:=quotC_some hq
    have ha:=all_take plB r
    generalize r.take (twc plB r)=t at*
    have ht:toldC ⟨5,t,0,[]⟩=34::(t++[34]):=rfl
    refine right_of (by rw[ht];exact⟨by decide,fun h=>absurd h.1 (by decide)⟩) ?_ h7
    rw[ht]
    have q1:twc plB (t++[34])=t.length:=twc_run _ _ _ ha (by decide)
    have q2:quotC (34::(t++[34]))=some (⟨5,t,0,[]⟩,t.length+2):=by
     simp only[quotC,q1,List.drop_left,List.take_left]
     rfl
    have q3:numC (34::(t++[34]))=none:=by
     have e1:sgN (34::(t++[34]))=0:=rfl
     have e2:twc digB (34::(t++[34]))=0:=rfl
     have e3:dotN (34::(t++[34]))=0:=rfl
     unfold numC numP
     simp only[e1,e2,e3,List.drop_zero,List.take_zero]
     rfl
    have q4:nameB (34::(t++[34]))=false:=by
     have:begB 34=false:=by decide
     simp[nameB,this]
    unfold pieceC
    rw[q4,q3,q2]
    simp
   |none=>
    rw[hq]at h
    simp only at h
    cases s with
    |nil=>exact absurd rfl hs
    |cons c r=>
     simp only at h
     split at h
     ·rename_i h1
      simp only[Prod.mk.injEq]at h
      obtain⟨rfl,rfl⟩:=h
      have ha:=all_take goB r
      have hl:(r.take (twc goB r)).length=twc goB r:=by rw[List.length_take];have:=twc_le goB r;omega
      generalize r.take (twc goB r)=t at*
      unfold namedC at h7 ⊢
      split
      ·rename_i h2;rw[if_pos h2]at h7;exact absurd rfl h7
      ·rename_i h2
       rw[if_neg h2]at h7
       have ht:toldC ⟨4,lowL t,0,[]⟩=35::lowL t:=rfl
       refine right_of (by rw[ht];exact⟨by decide,fun h=>absurd h.1 (by decide)⟩) ?_ h7
       rw[ht]
       have q0:twc goB (lowL t)=t.length:=by rw[twc_all _ _ (by rw[low_all _ lw_go];exact ha),lowL_len]
       have q2:quotC (35::lowL t)=none:=rfl
       have q3:numC (35::lowL t)=none:=by
        have e1:sgN (35::lowL t)=0:=rfl
        have e2:twc digB (35::lowL t)=0:=rfl
        have e3:dotN (35::lowL t)=0:=rfl
        unfold numC numP
        simp only[e1,e2,e3,List.drop_zero,List.take_zero]
        rfl
       have q4:nameB (35::lowL t)=false:=by
        have:begB 35=false:=by decide
        simp[nameB,this]
       unfold pieceC
       rw[q4,q3,q2]
       simp only[Bool.false_eq_true,if_false,q0]
       rw[if_pos ⟨by decide,by omega⟩,<-lowL_len t,List.take_length]
       unfold namedC
       rw[lowL_len,if_neg h2,low_low]
       simp[lowL_len]
     ·split at h
      ·rename_i h1 h2
       simp only[Prod.mk.injEq]at h
       obtain⟨rfl,rfl⟩:=h
       have:=mk_cases h2
       simp only[List.mem_cons,List.not_mem_nil,or_false]at this
       rcases this with rfl|rfl|rfl|rfl|rfl|rfl|rfl|rfl|rfl|rfl|rfl|rfl|rfl<;>decide
      ·simp only[Prod.mk.injEq]at h
       obtain⟨rfl,rfl⟩:=h
       exact absurd rfl h7
 ·rw[hn]at h
  simp only[if_true]at h
  have hp:=nameB_pos hn
  have hle:=twc_le goB s
  have hnl:=name_low hn
  have ha:=all_take goB s
  have hl:(s.take (twc goB s)).length=twc goB s:=by rw[List.length_take];omega
  have hal:(lowL (s.take (twc goB s))).all goB=true:=by rw[low_all _ lw_go];exact ha
  have hll:(lowL (s.take (twc goB s))).length=twc goB s:=by rw[lowL_len,hl]
  have hlo:=low_low (s.take (twc goB s))
  unfold nameC at h
  split at h
  ·simp only[Prod.mk.injEq]at h
   obtain⟨rfl,rfl⟩:=h
   exact absurd rfl h7
  ·rename_i h64
   generalize lowL (s.take (twc goB s))=t at*
   generalize twc goB s=m at*
   split at h
   ·simp only[Prod.mk.injEq]at h
    obtain⟨rfl,rfl⟩:=h
    have ht:toldC ⟨2,t,0,[]⟩=t++[40]:=rfl
    have q1:twc goB (t++[40])=t.length:=twc_run _ _ _ hal (by decide)
    refine right_of (by rw[ht];exact name_solid (hnl [40])) ?_ h7
    rw[ht]
    unfold pieceC
    rw[hnl [40]]
    simp only[if_true]
    unfold nameC
    rw[q1,List.drop_left,List.take_left,if_neg (by omega),if_pos (by decide),hlo]
    simp
   ·simp only[Prod.mk.injEq]at h
    obtain⟨rfl,rfl⟩:=h
    have ht:toldC ⟨1,t,0,[]⟩=t:=rfl
    have hn2:=hnl []
    rw[List.append_nil]at hn2
    have q1:twc goB t=t.length:=twc_all _ _ hal
    refine right_of (by rw[ht];exact name_solid hn2) ?_ h7
    rw[ht]
    unfold pieceC
    rw[hn2]
    simp only[if_true]
    unfold nameC
    rw[q1,List.drop_length,List.take_length,if_neg (by omega),if_neg (by simp[hd]),hlo]
theorem scan_right: ∀(f:Nat) (s:Bs),∀x∈cssF f s,x.kind≠7->rightC x=true:=by
 intro f
 induction f with
 |zero=>intro s x hx;simp[cssF]at hx
 |succ f ih=>
  intro s x hx h7
  simp only[cssF]at hx
  cases hb:blkM 0 s with
  |nil=>rw[hb]at hx;simp at hx
  |cons c r=>
   rw[hb]at hx
   simp only[List.mem_cons]at hx
   rcases hx with rfl|hx
   ·exact scanned_right (s:=c::r) (by simp) (n:=(pieceC (c::r)).2) rfl h7
   ·exact ih _ x hx h7
structure Dcl where
 name:Bs
 value:List Css
 imp:Bool
deriving DecidableEq
def mk1 (k:UInt8) (x:Css):Bool:=decide (x.kind=6)&&decide (x.text=[k])
def opC (x:Css):Bool:=decide (x.kind=2)||mk1 40 x
def dn (d:Nat) (x:Css):Nat:=if opC x then d+1 else if mk1 41 x then d-1 else d
def evenF:Nat->List Css->Bool
 |d,[]=>decide (d=0)
 |d,x::l=>if mk1 41 x&&decide (d=0)then false else evenF (dn d x) l
def okC (x:Css):Bool:=decide (x.kind≠7)&& !mk1 59 x&& !mk1 33 x
def mayC (l:List Css):Bool:= !l.isEmpty&&evenF 0 l&&l.all okC
def partsL:Nat->List Css->List (List Css)
 |_,[]=>[[]]
 |d,x::l=>if mk1 59 x&&decide (d=0)then []::partsL 0 l else match partsL (dn d x) l with
  |[]=>[[x]]
  |p::ps=>(x::p)::ps
def impT:Bs:=[105,109,112,111,114,116,97,110,116]
def impC (x:Css):Bool:=decide (x.kind=1)&&decide (x.text=impT)
def urg (l:List Css):Bool:=match l[l.length-2]?,l[l.length-1]? with
 |some a,some b=>decide (2<=l.length)&&mk1 33 a&&impC b
 |_,_=>false
def urgV (l:List Css):List Css:=if urg l then l.take (l.length-2)else l
def declOf:List Css->Option Dcl
 |a::b::r=>if decide (a.kind=1)&&mk1 58 b&&mayC (urgV r)then some ⟨a.text,urgV r,urg r⟩else none
 |_=>none
def declsL (l:List Css):List Dcl:=(partsL 0 l).filterMap declOf
def impS:Bs:=[32,33,32]++impT
def toldD (d:Dcl):Bs:=d.name++[58,32]++textC d.value++(if d.imp then impS else [])
def joinS:List Bs->Bs
 |[]=>[]
 |[u]=>u
 |u::v::l=>u++59::32::joinS (v::l)
def textD (l:List Dcl):Bs:=joinS (l.map toldD)
def rightD (d:Dcl):Bool:=d.value.all rightC&&mayC d.value&&rightC ⟨1,d.name,0,[]⟩
def mark1 (k:UInt8):Css:=⟨6,[k],0,[]⟩
def toksD (d:Dcl):List Css:=⟨1,d.name,0,[]⟩::mark1 58::(d.value++if d.imp then [mark1 33,⟨1,impT,0,[]⟩]else [])
def toksL:List Dcl->List Css
 |[]=>[]
 |[d]=>toksD d
 |d::e::l=>toksD d++mark1 59::toksL (e::l)
theorem piece_form {s:Bs} (hs:s≠[]) {x:Css} {n:Nat} (h:pieceC s=(x,n)):(x.kind=1->x.num=0/\x.unit=[]/\lowL x.text=x.text)/\(x.kind=6-> ∃c,x=mark1 c):=by
 unfold pieceC at h
 cases hn:nameB s
 ·rw[hn]at h
  simp only[Bool.false_eq_true,if_false]at h
  cases hm:numC s with
  |some y=>
   rw[hm]at h
   simp only at h
   subst h
   obtain⟨_,_,h3⟩:=numC_some hm
   rcases h3 with rfl|⟨_,_,_,rfl⟩
   ·exact⟨fun h=>absurd h (by decide),fun h=>absurd h (by decide)⟩
   ·exact⟨fun h=>absurd h (by simp),fun h=>absurd h (by simp)⟩
  |none=>
   rw[hm]at h
   simp only at h
   cases hq:quotC s with
   |some y=>
    rw[hq]at h
    simp only at h
    subst h
    obtain⟨c,r,rfl,h1,h2,rfl⟩:=quotC_some hq
    exact⟨fun h=>absurd h (by simp),fun h=>absurd h (by simp)⟩
   |none=>
    rw[hq]at h
    simp only at h
    cases s with
    |nil=>exact absurd rfl hs
    |cons c r=>
     simp only at h
     split at h
     ·simp only[Prod.mk.injEq]at h
      obtain⟨rfl,_⟩:=h
      unfold namedC
      split
      ·exact⟨fun h=>absurd h (by decide),fun h=>absurd h (by decide)⟩
      ·exact⟨fun h=>absurd h (by simp),fun h=>absurd h (by simp)⟩
     ·split at h
      ·simp only[Prod.mk.injEq]at h
       obtain⟨rfl,_⟩:=h
       exact⟨fun h=>absurd h (by simp),fun _=>⟨c,rfl⟩⟩
      ·simp only[Prod.mk.injEq]at h
       obtain⟨rfl,_⟩:=h
       exact⟨fun h=>absurd h (by decide),fun h=>absurd h (by decide)⟩
 ·rw[hn]at h
  simp only[if_true]at h
  unfold nameC at h
  split at h
  ·simp only[Prod.mk.injEq]at h
   obtain⟨rfl,_⟩:=h
   exact⟨fun h=>absurd h (by decide),fun h=>absurd h (by decide)⟩
  ·split at h
   ·simp only[Prod.mk.injEq]at h
    obtain⟨rfl,_⟩:=h
    exact⟨fun h=>absurd h (by simp),fun h=>absurd h (by simp)⟩
   ·simp only[Prod.mk.injEq]at h
    obtain⟨rfl,_⟩:=h
    exact⟨fun _=>⟨rfl,rfl,low_low _⟩,fun h=>absurd h (by simp)⟩
theorem right_form {x:Css} (h:rightC x=true):(x.kind=1->x.num=0/\x.unit=[]/\lowL x.text=x.text)/\(x.kind=6-> ∃c,x=mark1 c):=by
 obtain⟨h1,h2⟩:=right_piece h
 exact piece_form (by intro h0;rw[h0]at h1;exact h1) h2
def Proper (x:Css):Prop:=(x.kind=1->x.num=0/\x.unit=[])/\(x.kind=6-> ∃c,x=mark1 c)
theorem proper_right {x:Css} (h:rightC x=true):Proper x:=⟨fun h1=>⟨((right_form h).1 h1).1,((right_form h).1 h1).2.1⟩,(right_form h).2⟩
theorem proper_scan {s:Bs}: ∀x∈cssL s,Proper x:=by
 intro x hx
 by_cases h7:x.kind=7
 ·exact⟨fun h=>by omega,fun h=>by omega⟩
 ·exact proper_right (scan_right _ s x hx h7)
theorem mark_right (k:UInt8) (h:k=58\/k=33\/k=59):rightC (mark1 k)=true:=by
 rcases h with rfl|rfl|rfl<;>decide+kernel
theorem imp_right:rightC ⟨1,impT,0,[]⟩=true:=by decide+kernel
theorem ends_sp (r:Bs):Ends (32::r):= .inr ⟨32,r,rfl,by decide⟩
theorem ends_colon (r:Bs):Ends (58::r):= .inr ⟨58,r,rfl,by decide⟩
theorem ends_semi (r:Bs):Ends (59::r):= .inr ⟨59,r,rfl,by decide⟩
theorem scan_mark (k:UInt8) (h:k=58\/k=33\/k=59) (r:Bs) (hr:Ends r):cssL (k::r)=mark1 k::cssL r:=told_scan (mark_right k h) hr
theorem scan_semi (r:Bs):cssL (59::r)=mark1 59::cssL r:=by
 have h1:Solid (59::r):=⟨by decide,fun h=>absurd h.1 (by decide)⟩
 have h2:pieceC (59::r)=(mark1 59,1):=by
  have q4:nameB (59::r)=false:=by
   have:begB 59=false:=by decide
   simp[nameB,this]
  have q3:numC (59::r)=none:=by
   have e1:sgN (59::r)=0:=rfl
   have e2:twc digB (59::r)=0:=rfl
   have e3:dotN (59::r)=0:=rfl
   unfold numC numP
   simp only[e1,e2,e3,List.drop_zero,List.take_zero]
   rfl
  have q2:quotC (59::r)=none:=rfl
  unfold pieceC
  rw[q4,q3,q2]
  rfl
 rw[scan_solid h1,h2];rfl
theorem told_toks {d:Dcl} (h:rightD d=true) (r:Bs) (hr:Ends r):cssL (toldD d++r)=toksD d++cssL r:=by
 simp only[rightD,Bool.and_eq_true,List.all_eq_true]at h
 obtain⟨⟨h1,_⟩,h3⟩:=h
 have e1:toldD d++r=d.name++(58::32::(textC d.value++((if d.imp then impS else [])++r))):=by
  unfold toldD;simp
 have hv:Ends ((if d.imp then impS else [])++r):=by
  cases d.imp
  ·exact hr
  ·exact ends_sp _
 have e2:cssL ((if d.imp then impS else [])++r)=(if d.imp then [mark1 33,⟨1,impT,0,[]⟩]else [])++cssL r:=by
  cases d.imp
  ·rfl
  ·show cssL (32::33::32::(impT++r))=_
   rw[scan_sp (by decide),scan_mark 33 (.inr (.inl rfl)) _ (ends_sp _),scan_sp (by decide)]
   have:=told_scan imp_right hr
   rw[show toldC ⟨1,impT,0,[]⟩=impT from rfl]at this
   rw[this];rfl
 rw[e1]
 have:=told_scan h3 (ends_colon (32::(textC d.value++((if d.imp then impS else [])++r))))
 rw[show toldC ⟨1,d.name,0,[]⟩=d.name from rfl]at this
 rw[this,scan_mark 58 (.inl rfl) _ (ends_sp _),scan_sp (by decide),text_scan _ h1 _ hv,e2]
 simp[toksD]
theorem text_toks: ∀(l:List Dcl),(∀d∈l,rightD d=true)-> ∀r,Ends r->cssL (textD l++r)=toksL l++cssL r:=by
 intro l
 induction l with
 |nil=>intro _ r _;rfl
 |cons d l ih=>
  intro h r hr
  have hd:=h d (List.mem_cons_self ..)
  have hl:=ih (fun y hy=>h y (List.mem_cons_of_mem _ hy)) r hr
  cases l with
  |nil=>exact told_toks hd r hr
  |cons e l=>
   show cssL ((toldD d++59::32::textD (e::l))++r)=_
   rw[List.append_assoc,List.cons_append,List.cons_append,told_toks hd _ (ends_semi _),scan_semi,scan_sp (by decide),hl]
   simp[toksL]
theorem parts_ne (d:Nat) (l:List Css): ∃p ps,partsL d l=p::ps:=by
 cases l with
 |nil=>exact⟨_,_,rfl⟩
 |cons x l=>
  simp only[partsL]
  split
  ·exact⟨_,_,rfl⟩
  ·cases partsL (dn d x) l<;>exact⟨_,_,rfl⟩
def dnF (d:Nat) (l:List Css):Nat:=l.foldl dn d
theorem parts_run: ∀(l:List Css) (d:Nat) (rest:List Css),(∀x∈l,mk1 59 x=false)-> ∀p ps,partsL (dnF d l) rest=p::ps->partsL d (l++rest)=(l++p)::ps:=by
 intro l
 induction l with
 |nil=>intro d rest _ p ps h;exact h
 |cons x l ih=>
  intro d rest hx p ps h
  have:=ih (dn d x) rest (fun y hy=>hx y (List.mem_cons_of_mem _ hy)) p ps h
  rw[List.cons_append,partsL,hx x (List.mem_cons_self ..)]
  simp[this]
theorem even_dn: ∀(l:List Css) (d:Nat),evenF d l=true->dnF d l=0:=by
 intro l
 induction l with
 |nil=>intro d h;simpa[evenF,dnF]using h
 |cons x l ih=>
  intro d h
  simp only[evenF]at h
  split at h
  ·cases h
  ·exact ih _ h
theorem may_facts {l:List Css} (h:mayC l=true):l≠[]/\evenF 0 l=true/\ ∀x∈l,okC x=true:=by
 simp only[mayC,Bool.and_eq_true,List.all_eq_true,Bool.not_eq_true',List.isEmpty_eq_false_iff]at h
 exact⟨h.1.1,h.1.2,h.2⟩
theorem ok_semi {x:Css} (h:okC x=true):mk1 59 x=false/\mk1 33 x=false/\x.kind≠7:=by
 simp only[okC,Bool.and_eq_true,Bool.not_eq_true',decide_eq_true_eq]at h
 exact⟨h.1.2,h.2,h.1.1⟩
theorem toks_semi {d:Dcl} (h:rightD d=true):(∀x∈toksD d,mk1 59 x=false)/\dnF 0 (toksD d)=0:=by
 simp only[rightD,Bool.and_eq_true]at h
 obtain⟨_,he,ho⟩:=may_facts h.1.2
 have h0:dnF 0 d.value=0:=even_dn _ _ he
 constructor
 ·intro x hx
  simp only[toksD,List.mem_cons,List.mem_append]at hx
  rcases hx with rfl|rfl|hx|hx
  ·simp[mk1]
  ·decide
  ·exact(ok_semi (ho x hx)).1
  ·split at hx
   ·simp only[List.mem_cons,List.not_mem_nil,or_false]at hx
    rcases hx with rfl|rfl<;>decide
   ·cases hx
 ·show List.foldl dn (dn (dn 0 ⟨1,d.name,0,[]⟩) (mark1 58)) (d.value++_)=0
  have e1:dn 0 ⟨1,d.name,0,[]⟩=0:=by simp[dn,opC,mk1]
  have e2:dn 0 (mark1 58)=0:=by decide
  rw[e1,e2,List.foldl_append]
  change List.foldl dn (dnF 0 d.value) _=0
  rw[h0]
  cases d.imp<;>decide
theorem urg_of (v:List Css):urg (v++[mark1 33,⟨1,impT,0,[]⟩])=true/\urgV (v++[mark1 33,⟨1,impT,0,[]⟩])=v:=by
 have h1:urg (v++[mark1 33,⟨1,impT,0,[]⟩])=true:=by
  unfold urg
  have e1:(v++[mark1 33,⟨1,impT,0,[]⟩]).length=v.length+2:=by simp
  rw[e1,Nat.add_sub_cancel,List.getElem?_append_right (Nat.le_refl _),Nat.sub_self,List.getElem?_append_right (by omega),show v.length+2-1-v.length=1 by omega]
  simp;decide
 refine⟨h1, ?_⟩
 unfold urgV
 rw[if_pos h1];simp
theorem urg_no {v:List Css} (h: ∀x∈v,okC x=true):urg v=false/\urgV v=v:=by
 have h1:urg v=false:=by
  unfold urg
  split
  ·rename_i a b ha hb
   have:=(ok_semi (h a (List.mem_of_getElem? ha))).2.1
   rw[this];simp
  ·rfl
 exact⟨h1,by unfold urgV;rw[h1];rfl⟩
theorem decl_toks {d:Dcl} (h:rightD d=true):declOf (toksD d)=some d:=by
 simp only[rightD,Bool.and_eq_true]at h
 obtain⟨_,_,ho⟩:=may_facts h.1.2
 have hm:=h.1.2
 obtain⟨n,v,i⟩:=d
 simp only[toksD,declOf]
 cases i
 ·obtain⟨e1,e2⟩:=urg_no (v:=v) ho
  simp only[Bool.false_eq_true,if_false,List.append_nil,e1,e2]
  simp only at hm
  rw[hm];rfl
 ·obtain⟨e1,e2⟩:=urg_of v
  simp only[if_true,e1,e2]
  simp only at hm
  rw[hm];rfl
theorem decls_toks: ∀(l:List Dcl),(∀d∈l,rightD d=true)->declsL (toksL l)=l/\ ∀rest,declsL (toksL l++mark1 59::rest)=l++declsL rest:=by
 have hs: ∀rest,partsL 0 (mark1 59::rest)=[]::partsL 0 rest:=fun rest=>by
  rw[partsL,if_pos (by decide)]
 have one: ∀d,rightD d=true-> ∀rest,declsL (toksD d++mark1 59::rest)=d::declsL rest:=fun d hd rest=>by
  obtain⟨h1,h2⟩:=toks_semi hd
  unfold declsL
  rw[parts_run (toksD d) 0 (mark1 59::rest) h1 [] (partsL 0 rest) (by rw[h2,hs]),List.append_nil,List.filterMap_cons,decl_toks hd]
 intro l
 induction l with
 |nil=>
  intro _
  refine⟨rfl,fun rest=> ?_⟩
  unfold declsL
  rw[toksL,List.nil_append,hs,List.filterMap_cons];rfl
 |cons d l ih=>
  intro h
  have hd:=h d (List.mem_cons_self ..)
  obtain⟨i1,i2⟩:=ih (fun y hy=>h y (List.mem_cons_of_mem _ hy))
  cases l with
  |nil=>
   refine⟨?_,fun rest=>one d hd rest⟩
   obtain⟨h1,h2⟩:=toks_semi hd
   have:=parts_run (toksD d) 0 [] h1 [] [] (by rw[h2];rfl)
   rw[List.append_nil]at this
   unfold declsL
   rw[toksL,this,List.filterMap_cons,decl_toks hd];rfl
  |cons e l=>
   refine⟨by rw[toksL,one d hd,i1],fun rest=> ?_⟩
   rw[toksL,List.append_assoc,List.cons_append,one d hd,i2];rfl
theorem decl_back {l:List Dcl} (h: ∀d∈l,rightD d=true):declsL (cssL (textD l))=l:=by
 have:=text_toks l h [] (.inl rfl)
 rw[List.append_nil,scan_nil (s:=[]) rfl,List.append_nil]at this
 rw[this];exact(decls_toks l h).1
theorem decl_joins {l:List Dcl} (h: ∀d∈l,rightD d=true) (s:Bs):declsL (cssL (textD l++59::s))=l++declsL (cssL s):=by
 rw[text_toks l h _ (ends_semi _),scan_semi]
 exact(decls_toks l h).2 _
theorem parts_mem: ∀(l:List Css) (d:Nat),∀p∈partsL d l,∀x∈p,x∈l:=by
 intro l
 induction l with
 |nil=>intro d p hp x hx;simp[partsL]at hp;subst hp;cases hx
 |cons y l ih=>
  intro d p hp x hx
  simp only[partsL]at hp
  split at hp
  ·simp only[List.mem_cons]at hp
   rcases hp with rfl|hp
   ·cases hx
   ·exact List.mem_cons_of_mem _ (ih 0 p hp x hx)
  ·obtain⟨q,qs,hq⟩:=parts_ne (dn d y) l
   have ih2:=ih (dn d y)
   rw[hq]at hp ih2
   simp only[List.mem_cons]at hp
   rcases hp with rfl|hp
   ·simp only[List.mem_cons]at hx
    rcases hx with rfl|hx
    ·exact List.mem_cons_self ..
    ·exact List.mem_cons_of_mem _ (ih2 q (List.mem_cons_self ..) x hx)
   ·exact List.mem_cons_of_mem _ (ih2 p (List.mem_cons_of_mem _ hp) x hx)
theorem urgV_mem {l:List Css} {x:Css} (h:x∈urgV l):x∈l:=by
 unfold urgV at h
 split at h
 ·exact List.mem_of_mem_take h
 ·exact h
theorem decl_facts {l:List Css} (hp: ∀x∈l,Proper x/\(x.kind≠7->rightC x=true)) {d:Dcl} (h:d∈declsL l):rightD d=true/\(∀x∈d.value,x∈l)/\⟨1,d.name,0,[]⟩∈l:=by
 simp only[declsL,List.mem_filterMap]at h
 obtain⟨p,h1,h2⟩:=h
 have hm:=parts_mem l 0 p h1
 match p,h2,hm with
 |[],h2,_=>simp[declOf]at h2
 |[_],h2,_=>simp[declOf]at h2
 |a::b::r,h2,hm=>
  simp only[declOf]at h2
  split at h2
  ·rename_i h3
   simp only[Bool.and_eq_true,decide_eq_true_eq]at h3
   simp only[Option.some.injEq]at h2
   subst h2
   obtain⟨⟨h4,h5⟩,h6⟩:=h3
   have ha:=hm a (List.mem_cons_self ..)
   have hv: ∀x∈urgV r,x∈l:=fun x hx=>hm x (List.mem_cons_of_mem _ (List.mem_cons_of_mem _ (urgV_mem hx)))
   obtain⟨pa,ra⟩:=hp a ha
   obtain⟨q1,q2⟩:=pa.1 h4
   have ea:a=⟨1,a.text,0,[]⟩:=by
    obtain⟨k,t,m,u⟩:=a
    simp only at h4 q1 q2 ⊢
    rw[h4,q1,q2]
   obtain⟨_,_,ho⟩:=may_facts h6
   refine⟨?_,hv,by rw[<-ea];exact ha⟩
   simp only[rightD,Bool.and_eq_true,List.all_eq_true]
   refine⟨⟨fun x hx=>(hp x (hv x hx)).2 (ok_semi (ho x hx)).2.2,h6⟩, ?_⟩
   rw[<-ea];exact ra (by omega)
  ·cases h2
theorem parsed_right {s:Bs} {d:Dcl} (h:d∈declsL (cssL s)):rightD d=true/\(∀x∈d.value,x∈cssL s)/\⟨1,d.name,0,[]⟩∈cssL s:=
 decl_facts (fun x hx=>⟨proper_scan x hx,scan_right _ s x hx⟩) h
end Go.Proofs.YtiikamobcmgekaaGreatDoor
