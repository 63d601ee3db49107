import Derived.Test.YtccjfanpjojbnaaGreatDoorShelf
import Derived.Test.YtccjfanpjojbnaaGreatDoorPA
namespace Go.Proofs.YtccjfanpjojbnaaGreatDoor
open Bool renaming and_eq_true→bD,or_eq_false_iff→oK
open Go.Ending renaming returned→aL
open Go.IntKind renaming i64→aC
open Lib renaming hid→aA,run_eql_slice_nil→Xh
open List renaming all_eq_true→dO,any_cons→nN,drop_eq_getElem_cons→iK,drop_eq_nil_of_le→iG,drop_zero→fJ,flatMap_cons→iF,getElem?_eq_some_iff→gV,getElem_mem→dN,getElem_of_mem→Xo,getElem_set→Yc,mem_append→eK,mem_cons→bJ,mem_filter→rS,mem_map→jH,mem_of_getElem?→xq,mem_singleton→fW,not_mem_nil→eO,pairwise_iff_getElem→Wy,take_of_length_le→fI,take_succ_eq_append_getElem→jG
open Nat renaming le_of_eq→zae,le_trans→bG,lt_of_lt_of_le→bQ
open Option renaming some→jP
open Tryz renaming prog→aE,underlying65→zk
open Go.Value renaming agg→aR,bool→aI,int→aB,pointer→aM,slice→aF,string→aD,tuple→aN
set_option maxRecDepth 100000
set_option maxHeartbeats 6400000
open Go.RowKit
open Go.ChangeMaps Go.MapKept
open Go.WideMaps (KeyLaw)
section
variable {P:Program} {k e t:TypeId} {W:World} {b clock:Nat} {es:Array MapEntry} {key val:Value} {kl:Lit}
theorem zS (K:KeyLaw P k) (ht:P.underlying t=some (.map k e)) {z:Value} (hz:(zeroValue e).run P W= .ok z W) (hb:W.heap[b]? =some (.map es clock)) (hks: ∀x∈es.toList,∃l,keyOf P k x.key=some l) (hkey:keyOf P k key=some kl):
  ((∀x∈es.toList,x.key≠key)/\(Instr.lookup t (.map (some b)) key true).run P W= .ok (aN #[z,aI false]) W/\(Instr.lookup t (.map (some b)) key false).run P W= .ok z W)\/
  ∃x∈es.toList,x.key=key/\(Instr.lookup t (.map (some b)) key true).run P W= .ok (aN #[x.val,aI true]) W/\(Instr.lookup t (.map (some b)) key false).run P W= .ok x.val W:=by
 rcases K.find W hkey es.toList hks with⟨h1,h2⟩|⟨j,e0,h1,h2,h3⟩
 .exact .inl ⟨h2,by simp[Instr.lookup,run_underlying ht,MapKept.run_getObj_map hb,K.check W _ hkey,h1,hz,Result.andThen],by simp[Instr.lookup,run_underlying ht,MapKept.run_getObj_map hb,K.check W _ hkey,h1,hz,Result.andThen]⟩
 .exact .inr ⟨e0,xq h2,h3,by simp[Instr.lookup,run_underlying ht,MapKept.run_getObj_map hb,K.check W _ hkey,h1,Result.andThen],by simp[Instr.lookup,run_underlying ht,MapKept.run_getObj_map hb,K.check W _ hkey,h1,Result.andThen]⟩
theorem LZ (K:KeyLaw P k) (ht:P.underlying t=some (.map k e)) (hb:W.heap[b]? =some (.map es clock)) (hks: ∀x∈es.toList,∃l,keyOf P k x.key=some l) (hkey:keyOf P k key=some kl):
  ∃es' clock',(Instr.mapUpdate t (.map (some b)) key val).run P W= .ok () (setBlock W b (.map es' clock'))/\
   (((∀x∈es.toList,x.key≠key)/\ ∃n,es'.toList=es.toList++[⟨key,val,n⟩])\/ ∃(j:Nat) (e0:MapEntry),es.toList[j]? =some e0/\e0.key=key/\es'.toList=es.toList.set j {e0 with key:=key,val:=val}):=by
 rcases K.find W hkey es.toList hks with⟨h1,h2⟩|⟨j,e0,h1,h2,h3⟩
 .exact⟨es.push ⟨key,val,clock⟩,clock+1,by simp[Instr.mapUpdate,run_underlying ht,MapKept.run_getObj_map hb,K.check W false hkey,h1,MapKept.run_setObj_map _ hb,Result.andThen,setBlock],.inl ⟨h2,clock,by simp⟩⟩
 .have hj:es[j]? =some e0:=by simpa using h2
  exact⟨es.modify j (λe'=>{e' with key:=key,val:=val}),clock,by simp[Instr.mapUpdate,run_underlying ht,MapKept.run_getObj_map hb,K.check W false hkey,h1,hj,h3,K.stays W hkey,MapKept.run_setObj_map _ hb,Result.andThen,setBlock],.inr ⟨j,e0,h2,h3,by rw[Array.toList_modify,modify_eq_set _ _ _ _ h2]⟩⟩
theorem KM (hb:W.heap[b]? =some (.map es clock)) (o:Obj):W.grownBy (setBlock W b o) (some b):=
 ⟨rfl,rfl,rfl,by simp[setBlock],λi _ hi=>heap_setBlock_other hb _ (λe1=>hi (by rw[e1]))⟩
def eJ (P:Program) (k:TypeId) (W:World) (b:Nat) (ks:List Value):Prop:= ∃es clock,W.heap[b]? =some (.map es clock)/\(∀x∈es.toList,x.val=aR #[])/\(∀x∈es.toList,∃l,keyOf P k x.key=some l)/\ ∀v,(∃x∈es.toList,x.key=v)↔v∈ks
theorem eJ.new {ks:List Value} (h:W.heap[b]? =some (.map #[] 0)) (hk:ks=[]):eJ P k W b ks:=⟨#[],0,h,by simp,by simp,by simp[hk]⟩
theorem eJ.kept {ks:List Value} {W':World} (h:eJ P k W b ks) (hb:W'.heap[b]? =W.heap[b]?):eJ P k W' b ks:=by
 obtain⟨es,c,h1,h2⟩:=h;exact⟨es,c,hb.trans h1,h2⟩
theorem eJ.lt {ks:List Value} (h:eJ P k W b ks):b<W.heap.size:=by
 obtain⟨es,c,h1,_⟩:=h;exact(Array.getElem?_eq_some_iff.1 h1).1
theorem eJ.below {ks:List Value} {W':World} (h:eJ P k W b ks) (hb:Below W.heap.size W W'):eJ P k W' b ks:=h.kept (hb.block b h.lt)
theorem eJ.look {ks:List Value} (h:eJ P k W b ks) (K:KeyLaw P k) (ht:P.underlying t=some (.map k e)) (hz:(zeroValue e).run P W= .ok (aR #[]) W) (hkey:keyOf P k key=some kl) {B:Bool} (hB:B=true↔key∈ks):
  (Instr.lookup t (.map (some b)) key true).run P W= .ok (aN #[aR #[],aI B]) W:=by
 obtain⟨es,c,h1,h2,h3,h4⟩:=h;rcases zS K ht hz h1 h3 hkey with⟨h5,h6,_⟩|⟨x,hx,h5,h6,_⟩
 .have:B=false:=by
   cases B
   .rfl
   .obtain⟨x,hx,e1⟩:=(h4 key).2 (hB.1 rfl);exact absurd e1 (h5 x hx)
  rw[h6,this]
 .have:B=true:=hB.2 ((h4 key).1 ⟨x,hx,h5⟩);rw[h6,this,h2 x hx]
theorem eJ.put {ks:List Value} (h:eJ P k W b ks) (K:KeyLaw P k) (ht:P.underlying t=some (.map k e)) (hkey:keyOf P k key=some kl):
  ∃W',(Instr.mapUpdate t (.map (some b)) key (aR #[])).run P W= .ok () W'/\eJ P k W' b (ks++[key])/\W.grownBy W' (some b):=by
 obtain⟨es,c,h1,h2,h3,h4⟩:=h;obtain⟨es',c',h5,h6⟩:=LZ (val:= aR #[]) K ht h1 h3 hkey;refine⟨_,h5,⟨es',c',heap_setBlock_same h1 _, ?_⟩,KM h1 _⟩;rcases h6 with⟨_,n,e1⟩|⟨j,e0,hj,ek,e1⟩
 .rw[e1];refine⟨?_, ?_,λv=> ?_⟩
  .intro x hx;rcases eK.1 hx with hx|hx
   .exact h2 x hx
   .rw[fW.1 hx]
  .intro x hx;rcases eK.1 hx with hx|hx
   .exact h3 x hx
   .rw[fW.1 hx];exact⟨_,hkey⟩
  .rw[eK,fW,<-h4 v];constructor
   .rintro⟨x,hx,e2⟩;rcases eK.1 hx with hx|hx
    .exact .inl ⟨x,hx,e2⟩
    .rw[fW.1 hx]at e2;exact .inr e2.symm
   .rintro(⟨x,hx,e2⟩|e2)
    .exact⟨x,eK.2 (.inl hx),e2⟩
    .exact⟨_,eK.2 (.inr (fW.2 rfl)),e2.symm⟩
 .have hsame:es'.toList=es.toList:=by
   rw[e1];have he0:({e0 with key:=key,val:= aR #[]}:MapEntry)=e0:=by
    have:=h2 e0 (xq hj);cases e0;simp only at this ek;subst this ek;rfl
   rw[he0];apply List.ext_getElem?;intro i;rw[List.getElem?_set];split
   .next hi=>subst hi;rw[hj,if_pos (gV.1 hj).1]
   .rfl
  rw[hsame];refine⟨h2,h3,λv=> ?_⟩;rw[h4 v,eK,fW];constructor
  .exact .inl
  .rintro(h|h)
   .exact h
   .rw[h];exact(h4 key).1 ⟨e0,xq hj,ek⟩
end
theorem OR {P:Program} {k e:TypeId} {w:World} {ops:Array Oper} {rest:List Oper} {o:Oper} {a:Act} {Q:Exit->Act->World->Prop} (hg:o.guard=none) (m x v:Operand) (t:TypeId) (hop:o.op=Op.mapUpdate t m x v)
  (b:Nat) (ks:List Value) (h:eJ P k w b ks) (K:KeyLaw P k) (ht:P.underlying t=some (.map k e)) (hm:a.eval m= .map (some b)) {key:Value} {kl:Lit} (hx:a.eval x=key) (hv:a.eval v=aR #[]) (hkey:keyOf P k key=some kl)
  (hK: ∀w',eJ P k w' b (ks++[key])->w.grownBy w' (some b)->wpList P ops Q rest (a.put o.dst undef) w'):wpList P ops Q (o::rest) a w:=by
 refine wpList_plain hg λK' hK'=> ?_;obtain⟨w',hrun,r1,r2⟩:=h.put K ht hkey;unfold Oper.wp;simp[execOp,hop,hm,hx,hv,hrun,Result.andThen];exact hK' _ _ (hK w' r1 r2)
theorem GM {B b:Nat} {a w w':World} (h:Below B a w) (hg:w.grownBy w' (some b)) (hb:B<=b) (hB:B<=w.heap.size):Below B a w':=
 h.trans ⟨hg.os,hg.tape,hg.output,hg.size,λj hj=>hg.block j om (λe=>by have:=jP.inj e;omega)⟩
theorem E2 {P:Program} {W:World} {o:Oper} {a:Act} {K:Act->World->Prop} {Q:Exit->Act->World->Prop} (s x:Operand) (t:TypeId)
  (ho:o.op= .call {callee:= .builtin .append,args:= #[s,x],argTypes:= #[t,t]})
  {e:TypeId} {z:Value} {size bytes:Nat} (row:jX P t e z size bytes) (base:Nat) {v:Value} {n:Nat} {xs:List Value} (hs:a.eval s=v) (hown:W.ownsRow base e size v n xs)
  (hb:base<=W.heap.size) (ad:Addr) (m c:Nat) (news:List Value) (hx:a.eval x=aF (some ad) m c) (hl:news.length=m*size)
  (hnews: ∀j u,news[j]? =some u->W.cell? (ad.add j)=some u) (h1: ∀u∈news,u.oneCell'=true) (h63:n+m<=maxLen) (hbytes:(n+m)*bytes<=140737488355328)
  (h: ∀v' W',W'.ownsRow base e size v' (n+m) (xs++news)->W.grownBy W' v.ownBlock->(v'.ownBlock=v.ownBlock\/v'.ownBlock=some W.heap.size)->K (a.put o.dst v') W'):o.wp P a W K Q:=by
 obtain⟨i,hi,hz0,hz1,hz2⟩:=info_parts row.hi;obtain⟨v',w',hr,h2,h3,_,h5⟩:=run_append_own_at (P:=P) W base t o.type e i z size bytes row.ht hi hz0 hz1 hz2 row.hzs row.hsz v n xs hown ad m c news hl hnews h1 h63 hbytes hb;unfold Oper.wp execOp;simp only[ho,resolve,invoke,builtin,Sem.run_bind,Sem.run_pure,Result.andThen_ok,List.map_toArray,List.map_cons,List.map_nil,hs,hx,hr];exact h v' w' h2 h3 h5
theorem E5 {P:Program} {w:World} {ops:Array Oper} {rest:List Oper} {o:Oper} {a:Act} {Q:Exit->Act->World->Prop} (hg:o.guard=none) (m x v:Operand) (t:TypeId) (hop:o.op=Op.mapUpdate t m x v)
  {mv key val:Value} {w':World} (hm:a.eval m=mv) (hx:a.eval x=key) (hv:a.eval v=val) (hrun:(Instr.mapUpdate t mv key val).run P w= .ok () w') (hK:wpList P ops Q rest (a.put o.dst undef) w'):wpList P ops Q (o::rest) a w:=by
 refine wpList_plain hg λK' hK'=> ?_;unfold Oper.wp;simp[execOp,hop,hm,hx,hv,hrun,Result.andThen];exact hK' _ _ hK
section
variable {P:Program} {k e t tA:TypeId} {W:World} {b base size:Nat} {α:Type} {kf:α->Bs} {cells:α->List Value}
def eF (kf:α->Bs) (l:List α) (u:Bs):List α:=l.filter λx=>decide (kf x=u)
theorem XH (l:List α) (x:α) (u:Bs):eF kf (l++[x]) u=if kf x=u then eF kf l u++[x]else eF kf l u:=by
 unfold eF;rw[List.filter_append];by_cases h:kf x=u
 .rw[if_pos h,List.filter_cons_of_pos (by simp[h]),List.filter_nil]
 .rw[if_neg h,List.filter_cons_of_neg (by simp[h]),List.filter_nil,List.append_nil]
structure IB (P:Program) (k tA:TypeId) (size:Nat) (kf:α->Bs) (cells:α->List Value) (W:World) (base:Nat) (l:List α) (es:List MapEntry):Prop where
 keys: ∀x∈es,∃l,keyOf P k x.key=some l
 rows: ∀x∈es,∃u,x.key=sv u/\eF kf l u≠[]/\W.ownsRow base tA size x.val (eF kf l u).length ((eF kf l u).flatMap cells)
 all: ∀u,eF kf l u≠[]-> ∃x∈es,x.key=sv u
 apart:es.Pairwise λx y=>x.key≠y.key/\ ∀g,x.val.ownBlock=some g->y.val.ownBlock≠some g
def jF (P:Program) (k tA:TypeId) (size:Nat) (kf:α->Bs) (cells:α->List Value) (W:World) (b base:Nat) (l:List α):Prop:=b<base/\ ∃es clock,W.heap[b]? =some (.map es clock)/\IB P k tA size kf cells W base l es.toList
theorem yV {a c:Bs} (h:sv a=sv c):a=c:=by
 have h1:=congrArg (λv=>match v with| .string s=>s.data.toList|_=>[]) h;simpa[sv]using h1
theorem jF.new (h:W.heap[b]? =some (.map #[] 0)) (hb:b<base):jF P k tA size kf cells W b base []:=⟨hb,#[],0,h,⟨by simp,by simp,λu h=>absurd rfl h,by simp⟩⟩
theorem jF.lt {l:List α} (h:jF P k tA size kf cells W b base l):b<W.heap.size:=by
 obtain⟨_,es,c,h1,_⟩:=h;exact(Array.getElem?_eq_some_iff.1 h1).1
theorem IB.grown {l:List α} {es:List MapEntry} {W':World} (h:IB P k tA size kf cells W base l es) (hg:W.grownBy W' none):IB P k tA size kf cells W' base l es:=
 ⟨h.keys,λx hx=>by obtain⟨u,h1,h2,h3⟩:=h.rows x hx;exact⟨u,h1,h2,h3.kept hg (Classical.em _)⟩,h.all,h.apart⟩
theorem jF.grown {l:List α} {W':World} (h:jF P k tA size kf cells W b base l) (hg:W.grownBy W' none):jF P k tA size kf cells W' b base l:=by
 have hl:=h.lt;obtain⟨h0,es,c,h1,h2⟩:=h;exact⟨h0,es,c,(hg.block b hl (by simp)).trans h1,h2.grown hg⟩
theorem jF.below {l:List α} {W':World} (h:jF P k tA size kf cells W b base l) (hb:Below W.heap.size W W'):jF P k tA size kf cells W' b base l:=
 h.grown ⟨hb.os,hb.tape,hb.output,hb.size,λi hi _=>hb.block i hi⟩
theorem jF.look {l:List α} (h:jF P k tA size kf cells W b base l) (_hn: ∀x,(cells x).length=size) (K:KeyLaw P k) (ht:P.underlying t=some (.map k e)) (hz: ∀W',(zeroValue e).run P W'= .ok (aF none 0 0) W') (u:Bs) {kl:Lit} (hkey:keyOf P k (sv u)=some kl):
  ∃v,(∀W':World,W'.heap[b]? =W.heap[b]? ->(Instr.lookup t (.map (some b)) (sv u) false).run P W'= .ok v W')/\W.ownsRow base tA size v (eF kf l u).length ((eF kf l u).flatMap cells)/\
   ∀(x:α) (v':Value) (W1:World),kf x=u->W1.ownsRow base tA size v' ((eF kf l u).length+1) ((eF kf l u).flatMap cells++cells x)->W.grownBy W1 v.ownBlock->(v'.ownBlock=v.ownBlock\/ ∃g,v'.ownBlock=some g/\W.heap.size<=g)->
    ∃W2,(Instr.mapUpdate t (.map (some b)) (sv u) v').run P W1= .ok () W2/\jF P k tA size kf cells W2 b base (l++[x])/\W1.grownBy W2 (some b):=by
 have hlt:=h.lt;obtain⟨h0,es,c,h1,h2⟩:=h;have hflat: ∀x,(eF kf l u++[x]).flatMap cells=(eF kf l u).flatMap cells++cells x:=λx=>by rw[List.flatMap_append,iF,List.flatMap_nil,List.append_nil]
 have step: ∀v,W.ownsRow base tA size v (eF kf l u).length ((eF kf l u).flatMap cells)->(∀y∈es.toList,y.key≠sv u-> ∀g,v.ownBlock=some g->y.val.ownBlock≠some g)->
   ∀(x:α) (v':Value) (W1:World),kf x=u->W1.ownsRow base tA size v' ((eF kf l u).length+1) ((eF kf l u).flatMap cells++cells x)->W.grownBy W1 v.ownBlock->(v'.ownBlock=v.ownBlock\/ ∃g,v'.ownBlock=some g/\W.heap.size<=g)->
    ∃W2,(Instr.mapUpdate t (.map (some b)) (sv u) v').run P W1= .ok () W2/\jF P k tA size kf cells W2 b base (l++[x])/\W1.grownBy W2 (some b):=by
  intro v hv hap x v' W1 hx hv' hg hat;have hvb:v.ownBlock≠some b:=λe1=>by have:=(hv.lt b e1).1;omega
  have hb1:W1.heap[b]? =some (.map es c):=(hg.block b hlt (λe1=>hvb e1.symm)).trans h1;obtain⟨es',c',h5,h6⟩:=LZ (val:=v') K ht hb1 h2.keys hkey;have hg2:=KM hb1 (.map es' c');refine⟨_,h5,⟨h0,es',c',heap_setBlock_same hb1 _, ?_⟩,hg2⟩;have hgx:eF kf (l++[x]) u=eF kf l u++[x]:=by rw[XH,if_pos hx]
  have hgo: ∀u',u'≠u->eF kf (l++[x]) u'=eF kf l u':=λu' hu=>by rw[XH,if_neg (by rw[hx];exact λe1=>hu e1.symm)]
  have hnew:(setBlock W1 b (.map es' c')).ownsRow base tA size v' (eF kf (l++[x]) u).length ((eF kf (l++[x]) u).flatMap cells):=by
   rw[hgx,hflat,List.length_append];refine hv'.kept hg2 (.inr λe1=> ?_);have:=(hv'.lt b e1).1;omega
  have hold: ∀y∈es.toList,y.key≠sv u-> ∃u',y.key=sv u'/\eF kf (l++[x]) u'≠[]/\(setBlock W1 b (.map es' c')).ownsRow base tA size y.val (eF kf (l++[x]) u').length ((eF kf (l++[x]) u').flatMap cells):=by
   intro y hy hyk;obtain⟨u',e1,e2,e3⟩:=h2.rows y hy;have hu:u'≠u:=λe4=>hyk (by rw[e1,e4]);refine⟨u',e1,by rw[hgo u' hu];exact e2, ?_⟩;rw[hgo u' hu];refine(e3.kept hg (.inr λe4=> ?_)).kept hg2 (.inr λe4=> ?_)
   .cases hvo:v.ownBlock with
    |none=>
     rw[hvo]at e4;obtain⟨_,hc⟩:=e3;rcases hc with⟨_,hc⟩|⟨g,cap,cur,hc,_⟩
     .exact e2 (List.length_eq_zero_iff.1 hc)
     .rw[hc]at e4;cases e4
    |some g=>exact hap y hy hyk g hvo (by rw[e4,hvo])
   .have:=(e3.lt b e4).1;omega
  have hap': ∀y∈es.toList,y.key≠sv u-> ∀g,v'.ownBlock=some g->y.val.ownBlock≠some g:=by
   intro y hy hyk g hg' hy';obtain⟨u',e1,e2,e3⟩:=h2.rows y hy;rcases hat with e4|⟨g2,e4,e5⟩
   .exact hap y hy hyk g (by rw[<-e4];exact hg') hy'
   .rw[hg']at e4;cases e4;have:=(e3.lt g hy').2;omega
  rcases h6 with⟨hno,n,e1⟩|⟨j,e0,hj,ek,e1⟩
  .rw[e1];refine⟨?_, ?_, ?_, ?_⟩
   .intro y hy;rcases eK.1 hy with hy|hy
    .exact h2.keys y hy
    .rw[fW.1 hy];exact⟨_,hkey⟩
   .intro y hy;rcases eK.1 hy with hy|hy
    .exact hold y hy (hno y hy)
    .rw[fW.1 hy];exact⟨u,rfl,by rw[hgx];simp,hnew⟩
   .intro u' hu';by_cases hu:u'=u
    .exact⟨_,eK.2 (.inr (fW.2 rfl)),by rw[hu]⟩
    .rw[hgo u' hu]at hu';obtain⟨y,hy,e2⟩:=h2.all u' hu';exact⟨y,eK.2 (.inl hy),e2⟩
   .refine List.pairwise_append.2 ⟨h2.apart,List.pairwise_singleton _ _,λy hy z hz=> ?_⟩;rw[fW.1 hz];exact⟨hno y hy,λg hg1 hg2=>hap' y hy (hno y hy) g hg2 hg1⟩
  .rw[e1];have hjl:j<es.toList.length:=(gV.1 hj).1;have hpw:=Wy.1 h2.apart;have hej:es.toList[j]=e0:=(gV.1 hj).2;have hne: ∀i (hi:i<es.toList.length),i≠j->es.toList[i].key≠sv u:=by
    intro i hi hij e2;rcases Nat.lt_or_gt_of_ne hij with h7|h7
    .have:=(hpw i j hi hjl h7).1;rw[hej,e2,ek]at this;exact this rfl
    .have:=(hpw j i hjl hi h7).1;rw[hej,e2,ek]at this;exact this rfl
   have who: ∀y∈es.toList.set j {e0 with key:=sv u,val:=v'},y={e0 with key:=sv u,val:=v'}\/(y∈es.toList/\y.key≠sv u):=by
    intro y hy;obtain⟨i,hi,ex⟩:=Xo hy;rw[Yc]at ex;split at ex
    .exact Or.inl ex.symm
    .rename_i hij;have hi':i<es.toList.length:=by simpa using hi
     exact Or.inr ⟨ex ▸ dN hi',ex ▸ hne i hi' (λe2=>hij e2.symm)⟩
   refine⟨?_, ?_, ?_, ?_⟩
   .intro y hy;rcases who y hy with rfl|⟨hy,_⟩
    .exact⟨_,hkey⟩
    .exact h2.keys y hy
   .intro y hy;rcases who y hy with rfl|⟨hy,hk⟩
    .exact⟨u,rfl,by rw[hgx];simp,hnew⟩
    .exact hold y hy hk
   .intro u' hu';by_cases hu:u'=u
    .exact⟨_,List.mem_set hjl _,by rw[hu]⟩
    .rw[hgo u' hu]at hu';obtain⟨y,hy,e2⟩:=h2.all u' hu';obtain⟨i,hi,ex⟩:=Xo hy;have hij:i≠j:=λe3=>by
      subst e3;rw[hej]at ex;rw[<-ex,ek]at e2;exact hu (yV e2).symm
     refine⟨y, ?_,e2⟩;rw[<-ex];have:=dN (l:=es.toList.set j {e0 with key:=sv u,val:=v'}) (n:=i) (by simpa using hi);rwa[List.getElem_set_ne (λe3=>hij e3.symm)]at this
   .refine Wy.2 λi i2 hi hi2 hlt2=> ?_;have hi':i<es.toList.length:=by simpa using hi
    have hi2':i2<es.toList.length:=by simpa using hi2
    rw[Yc,Yc];by_cases hij:j=i
    .subst hij;rw[if_pos rfl,if_neg om];have hk:=hne i2 hi2' om;exact⟨λe2=>hk e2.symm,λg hg1 hg2=>hap' _ (dN hi2') hk g hg1 hg2⟩
    .by_cases hij2:j=i2
     .subst hij2;rw[if_neg hij,if_pos rfl];have hk:=hne i hi' om;exact⟨hk,λg hg1 hg2=>hap' _ (dN hi') hk g hg2 hg1⟩
     .rw[if_neg hij,if_neg hij2];exact hpw i i2 hi' hi2' hlt2
 have one: ∀y∈es.toList,∀z∈es.toList,y.key=z.key->y=z:=by
  intro y hy z hz' hk;have hpw:=Wy.1 h2.apart;obtain⟨i,hi,ex⟩:=Xo hy;obtain⟨i2,hi2,ex2⟩:=Xo hz';rcases Nat.lt_trichotomy i i2 with h7|h7|h7
  .have:=(hpw i i2 hi hi2 h7).1;rw[ex,ex2]at this;exact absurd hk this
  .subst h7;exact ex.symm.trans ex2
  .have:=(hpw i2 i hi2 hi h7).1;rw[ex,ex2]at this;exact absurd hk.symm this
 rcases zS K ht (hz W) h1 h2.keys hkey with⟨h5,_,_⟩|⟨y,hy,h5,_,_⟩
 .have hem:eF kf l u=[]:=by
   cases hg:eF kf l u with
   |nil=>rfl
   |cons x r=>
    obtain⟨y,hy,e2⟩:=h2.all u (by rw[hg];exact List.cons_ne_nil _ _);exact absurd e2 (h5 y hy)
  have hv:W.ownsRow base tA size (aF none 0 0) (eF kf l u).length ((eF kf l u).flatMap cells):=by rw[hem];exact World.ownsRow_nil _ _ _ _
  refine⟨_,λW' hb'=> ?_,hv,step _ hv λy _ _ g hg=>(by cases hg)⟩;rcases zS K ht (hz W') (hb'.trans h1) h2.keys hkey with⟨_,_,h6⟩|⟨y,hy,h6,_,_⟩
  .exact h6
  .exact absurd h6 (h5 y hy)
 .obtain⟨u',e1,e2,e3⟩:=h2.rows y hy;have hu:u'=u:=yV (e1.symm.trans h5);subst hu;refine⟨y.val,λW' hb'=> ?_,e3,step _ e3 λz hz hk g hg hg'=> ?_⟩
  .rcases zS K ht (hz W') (hb'.trans h1) h2.keys hkey with⟨h6,_,_⟩|⟨y2,hy2,h6,_,h7⟩
   .exact absurd h5 (h6 y hy)
   .rw[h7,one y2 hy2 y hy (h6.trans h5.symm)]
  have hpw:=Wy.1 h2.apart;obtain⟨i,hi,ex⟩:=Xo hy;obtain⟨i2,hi2,ex2⟩:=Xo hz;rcases Nat.lt_trichotomy i i2 with h7|h7|h7
  .have:=(hpw i i2 hi hi2 h7).2 g;rw[ex,ex2]at this;exact this hg hg'
  .subst h7;rw[ex]at ex2;exact hk (by rw[<-ex2];exact h5)
  .have:=(hpw i2 i hi2 hi h7).2 g;rw[ex,ex2]at this;exact this hg' hg
end
open Go.RowKit
section
variable {P:Program} {ops:Array Oper} {md:Region.Mode} {Q:Exit->Act->World->Prop} {S:World->Prop}
def BQ (is:List Nat):List (Nat × Bool):=is.map λi=>(i,false)
def wW (P:Program) (ops:Array Oper) (Q:Exit->Act->World->Prop) (S:World->Prop) (L:Act->World->Prop) (j:Nat):List Nat->Act->World->Prop
 |[],a,w=>wpOp P ops Q j (λa' w'=>S w'/\L a' w') a w
 |i::is,a,w=>wpOp P ops Q i (λa' w'=>S w'/\wW P ops Q S L j is a' w') a w/\wpOp P ops Q j (λa' w'=>S w'/\dD P ops Q S L (BQ (i::is)) a' w') a w
def CH (md:Region.Mode) (ops:Array Oper) (n g j:Nat):List Nat->Array Bool->Bool
 |[],listed=>decide (j<n)&&decide (Region.ready md ops listed=[j])&&sB md ops n g [] (listed.setIfInBounds j true)
 |i::is,listed=>decide (i<n)&&decide (j<n)&&((Region.ready md ops listed).all (λx=>x==i||x==j)&& !(Region.ready md ops listed).isEmpty)&&(CH md ops n g j is (listed.setIfInBounds i true)&&sB md ops n g (BQ (i::is)) (listed.setIfInBounds j true))
theorem OW {n g j:Nat} {L:Act->World->Prop} (hsel:Region.noSelect ops=true) (hs:Region.sinkB md ops n=true) (hc:Region.chainB md ops n=true) (hn:n<ops.size)
  (hQ: ∀c a d v w,Q (.panic c) (a.put d v) w->Q (.panic c) a w):
  ∀(is:List Nat) (listed:Array Bool) (a:Act) (w:World),HeadInv md ops n listed->CH md ops n g j is listed=true->S w->wW P ops Q S L j is a w->
   wV P md ops Q S n (λlisted' a' w'=>Region.seqB md ops g n listed'=true/\L a' w') (is.length+1) listed a w
 |[],listed,a,w,inv,hB,hS,h=>by
  simp only[CH,bD,decide_eq_true_eq]at hB;obtain⟨⟨hjn,hr⟩,hB⟩:=hB;refine⟨by rw[hr];simp,λx hx=> ?_⟩;have hxj:x=j:=by rw[hr]at hx;simpa using hx
  subst hxj;exact⟨hjn,wpOp_mono (λa' w' h'=>⟨h'.1,hB,h'.2⟩) h⟩
 |i::is,listed,a,w,inv,hB,hS,h=>by
  simp only[CH,bD,decide_eq_true_eq,dO,Bool.or_eq_true,beq_iff_eq,Bool.not_eq_true',List.isEmpty_eq_false_iff]at hB;obtain⟨⟨⟨hin,hjn⟩,hall,hne⟩,hB1,hB2⟩:=hB;refine⟨hne,λx hx=> ?_⟩;rcases hall x hx with rfl|rfl
  .exact⟨hin,wpOp_mono (λa' w' h'=>⟨h'.1,OW hsel hs hc hn hQ is _ _ _ (inv.set hx hin) hB1 h'.1 h'.2⟩) h.1⟩
  .refine⟨hjn,wpOp_mono (λa' w' h'=>⟨h'.1, ?_⟩) h.2⟩;have:=DE hsel hs hc hn hQ (BQ (i::is)) _ a' w' (inv.set hx hjn) hB2 h'.1 h'.2;simpa[BQ]using this
def wU (P:Program) (ops:Array Oper) (Q:Exit->Act->World->Prop) (S:World->Prop) (L:Act->World->Prop) (j:Nat) (is:List Nat):List Nat->Act->World->Prop
 |[],a,w=>wW P ops Q S L j is a w
 |i::rs,a,w=> ∃o v,ops[i]? =some o/\YieldsIf P ops S o v a/\wU P ops Q S L j is rs (a.put o.dst v) w
def BF (md:Region.Mode) (ops:Array Oper) (n g j:Nat) (is:List Nat):List Nat->Array Bool->Bool
 |[],listed=>CH md ops n g j is listed
 |i::rs,listed=>decide (i<n)&&Region.free md ops listed i&&(Region.ready md ops listed).contains i&&BF md ops n g j is rs (listed.setIfInBounds i true)
theorem OV {n g j:Nat} {L:Act->World->Prop} (is:List Nat) (hsel:Region.noSelect ops=true) (hs:Region.sinkB md ops n=true) (hc:Region.chainB md ops n=true) (hn:n<ops.size)
  (hQ: ∀c a d v w,Q (.panic c) (a.put d v) w->Q (.panic c) a w):
  ∀(rs:List Nat) (listed:Array Bool) (a:Act) (w:World),HeadInv md ops n listed->BF md ops n g j is rs listed=true->S w->wU P ops Q S L j is rs a w->
   wV P md ops Q S n (λlisted' a' w'=>Region.seqB md ops g n listed'=true/\L a' w') (rs.length+(is.length+1)) listed a w
 |[],listed,a,w,inv,hB,hS,h=>by
  rw[List.length_nil,Nat.zero_add];exact OW hsel hs hc hn hQ is listed a w inv hB hS h
 |i::rs,listed,a,w,inv,hB,hS,h=>by
  simp only[BF,bD,decide_eq_true_eq]at hB;obtain⟨⟨⟨hin,hf⟩,hr⟩,hB⟩:=hB;have hr:i∈Region.ready md ops listed:=by simpa using hr
  obtain⟨o,v,ho,hy,h⟩:=h;rw[List.length_cons,show rs.length+1+(is.length+1)=rs.length+(is.length+1)+1 by omega];exact OX ho (Region.noSelect_spec hsel) (λc a w=>hQ c a _ _ w) hs hc hn hin (λlisted' a' w' hL=>seqB_ready hL.1) _ listed a w inv (Region.free_spec ho hf) hr hy hS
   (OV is hsel hs hc hn hQ rs _ _ _ (inv.set hr hin) hB hS h)
theorem F3 {n j:Nat} {l:List Oper} {is rs:List Nat} {L:Act->World->Prop} {a:Act} {w:World} (hsel:Region.noSelect l.toArray=true) (hs:Region.sinkB md l.toArray n=true) (hc:Region.chainB md l.toArray n=true) (hn:n<l.length) (hlen:rs.length+(is.length+1)=n)
  (hQ: ∀c a d v w,Q (.panic c) (a.put d v) w->Q (.panic c) a w) (hB:BF md l.toArray n (l.length-n) j is rs (Array.replicate l.length false)=true) (hS:S w)
  (hL: ∀a' w',L a' w'->wpList P l.toArray Q (l.drop n) a' w')
  (h:wU P l.toArray Q S L j is rs a w):wpAny P md l.toArray Q l.length (Array.replicate l.length false) a w:=by
 have inv0:HeadInv md l.toArray n (Array.replicate l.length false):=
  ⟨by simp,λj oj _ hl=>(by rw[getD_replicate_false]at hl;cases hl),λt _ ht=>getD_in (by simpa using ht) (getD_replicate_false _ _)⟩
 have H:=OV (g:=l.length-n) is hsel hs hc (by simpa using hn) hQ rs _ a w inv0 hB hS h;have:=IK (g:=l.length-n) (λlisted a' w' hL'=>by
  have:=wpAny_of_seq (md:=md) (Q':=Q) (l.drop n) n listed a' w' (λj=>by simp[List.getElem?_drop]) (by rw[List.length_drop];exact hL'.1) (hL _ _ hL'.2);rwa[List.length_drop]at this) _ _ _ _ H
 rwa[hlen,show n+(l.length-n)=l.length by omega]at this
theorem AO {L:Act->World->Prop} {j i:Nat} {is:List Nat} {a:Act} {w:World} {o oj:Oper} (ho:ops[i]? =some o) (hw:Region.wanted o (yielded ops a.tmps)=true) (hj:ops[j]? =some oj) (hwj:Region.wanted oj (yielded ops a.tmps)=true)
  (h: ∀K:Act->World->Prop,(∀a' w',S w'/\wW P ops Q S L j is a' w'->K a' w')->o.wp P a w K Q)
  (hf: ∀K:Act->World->Prop,(∀a' w',S w'/\dD P ops Q S L (BQ (i::is)) a' w'->K a' w')->oj.wp P a w K Q):wW P ops Q S L j (i::is) a w:=by
 constructor
 .unfold wpOp;simp only[ho,hw,if_true];exact .inl (h _ λ_ _ h=>h)
 .unfold wpOp;simp only[hj,hwj,if_true];exact .inl (hf _ λ_ _ h=>h)
theorem F2 {L:Act->World->Prop} {j:Nat} {a:Act} {w:World} {oj:Oper} (hj:ops[j]? =some oj) (hwj:Region.wanted oj (yielded ops a.tmps)=true)
  (hf: ∀K:Act->World->Prop,(∀a' w',S w'/\L a' w'->K a' w')->oj.wp P a w K Q):wW P ops Q S L j [] a w:=by
 unfold wW wpOp;simp only[hj,hwj,if_true];exact .inl (hf _ λ_ _ h=>h)
theorem eM {L:Act->World->Prop} {is:List (Nat × Bool)} {i:Nat} {a:Act} {w:World} {o:Oper} {v:Value} (d:Nat) (ho:ops[i]? =some o) (hd:o.dst=some d) (hw:Region.wanted o (yielded ops a.tmps)=true)
  (hv: ∀W,S W->(execOp a.eval o).run P W= .ok (.value v) W) (h:dD P ops Q S L is (a.put (some d) v) w):dD P ops Q S L ((i,true)::is) a w:=bN ho hw hv (hd ▸ h)
theorem Tn {L:Act->World->Prop} {is:List (Nat × Bool)} {i:Nat} {a:Act} {w:World} {o:Oper} (d:Nat) (ho:ops[i]? =some o) (hd:o.dst=some d) (hw:Region.wanted o (yielded ops a.tmps)=false) (h:dD P ops Q S L is (a.put (some d) undef) w):dD P ops Q S L ((i,true)::is) a w:=⟨o,undef,ho,.inr ⟨hw,rfl⟩,hd ▸ h⟩
theorem lU {L:Act->World->Prop} {j:Nat} {is rs:List Nat} {i:Nat} {a:Act} {w:World} {o:Oper} {v:Value} (d:Nat) (ho:ops[i]? =some o) (hd:o.dst=some d) (hw:Region.wanted o (yielded ops a.tmps)=true)
  (hv: ∀W,S W->(execOp a.eval o).run P W= .ok (.value v) W) (h:wU P ops Q S L j is rs (a.put (some d) v) w):wU P ops Q S L j is (i::rs) a w:=⟨o,v,ho,.inl ⟨hw,hv⟩,hd ▸ h⟩
end
theorem D8 {P:Program} {id:Nat} {ops:List Oper} {Q:Exit->Act->World->Prop} {a:Act} {w:World} (n j:Nat) (is rs:List Nat) (S:World->Prop) (hm:P.follows .mixedOrders=true)
  (hsel:Region.noSelect ops.toArray=true) (hs:Region.sinkB .any ops.toArray n=true) (hc:Region.chainB .any ops.toArray n=true) (hn:n<ops.length) (hlen:rs.length+(is.length+1)=n)
  (hQ: ∀c a d v w,Q (.panic c) (a.put d v) w->Q (.panic c) a w) (hB:BF .any ops.toArray n (ops.length-n) j is rs (Array.replicate ops.length false)=true) (hS:S w.drew)
  (h:wU P ops.toArray Q S (λa' w'=>wpList P ops.toArray Q (ops.drop n) a' w') j is rs a w.drew):(Code.region id ops.toArray true).wp P Q a w:=
 wp_region_any hm (F3 hsel hs hc hn hlen hQ hB hS (λ_ _ h=>h) h)
def YL:List Bs:=["script","style","xmp","iframe","noembed","noframes","noscript","plaintext","svg","math","template","textarea","title","frameset","frame","object","embed","base"].map (λs=>s.toUTF8.data.toList)
def Jg:Bs:=[106,97,118,97,115,99,114,105,112,116]
def H8:Bs:=[118,98,115,99,114,105,112,116]
def Ol:Bs:=[100,97,116,97]
def SM:List Bs:=[Jg,H8,Ol]
def RQ:Bs:=[115,114,99,100,111,99]
def CO (t:Bs):Bool:=decide (t∈YL)
def BE (t:Bs):Bool:=decide (t∈SM)
def BL:Bs->Bool
 |a::b::_=>decide (a=111/\b=110)
 |_=>false
def kC (t:Bs):Bool:=decide (t=RQ)||BL t
def eW (p:aO) (t:Bs):Bool:=decide (t∈p.tags)
def xE (p:aO) (t:Bs):Bool:=decide (t∈p.schemes)
def xU (p:aO) (t:Bs):Bool:=decide (t∈p.css)
def xS (p:aO) (t:Bs):Bool:=decide (t∈p.drops)
def tO (p:aO) (t n:Bs):Bool:=eW p t&&(decide ((⟨t,n⟩:aW)∈p.attrs)||decide ((⟨[42],n⟩:aW)∈p.attrs))
def cM (p:aO) (t:Bs):List (Bs × Bs):=(p.forces.filter (λf=>decide (f.tag=t))).map λf=>(f.name,f.value)
def tF (p:aO) (f:aS):Bool:=decide (p.name<(f.name.length:Int))||decide (p.value<(f.value.length:Int))
def tI (p:aO) (t:Bs):Bool:=decide (p.name<(t.length:Int))
def yA (p:aO):Bool:=p.tags.any CO||(p.attrs.any (λa=>kC a.name)||(p.forces.any (λf=>kC f.name)||p.schemes.any BE))
def mO (p:aO):Nat:=
 if yA p=true then 6
 else if p.tags.any (xS p)=true then 5
 else if(p.forces.any (λf=> !eW p f.tag)||p.attrs.any (λa=> !decide (a.tag=[42])&& !eW p a.tag))=true then 4
 else if(p.forces.any (tF p)||p.tags.any (tI p))=true then 1
 else 0
def pX (p:aO):Nat:=if gZ p=true then mO p else 1
def qE (s:Bs):Rs aO:=match jS s with
 | .error f=> .error f
 | .ok p=>if mO p=0 then .ok p else .error ⟨s.length,mO p⟩
theorem Pj {s:Bs} {p:aO} (h:jS s= .ok p):qE s=if pX p=0 then .ok p else .error ⟨s.length,pX p⟩:=by
 unfold qE pX;rw[h,if_pos (LG h)]
theorem OQ {p:aO} (h:mO p=0):yA p=false/\p.tags.any (xS p)=false/\p.forces.any (λf=> !eW p f.tag)=false/\p.attrs.any (λa=> !decide (a.tag=[42])&& !eW p a.tag)=false/\p.forces.any (tF p)=false/\p.tags.any (tI p)=false:=by
 unfold mO at h;split at h
 .cases h
 .next h1=>
  split at h
  .cases h
  .next h2=>
   split at h
   .cases h
   .next h3=>
    split at h
    .cases h
    .next h4=>
     rw[Bool.not_eq_true]at h1 h2 h3 h4;rw[oK]at h3 h4;exact⟨h1,h2,h3.1,h3.2,h4.1,h4.2⟩
theorem GQ {α:Type} {l:List α} {f:α->Bool} (h:l.any f=false) {x:α} (hx:x∈l):f x=false:=by
 cases hf:f x
 .rfl
 .rw[List.any_eq_true.2 ⟨x,hx,hf⟩]at h;cases h
theorem Ad {p:aO} (h:mO p=0) {t:Bs} {x:Bs × Bs} (hx:x∈cM p t):eW p t=true/\kC x.1=false/\(x.2.length:Int)<=p.value:=by
 obtain⟨h1,_,h3,_,h5,_⟩:=OQ h;unfold yA at h1;simp only[oK]at h1;unfold cM at hx;obtain⟨f,hf,rfl⟩:=jH.1 hx;obtain⟨hm,ht⟩:=rS.1 hf;simp only[decide_eq_true_eq]at ht;subst ht;have a1:=GQ h3 hm;have a2:=GQ h1.2.2.1 hm;have a3:=GQ h5 hm;refine⟨by simpa using a1,a2, ?_⟩;unfold tF at a3;simp only[oK,decide_eq_false_iff_not]at a3;simp only;omega
theorem Bf {p:aO} (h:gZ p=true):(∀t∈p.tags,bW t=true)/\(∀t∈p.schemes,bW t=true)/\(∀a∈p.attrs,oG a=true)/\(∀f∈p.forces,lN f=true)/\eD p=p:=by
 unfold gZ at h;simp only[bD,dO,decide_eq_true_eq]at h;exact⟨h.1.1.1.1.1.1.1.1,h.1.1.1.1.1.1.1.2,h.1.1.1.1.2,h.1.1.1.2,h.2⟩
theorem La {p:aO} (h:gZ p=true) (t:Bs):(cM p t).Pairwise (λx y=>bF x.1 y.1=true):=by
 obtain⟨_,_,_,_,hn⟩:=Bf h;have hf:bS cG p.forces=p.forces:=congrArg aO.forces hn;have hr:=EU vN p.forces;rw[hf]at hr;unfold cM;rw[List.pairwise_map];refine(hr.filter _).imp_of_mem λ{a b} ha hb hab=> ?_;have ha:=(rS.1 ha).2;have hb:=(rS.1 hb).2;rw[decide_eq_true_eq]at ha hb;have e1:cG a b=(bF a.tag b.tag||(decide (a.tag=b.tag)&&bF a.name b.name)):=rfl;rw[e1,ha,hb,tH]at hab;simpa using hab
open Go.RowKit
open Go.WideMaps (KeyLaw)
attribute [local go_sem] Oper.semAt_some
theorem VZ:laidOutB aE=true:=by kernel_rfl
theorem vO:KeyLaw aE 9:=WideMaps.string_law kr
theorem ZO:KeyLaw aE 65:=deep_law_laid VZ (m:=2) om (of_decide_eq_true kr) kr kr
theorem vP {t:Bs} (h:t.length<=maxLen):keyOf aE 9 (sv t)=some (.string t):=by
 have:=WideMaps.keyOf_string_mk (P:=aE) (k:=9) kr (s:=⟨t.toArray⟩) (by show t.toArray.size<=_;simpa using h);simpa[sv]using this
theorem Rz (d:Nat) (x y:ByteArray) (hx:x.size<=maxLen) (hy:y.size<=maxLen):aE.keyLits (d+2) 65 [.string x,.string y]=some [.string x.data.toList,.string y.data.toList]:=by
 have hs: ∀z:ByteArray,z.size<=maxLen->aE.keyLits (d+1) 9 [.string z]=some [.string z.data.toList]:=λz hz=>by
  unfold Program.keyLits;rw[Tryz.underlying9];simp[hz]
 have c1:aE.cellsOf 9=1:=by kernel_rfl
 have c2:aE.cellsOf 65=2:=by kernel_rfl
 unfold Program.keyLits;rw[zk];simp[c1,c2,hs x hx,hs y hy]
theorem ZP (a n:Bs) (ha:a.length<=maxLen) (hn:n.length<=maxLen): ∃l,keyOf aE 65 (aR #[sv a,sv n])=some l:=by
 have h:=λd=>Rz d ⟨a.toArray⟩ ⟨n.toArray⟩ (by show a.toArray.size<=_;simpa using ha) (by show n.toArray.size<=_;simpa using hn);have hk:aE.keyType 65=true:=by kernel_rfl
 have hc:aE.cellsOf 65=2:=by kernel_rfl
 have hf:Value.formed aE 65 (aR #[sv a,sv n])=true:=by
  unfold Value.formed;simp[zk,hc]
 obtain⟨d,hd⟩: ∃d,aE.types.size+1=d+2:=⟨aE.types.size-1,by have:0<aE.types.size:=of_decide_eq_true kr;omega⟩;unfold keyOf;rw[zk];simp only[hk,hf,hd,Bool.and_self,if_true];refine⟨.string (keyBytes [.string a,.string n]), ?_⟩;have e:(aR #[sv a,sv n]).cells.toList=[aD ⟨a.toArray⟩,aD ⟨n.toArray⟩]:=rfl;rw[e,h d];rfl
theorem OP (W:World):(zeroValue 85).run aE W= .ok (aR #[]) W:=by kernel_rfl
theorem FT (b:Nat) (ks:List Bs) (t:Bs) (w:World) (h:eJ aE 9 w b (ks.map sv)) (ht:t.length<=maxLen):Calls aE 22 #[.map (some b),sv t] w (aH (aI (decide (t∈ks))) w):=by
 obtain⟨D,hD⟩: ∃D,decide (t∈ks)=D:=⟨_,rfl⟩;have hB:D=true↔sv t∈ks.map sv:=by
  rw[<-hD,decide_eq_true_eq,jH];exact⟨λh=>⟨t,h,rfl⟩,λ⟨u,hu,e⟩=>yV e ▸ hu⟩
 have HL:=aA (show(Instr.lookup 56 (.map (some b)) (sv t) true).run aE w= .ok (aN #[aR #[],aI D]) w from h.look vO Tryz.underlying56 (OP w) (vP ht) hB);rw[hD];clear hD hB h ht;generalize sv t=v at*;go_enter Tryz.func22,Tryz.ntmps22;go_wp2_with(simp[go_sem,HL.out])
 go_ret;exact aH.of rfl aG
open Go.RowKit
attribute [local go_sem] Oper.semAt_some
theorem Sa {x y:aW} (h:x.agg=y.agg):x=y:=by
 cases x;cases y;have h1:=congrArg (λv=>match v with| .agg cs=>cs.toList|_=>[]) h;simp only[aW.agg,List.cons.injEq,and_true]at h1;obtain⟨h1,h2⟩:=h1;rw[yV h1,yV h2]
theorem XD (b:Nat) (ks:List aW) (x:aW) (w:World) (h:eJ aE 65 w b (ks.map aW.agg)) (h1:x.tag.length<=maxLen) (h2:x.name.length<=maxLen):Calls aE 23 #[.map (some b),x.agg] w (aH (aI (decide (x∈ks))) w):=by
 obtain⟨D,hD⟩: ∃D,decide (x∈ks)=D:=⟨_,rfl⟩;have hB:D=true↔x.agg∈ks.map aW.agg:=by
  rw[<-hD,decide_eq_true_eq,jH];exact⟨λh=>⟨x,h,rfl⟩,λ⟨u,hu,e⟩=>Sa e ▸ hu⟩
 obtain⟨kl,hk⟩:=ZP x.tag x.name h1 h2;have HL:=aA (λW (hb:Below w.heap.size w W)=>show(Instr.lookup 57 (.map (some b)) (aR #[aD ⟨x.tag.toArray⟩,aD ⟨x.name.toArray⟩]) true).run aE W= .ok (aN #[aR #[],aI D]) W from(h.below hb).look ZO Tryz.underlying57 (OP W) hk hB);rw[hD];clear hD hB h hk h1 h2;unfold aW.agg sv;generalize(⟨x.tag.toArray⟩:ByteArray)=a1 at*;generalize(⟨x.name.toArray⟩:ByteArray)=a2 at*;go_enter Tryz.func23,Tryz.ntmps23;go_upto_region 1 with fail
 refine dL λW hW=> ?_;have hb:Below w.heap.size w W:=by rw[hW];exact aG
 have HLw:=aA (HL.out W hb);have HB:=aA hb;obtain⟨B,hB⟩: ∃B,w.heap.size=B:=⟨_,rfl⟩;have c0:W.cell? ⟨B,0,none⟩=some (.string a1):=by rw[hW,<-hB];simp[go_sem]
 have c1:W.cell? ⟨B,1,none⟩=some (.string a2):=by rw[hW,<-hB];simp[go_sem]
 have hBW:B<W.heap.size:=by rw[hW,<-hB];simp
 rw[hB];clear hW hb HL;go_wp2_with(simp[go_sem,HLw.out])
 go_ret;exact aH.of rfl (HB.out.trans ((aG:Below W.heap.size W _).mono HB.out.size))
def ZV (k:TypeId) (w:World) (ks:List Value) (e:Ending) (w':World):Prop:= ∃b,e=aL (.map (some b))/\Below w.heap.size w w'/\w.heap.size<=b/\eJ aE k w' b ks
theorem EB (v:Value) (l:List Bs) (w:World) (h:Rd w v l.length 1 (l.map sv)) (hl: ∀t∈l,t.length<=maxLen):Calls aE 32 #[v] w (ZV 9 w (l.map sv)):=by
 have hmm:= @run_makeMap aE;obtain⟨_,hm,A,c,rfl,h4⟩:=h;obtain⟨n,hn⟩: ∃n,l.length=n:=⟨_,rfl⟩;have HN:=aA hn;rw[hn]at hm h4 ⊢;clear hn;have H4:=aA h4;have HL:=aA hl;clear h4 hl;go_enter Tryz.func32,Tryz.ntmps32;go_wp2_with fail
 refine dL λW0 hW0=> ?_;obtain⟨B,hB⟩: ∃B,w.heap.size=B:=⟨_,rfl⟩;rw[hB];have HK0:Hid (eJ aE 9 W0 B ((l.take 0).map sv)):=by rw[hW0];exact eJ.new (by rw[<-hB];exact heap_alloc_new w _) (by simp)
 have HB0:Hid (Below w.heap.size w W0):=by show Below _ _ _;rw[hW0];exact aG
 clear hW0;go_loopw [9] (λi wr=> ∃k:Nat,k<=n/\i=aB aC (k:Nat)/\Hid (eJ aE 9 wr B ((l.take k).map sv))/\Hid (Below w.heap.size w wr)) (λi _=>n-(intOf i).toNat)
 case atStart=>exact⟨0,by omega,rfl,HK0.out,HB0.out⟩
 case round=>
  clear HK0 HB0;obtain⟨k,hk,rfl,HK,HBw⟩:=hrel;by_cases hlt:k<n
  .obtain⟨b,off,rfl,hb,hc⟩:=H4.out om;have hkl:k<l.length:=by rw[HN.out];exact hlt
   have hcw:=(HBw.out.cell (p:=⟨b,off+k,none⟩) hb).trans (hc k (sv l[k]) (by simp[hkl]));have hbr:b<wr.heap.size:=bQ hb HBw.out.size;have HT:Hid (l.take (k+1)=l.take k++[l[k]]):=jG hkl;have HKey:=aA (vP (HL.out l[k] (dN hkl)));clear hc;generalize l[k]=t at*;have hwB:w.heap.size<=wr.heap.size:=HBw.out.size;generalize hv:sv t=u at*;go_wp2_with(at_mapUpdate;(refine OR rfl _ _ _ 56 rfl B _ HK.out vO Tryz.underlying56 rfl rfl rfl HKey.out ?_);intro W2 hk2 hg2;have HK2:=aA hk2;have HB2:=aA (GM HBw.out hg2 (zae hB) hwB);clear hk2 hg2)
   go_roundw
   case rel=>exact⟨k+1,by omega,by go_num,by show eJ _ _ _ _ _;rw[HT.out,List.map_append,List.map_singleton,hv];exact HK2.out,HB2.out⟩
   case measure=>simp[intOf];omega
  .have hkn:k=n:=by omega
   have HT:Hid (l.take k=l):=fI (by rw[HN.out];omega);go_wp2_with fail
   go_ret;exact⟨B,rfl,HBw.out,zae hB,by have:=HK.out;rwa[HT.out]at this⟩
open Go.RowKit
attribute [local go_sem] Oper.semAt_some
theorem oZ {α:Type} (cells:α->List Value) (n:Nat) (hn: ∀x,(cells x).length=n) (l:List α) (k j:Nat) (hk:k<l.length) (hj:j<n):(l.flatMap cells)[k*n+j]? =(cells l[k])[j]? :=by
 induction l generalizing k with
 |nil=>simp at hk
 |cons x r ih=>
  cases k with
  |zero=>simp only[iF,Nat.zero_mul,Nat.zero_add,List.getElem_cons_zero];rw[List.getElem?_append_left (by rw[hn];exact hj)]
  |succ k=>
   simp only[iF,List.getElem_cons_succ];rw[List.getElem?_append_right (by rw[hn,Nat.add_mul];omega),hn,show(k+1)*n+j-n=k*n+j by rw[Nat.add_mul];omega];exact ih k (by simpa using hk)
theorem l8 (v:Value) (l:List aW) (w:World) (h:Rd w v l.length 2 (l.flatMap aW.cells)) (hl: ∀x∈l,x.tag.length<=maxLen/\x.name.length<=maxLen):Calls aE 33 #[v] w (ZV 65 w (l.map aW.agg)):=by
 have hmm:= @run_makeMap aE;obtain⟨_,hm,A,c,rfl,h4⟩:=h;obtain⟨n,hn⟩: ∃n,l.length=n:=⟨_,rfl⟩;have HN:=aA hn;rw[hn]at hm h4 ⊢;clear hn;have H4:=aA h4;have HL:=aA hl;clear h4 hl;go_enter Tryz.func33,Tryz.ntmps33;go_wp2_with fail
 refine dL λW0 hW0=> ?_;obtain⟨B,hB⟩: ∃B,w.heap.size=B:=⟨_,rfl⟩;rw[hB];have HK0:Hid (eJ aE 65 W0 B ((l.take 0).map aW.agg)):=by rw[hW0];exact eJ.new (by rw[<-hB];exact heap_alloc_new w _) (by simp)
 have HB0:Hid (Below w.heap.size w W0):=by show Below _ _ _;rw[hW0];exact aG
 clear hW0;go_loopw [9] (λi wr=> ∃k:Nat,k<=n/\i=aB aC (k:Nat)/\Hid (eJ aE 65 wr B ((l.take k).map aW.agg))/\Hid (Below w.heap.size w wr)) (λi _=>n-(intOf i).toNat)
 case atStart=>exact⟨0,by omega,rfl,HK0.out,HB0.out⟩
 case round=>
  clear HK0 HB0;obtain⟨k,hk,rfl,HK,HBw⟩:=hrel;by_cases hlt:k<n
  .obtain⟨b,off,rfl,hb,hc⟩:=H4.out om;have hkl:k<l.length:=by rw[HN.out];exact hlt
   obtain⟨x,hx⟩: ∃x,l[k]=x:=⟨_,rfl⟩;have x0:wr.cell? ⟨b,off+k*2,none⟩=some (aD ⟨x.tag.toArray⟩):=(HBw.out.cell (p:=⟨b,off+k*2,none⟩) hb).trans (hc (k*2+0) (sv x.tag) (by rw[oZ aW.cells 2 (λ_=>rfl) l k 0 hkl om,hx];rfl));have x1:wr.cell? ⟨b,off+k*2+1,none⟩=some (aD ⟨x.name.toArray⟩):=(HBw.out.cell (p:=⟨b,off+k*2+1,none⟩) hb).trans ((congrArg (λi=>w.cell? ⟨b,i,none⟩) om).trans (hc (k*2+1) (sv x.name) (by rw[oZ aW.cells 2 (λ_=>rfl) l k 1 hkl om,hx];rfl)));have hbr:b<wr.heap.size:=bQ hb HBw.out.size;have HT:Hid (l.take (k+1)=l.take k++[x]):=by show _=_;rw[jG hkl,hx]
   obtain⟨kl,hkl2⟩:=ZP x.tag x.name (HL.out x (hx ▸ dN hkl)).1 (HL.out x (hx ▸ dN hkl)).2;have HKey:=aA (show keyOf aE 65 (aR #[aD ⟨x.tag.toArray⟩,aD ⟨x.name.toArray⟩])=some kl from hkl2);have HAg:Hid (x.agg=aR #[aD ⟨x.tag.toArray⟩,aD ⟨x.name.toArray⟩]):=rfl;clear hc hx hkl hkl2;have hwB:w.heap.size<=wr.heap.size:=HBw.out.size;generalize(⟨x.tag.toArray⟩:ByteArray)=a1 at*;generalize(⟨x.name.toArray⟩:ByteArray)=a2 at*;go_upto_region 5 with fail
   refine dL λW1 hW1=> ?_;have hb1:Below wr.heap.size wr W1:=by rw[hW1];exact aG
   obtain⟨B1,hB1⟩: ∃B,wr.heap.size=B:=⟨_,rfl⟩;have c0:W1.cell? ⟨B1,0,none⟩=some (.string a1):=by rw[hW1,<-hB1];simp[go_sem]
   have c1:W1.cell? ⟨B1,1,none⟩=some (.string a2):=by rw[hW1,<-hB1];simp[go_sem]
   have hBW:B1<W1.heap.size:=by rw[hW1,<-hB1];simp
   have HK1:=aA (HK.out.below hb1);have HB1:=aA (HBw.out.trans (hb1.mono hwB));have hw1:=HB1.out.size;rw[hB1];clear hW1 hb1 HK HBw;go_wp2_with(at_mapUpdate;(refine OR rfl _ _ _ 57 rfl B _ HK1.out ZO Tryz.underlying57 rfl rfl rfl HKey.out ?_);intro W2 hk2 hg2;have HK2:=aA hk2;have HB2:=aA (GM HB1.out hg2 (zae hB) hw1);clear hk2 hg2)
   go_roundw
   case rel=>exact⟨k+1,by omega,by go_num,by show eJ _ _ _ _ _;rw[HT.out,List.map_append,List.map_singleton,HAg.out];exact HK2.out,HB2.out⟩
   case measure=>simp[intOf];omega
  .have hkn:k=n:=by omega
   have HT:Hid (l.take k=l):=fI (by rw[HN.out];omega);go_wp2_with fail
   go_ret;exact⟨B,rfl,HBw.out,zae hB,by have:=HK.out;rwa[HT.out]at this⟩
open Go.RowKit
attribute [local go_sem] Oper.semAt_some
def vE {α:Type} (g:Nat) (fs lb:Array Value) (enc:α->Value) (p:α->Bool) (l:List α) (w:World):Prop:=(∀args w,(callFunc g args).run aE w= .ok (.enter g args) w)/\ ∀t∈l,∀W,Below w.heap.size w W->Calls aE g (fs.push (enc t)++lb) W (aH (aI (p t)) W)
theorem vE.later {α:Type} {g:Nat} {fs lb:Array Value} {enc:α->Value} {p:α->Bool} {l:List α} {w W:World} (h:vE g fs lb enc p l w) (hb:Below w.heap.size w W):vE g fs lb enc p l W:=
 ⟨h.1,λt ht W' hb'=>h.2 t ht W' (hb.trans (hb'.mono hb.size))⟩
theorem Ld (v:Value) (l:List Bs) (g:Nat) (fs lb:Array Value) (p:Bs->Bool) (w:World) (h:Rd w v l.length 1 (l.map sv)) (hp:vE g fs lb sv p l w):
  Calls aE 111 #[v,.func (.func g) fs lb] w λe w'=> ∃i:Int,e=aL (aB aC i)/\decide (0<=i)=l.any p/\Below w.heap.size w w':=by
 obtain⟨eg,hp⟩:=hp;have hp:=aA hp;obtain⟨_,hm,A,c,rfl,h4⟩:=h;obtain⟨n,hn⟩: ∃n,l.length=n:=⟨_,rfl⟩;have HN:=aA hn;rw[hn]at hm h4 ⊢;clear hn;have H4:=aA h4;clear h4;go_enter Tryz.func111,Tryz.ntmps111;go_wp2_with fail
 go_loopw [8] (λi wr=> ∃k:Nat,k<=n/\i=aB aC (k:Nat)/\Hid (l.any p=(l.drop k).any p)/\Hid (Below w.heap.size w wr)) (λi _=>n-(intOf i).toNat)
 case atStart=>exact⟨0,by omega,rfl,by show _=_;rw[fJ],by show Below _ _ _;exact aG⟩
 case round=>
  obtain⟨k,hk,rfl,HK,HB⟩:=hrel;by_cases hlt:k<n
  .obtain⟨b,off,rfl,hb,hc⟩:=H4.out om;have hkl:k<l.length:=by rw[HN.out];exact hlt
   obtain⟨x,hx⟩: ∃x,l[k]=x:=⟨_,rfl⟩;have x0:wr.cell? ⟨b,off+k,none⟩=some (sv x):=(HB.out.cell (p:=⟨b,off+k,none⟩) hb).trans (hc k (sv x) (by simp[hkl,hx]));have hbr:b<wr.heap.size:=bQ hb HB.out.size;have HD:Hid (l.drop k=x::l.drop (k+1)):=by show _=_;rw[iK hkl,hx]
   have HP:=aA (hp.out x (hx ▸ dN hkl));clear hc hx hkl;obtain⟨px,hpx⟩: ∃px,p x=px:=⟨_,rfl⟩;rw[hpx]at HP;have HPx:=aA hpx;clear hpx;have HP2:=aA (λW hb=>show Calls aE g (fs.push (aD ⟨x.toArray⟩)++lb) W _ from HP.out W hb);rw[show sv x=aD ⟨x.toArray⟩from rfl]at x0;clear HP;generalize(⟨x.toArray⟩:ByteArray)=ts at*;have hwr:=HB.out.size;cases px with
   |false=>
    have HT:Hid (l.any p=(l.drop (k+1)).any p):=by
     show _=_;rw[HK.out,HD.out,nN,HPx.out,Bool.false_or]
    clear HK HD;go_wp2_with((with_reducible refine zG (HP2.out _ HB.out) λX=>?_))
    go_roundw
    case rel=>exact⟨k+1,by omega,by go_num,HT.out,by show Below _ _ _;exact HB.out.trans ((aG:Below wr.heap.size wr (wr.grow X)).mono HB.out.size)⟩
    case measure=>simp[intOf];omega
   |true=>
    have HT:Hid (l.any p=true):=by
     show _=_;rw[HK.out,HD.out,nN,HPx.out,Bool.true_or]
    clear HK HD;go_wp2_with((with_reducible refine zG (HP2.out _ HB.out) λX=>?_))
    go_ret;exact⟨k,rfl,by rw[HT.out];simp,HB.out.trans ((aG:Below wr.heap.size wr (wr.grow X)).mono HB.out.size)⟩
  .have HT:Hid (l.any p=false):=by
    show _=_;rw[HK.out,iG (by rw[HN.out];omega)];rfl
   go_wp2_with fail
   go_ret;exact⟨-1,rfl,by rw[HT.out];rfl,HB.out⟩
theorem FS (v:Value) (l:List Bs) (g:Nat) (fs lb:Array Value) (p:Bs->Bool) (w:World) (h:Rd w v l.length 1 (l.map sv)) (hp:vE g fs lb sv p l w):
  Calls aE 56 #[v,.func (.func g) fs lb] w (aH (aI (l.any p)) w):=by
 have HI:=aA (Ld v l g fs lb p w h hp);clear h hp;go_enter Tryz.func56,Tryz.ntmps56;go_wp2_with(go_at_call 111;(with_reducible refine HI.out.mono ?_);rintro e w' ⟨i,rfl,hi,hb⟩;have HB:=aA hb;have HI2:=aA hi;clear hb hi)
 go_ret;exact aH.of (by rw[<-HI2.out];simp) HB.out
theorem Lf (v:Value) (l:List aW) (g:Nat) (fs lb:Array Value) (p:aW->Bool) (w:World) (h:Rd w v l.length 2 (l.flatMap aW.cells)) (hp:vE g fs lb aW.agg p l w):
  Calls aE 115 #[v,.func (.func g) fs lb] w λe w'=> ∃i:Int,e=aL (aB aC i)/\decide (0<=i)=l.any p/\Below w.heap.size w w':=by
 obtain⟨eg,hp⟩:=hp;have hp:=aA hp;obtain⟨_,hm,A,c,rfl,h4⟩:=h;obtain⟨n,hn⟩: ∃n,l.length=n:=⟨_,rfl⟩;have HN:=aA hn;rw[hn]at hm h4 ⊢;clear hn;have H4:=aA h4;clear h4;go_enter Tryz.func115,Tryz.ntmps115;go_wp2_with fail
 go_loopw [8] (λi wr=> ∃k:Nat,k<=n/\i=aB aC (k:Nat)/\Hid (l.any p=(l.drop k).any p)/\Hid (Below w.heap.size w wr)) (λi _=>n-(intOf i).toNat)
 case atStart=>exact⟨0,by omega,rfl,by show _=_;rw[fJ],by show Below _ _ _;exact aG⟩
 case round=>
  obtain⟨k,hk,rfl,HK,HB⟩:=hrel;by_cases hlt:k<n
  .obtain⟨b,off,rfl,hb,hc⟩:=H4.out om;have hkl:k<l.length:=by rw[HN.out];exact hlt
   obtain⟨x,hx⟩: ∃x,l[k]=x:=⟨_,rfl⟩;have x0:wr.cell? ⟨b,off+k*2,none⟩=some (aD ⟨x.tag.toArray⟩):=(HB.out.cell (p:=⟨b,off+k*2,none⟩) hb).trans (hc (k*2+0) (sv x.tag) (by rw[oZ aW.cells 2 (λ_=>rfl) l k 0 hkl om,hx];rfl));have x1:wr.cell? ⟨b,off+k*2+1,none⟩=some (aD ⟨x.name.toArray⟩):=(HB.out.cell (p:=⟨b,off+k*2+1,none⟩) hb).trans ((congrArg (λi=>w.cell? ⟨b,i,none⟩) om).trans (hc (k*2+1) (sv x.name) (by rw[oZ aW.cells 2 (λ_=>rfl) l k 1 hkl om,hx];rfl)));have hbr:b<wr.heap.size:=bQ hb HB.out.size;have HD:Hid (l.drop k=x::l.drop (k+1)):=by show _=_;rw[iK hkl,hx]
   have HP:=aA (hp.out x (hx ▸ dN hkl));clear hc hx hkl;obtain⟨px,hpx⟩: ∃px,p x=px:=⟨_,rfl⟩;rw[hpx]at HP;have HPx:=aA hpx;clear hpx;have HP2:=aA (λW hb=>show Calls aE g (fs.push (aR #[aD ⟨x.tag.toArray⟩,aD ⟨x.name.toArray⟩])++lb) W _ from HP.out W hb);clear HP;generalize(⟨x.tag.toArray⟩:ByteArray)=a0 at*;generalize(⟨x.name.toArray⟩:ByteArray)=a1 at*;have hwr:=HB.out.size;cases px with
   |false=>
    have HT:Hid (l.any p=(l.drop (k+1)).any p):=by
     show _=_;rw[HK.out,HD.out,nN,HPx.out,Bool.false_or]
    clear HK HD;go_wp2_with((with_reducible refine zG (HP2.out _ HB.out) λX=>?_))
    go_roundw
    case rel=>exact⟨k+1,by omega,by go_num,HT.out,by show Below _ _ _;exact HB.out.trans ((aG:Below wr.heap.size wr (wr.grow X)).mono HB.out.size)⟩
    case measure=>simp[intOf];omega
   |true=>
    have HT:Hid (l.any p=true):=by
     show _=_;rw[HK.out,HD.out,nN,HPx.out,Bool.true_or]
    clear HK HD;go_wp2_with((with_reducible refine zG (HP2.out _ HB.out) λX=>?_))
    go_ret;exact⟨k,rfl,by rw[HT.out];simp,HB.out.trans ((aG:Below wr.heap.size wr (wr.grow X)).mono HB.out.size)⟩
  .have HT:Hid (l.any p=false):=by
    show _=_;rw[HK.out,iG (by rw[HN.out];omega)];rfl
   go_wp2_with fail
   go_ret;exact⟨-1,rfl,by rw[HT.out];rfl,HB.out⟩
theorem XC (v:Value) (l:List aW) (g:Nat) (fs lb:Array Value) (p:aW->Bool) (w:World) (h:Rd w v l.length 2 (l.flatMap aW.cells)) (hp:vE g fs lb aW.agg p l w):
  Calls aE 67 #[v,.func (.func g) fs lb] w (aH (aI (l.any p)) w):=by
 have HI:=aA (Lf v l g fs lb p w h hp);clear h hp;go_enter Tryz.func67,Tryz.ntmps67;go_wp2_with(go_at_call 115;(with_reducible refine HI.out.mono ?_);rintro e w' ⟨i,rfl,hi,hb⟩;have HB:=aA hb;have HI2:=aA hi;clear hb hi)
 go_ret;exact aH.of (by rw[<-HI2.out];simp) HB.out
theorem Le (v:Value) (l:List aS) (g:Nat) (fs lb:Array Value) (p:aS->Bool) (w:World) (h:Rd w v l.length 3 (l.flatMap aS.cells)) (hp:vE g fs lb aS.agg p l w):
  Calls aE 114 #[v,.func (.func g) fs lb] w λe w'=> ∃i:Int,e=aL (aB aC i)/\decide (0<=i)=l.any p/\Below w.heap.size w w':=by
 obtain⟨eg,hp⟩:=hp;have hp:=aA hp;obtain⟨_,hm,A,c,rfl,h4⟩:=h;obtain⟨n,hn⟩: ∃n,l.length=n:=⟨_,rfl⟩;have HN:=aA hn;rw[hn]at hm h4 ⊢;clear hn;have H4:=aA h4;clear h4;go_enter Tryz.func114,Tryz.ntmps114;go_wp2_with fail
 go_loopw [8] (λi wr=> ∃k:Nat,k<=n/\i=aB aC (k:Nat)/\Hid (l.any p=(l.drop k).any p)/\Hid (Below w.heap.size w wr)) (λi _=>n-(intOf i).toNat)
 case atStart=>exact⟨0,by omega,rfl,by show _=_;rw[fJ],by show Below _ _ _;exact aG⟩
 case round=>
  obtain⟨k,hk,rfl,HK,HB⟩:=hrel;by_cases hlt:k<n
  .obtain⟨b,off,rfl,hb,hc⟩:=H4.out om;have hkl:k<l.length:=by rw[HN.out];exact hlt
   obtain⟨x,hx⟩: ∃x,l[k]=x:=⟨_,rfl⟩;have x0:wr.cell? ⟨b,off+k*3,none⟩=some (aD ⟨x.tag.toArray⟩):=(HB.out.cell (p:=⟨b,off+k*3,none⟩) hb).trans (hc (k*3+0) (sv x.tag) (by rw[oZ aS.cells 3 (λ_=>rfl) l k 0 hkl om,hx];rfl));have x1:wr.cell? ⟨b,off+k*3+1,none⟩=some (aD ⟨x.name.toArray⟩):=(HB.out.cell (p:=⟨b,off+k*3+1,none⟩) hb).trans ((congrArg (λi=>w.cell? ⟨b,i,none⟩) om).trans (hc (k*3+1) (sv x.name) (by rw[oZ aS.cells 3 (λ_=>rfl) l k 1 hkl om,hx];rfl)));have x2:wr.cell? ⟨b,off+k*3+2,none⟩=some (aD ⟨x.value.toArray⟩):=(HB.out.cell (p:=⟨b,off+k*3+2,none⟩) hb).trans ((congrArg (λi=>w.cell? ⟨b,i,none⟩) om).trans (hc (k*3+2) (sv x.value) (by rw[oZ aS.cells 3 (λ_=>rfl) l k 2 hkl om,hx];rfl)));have hbr:b<wr.heap.size:=bQ hb HB.out.size;have HD:Hid (l.drop k=x::l.drop (k+1)):=by show _=_;rw[iK hkl,hx]
   have HP:=aA (hp.out x (hx ▸ dN hkl));clear hc hx hkl;obtain⟨px,hpx⟩: ∃px,p x=px:=⟨_,rfl⟩;rw[hpx]at HP;have HPx:=aA hpx;clear hpx;have HP2:=aA (λW hb=>show Calls aE g (fs.push (aR #[aD ⟨x.tag.toArray⟩,aD ⟨x.name.toArray⟩,aD ⟨x.value.toArray⟩])++lb) W _ from HP.out W hb);clear HP;generalize(⟨x.tag.toArray⟩:ByteArray)=a0 at*;generalize(⟨x.name.toArray⟩:ByteArray)=a1 at*;generalize(⟨x.value.toArray⟩:ByteArray)=a2 at*;have hwr:=HB.out.size;cases px with
   |false=>
    have HT:Hid (l.any p=(l.drop (k+1)).any p):=by
     show _=_;rw[HK.out,HD.out,nN,HPx.out,Bool.false_or]
    clear HK HD;go_wp2_with((with_reducible refine zG (HP2.out _ HB.out) λX=>?_))
    go_roundw
    case rel=>exact⟨k+1,by omega,by go_num,HT.out,by show Below _ _ _;exact HB.out.trans ((aG:Below wr.heap.size wr (wr.grow X)).mono HB.out.size)⟩
    case measure=>simp[intOf];omega
   |true=>
    have HT:Hid (l.any p=true):=by
     show _=_;rw[HK.out,HD.out,nN,HPx.out,Bool.true_or]
    clear HK HD;go_wp2_with((with_reducible refine zG (HP2.out _ HB.out) λX=>?_))
    go_ret;exact⟨k,rfl,by rw[HT.out];simp,HB.out.trans ((aG:Below wr.heap.size wr (wr.grow X)).mono HB.out.size)⟩
  .have HT:Hid (l.any p=false):=by
    show _=_;rw[HK.out,iG (by rw[HN.out];omega)];rfl
   go_wp2_with fail
   go_ret;exact⟨-1,rfl,by rw[HT.out];rfl,HB.out⟩
theorem MU (v:Value) (l:List aS) (g:Nat) (fs lb:Array Value) (p:aS->Bool) (w:World) (h:Rd w v l.length 3 (l.flatMap aS.cells)) (hp:vE g fs lb aS.agg p l w):
  Calls aE 65 #[v,.func (.func g) fs lb] w (aH (aI (l.any p)) w):=by
 have HI:=aA (Le v l g fs lb p w h hp);clear h hp;go_enter Tryz.func65,Tryz.ntmps65;go_wp2_with(go_at_call 114;(with_reducible refine HI.out.mono ?_);rintro e w' ⟨i,rfl,hi,hb⟩;have HB:=aA hb;have HI2:=aA hi;clear hb hi)
 go_ret;exact aH.of (by rw[<-HI2.out];simp) HB.out
open Go.RowKit
attribute [local go_sem] Oper.semAt_some
theorem eU (x:ByteArray) (c:Bs):(x.toList==c)=decide (x.data.toList=c):=by rw[ByteArray.toList_eq,Bool.eq_iff_iff];simp
theorem Oc:YL=[[115,99,114,105,112,116],[115,116,121,108,101],[120,109,112],[105,102,114,97,109,101],[110,111,101,109,98,101,100],[110,111,102,114,97,109,101,115],[110,111,115,99,114,105,112,116],[112,108,97,105,110,116,101,120,116],[115,118,103],[109,97,116,104],[116,101,109,112,108,97,116,101],[116,101,120,116,97,114,101,97],[116,105,116,108,101],[102,114,97,109,101,115,101,116],[102,114,97,109,101],[111,98,106,101,99,116],[101,109,98,101,100],[98,97,115,101]]:=by kernel_rfl
theorem Oa (t:Bs) (w:World):Calls aE 118 #[sv t] w (aH (aI (CO t)) w):=by
 unfold CO;rw[Oc];unfold sv;by_cases hm:t∈[[115,99,114,105,112,116],[115,116,121,108,101],[120,109,112],[105,102,114,97,109,101],[110,111,101,109,98,101,100],[110,111,102,114,97,109,101,115],[110,111,115,99,114,105,112,116],[112,108,97,105,110,116,101,120,116],[115,118,103],[109,97,116,104],[116,101,109,112,108,97,116,101],[116,101,120,116,97,114,101,97],[116,105,116,108,101],[102,114,97,109,101,115,101,116],[102,114,97,109,101],[111,98,106,101,99,116],[101,109,98,101,100],[98,97,115,101]]
 .rw[decide_eq_true hm];simp only[bJ,eO,or_false]at hm;rcases hm with rfl|rfl|rfl|rfl|rfl|rfl|rfl|rfl|rfl|rfl|rfl|rfl|rfl|rfl|rfl|rfl|rfl|rfl
  all_goals
   go_enter Tryz.func118,Tryz.ntmps118;go_wp2_with fail
   go_ret;exact aH.of rfl aG
 .rw[decide_eq_false hm];simp only[bJ,eO,or_false,not_or]at hm;obtain⟨n0,n1,n2,n3,n4,n5,n6,n7,n8,n9,n10,n11,n12,n13,n14,n15,n16,n17⟩:=hm;have m0:((⟨t.toArray⟩:ByteArray).toList==[115,99,114,105,112,116])=false:=by rw[eU];exact decide_eq_false n0
  have m1:((⟨t.toArray⟩:ByteArray).toList==[115,116,121,108,101])=false:=by rw[eU];exact decide_eq_false n1
  have m2:((⟨t.toArray⟩:ByteArray).toList==[120,109,112])=false:=by rw[eU];exact decide_eq_false n2
  have m3:((⟨t.toArray⟩:ByteArray).toList==[105,102,114,97,109,101])=false:=by rw[eU];exact decide_eq_false n3
  have m4:((⟨t.toArray⟩:ByteArray).toList==[110,111,101,109,98,101,100])=false:=by rw[eU];exact decide_eq_false n4
  have m5:((⟨t.toArray⟩:ByteArray).toList==[110,111,102,114,97,109,101,115])=false:=by rw[eU];exact decide_eq_false n5
  have m6:((⟨t.toArray⟩:ByteArray).toList==[110,111,115,99,114,105,112,116])=false:=by rw[eU];exact decide_eq_false n6
  have m7:((⟨t.toArray⟩:ByteArray).toList==[112,108,97,105,110,116,101,120,116])=false:=by rw[eU];exact decide_eq_false n7
  have m8:((⟨t.toArray⟩:ByteArray).toList==[115,118,103])=false:=by rw[eU];exact decide_eq_false n8
  have m9:((⟨t.toArray⟩:ByteArray).toList==[109,97,116,104])=false:=by rw[eU];exact decide_eq_false n9
  have m10:((⟨t.toArray⟩:ByteArray).toList==[116,101,109,112,108,97,116,101])=false:=by rw[eU];exact decide_eq_false n10
  have m11:((⟨t.toArray⟩:ByteArray).toList==[116,101,120,116,97,114,101,97])=false:=by rw[eU];exact decide_eq_false n11
  have m12:((⟨t.toArray⟩:ByteArray).toList==[116,105,116,108,101])=false:=by rw[eU];exact decide_eq_false n12
  have m13:((⟨t.toArray⟩:ByteArray).toList==[102,114,97,109,101,115,101,116])=false:=by rw[eU];exact decide_eq_false n13
  have m14:((⟨t.toArray⟩:ByteArray).toList==[102,114,97,109,101])=false:=by rw[eU];exact decide_eq_false n14
  have m15:((⟨t.toArray⟩:ByteArray).toList==[111,98,106,101,99,116])=false:=by rw[eU];exact decide_eq_false n15
  have m16:((⟨t.toArray⟩:ByteArray).toList==[101,109,98,101,100])=false:=by rw[eU];exact decide_eq_false n16
  have m17:((⟨t.toArray⟩:ByteArray).toList==[98,97,115,101])=false:=by rw[eU];exact decide_eq_false n17
  clear n0 n1 n2 n3 n4 n5 n6 n7 n8 n9 n10 n11 n12 n13 n14 n15 n16 n17;generalize(⟨t.toArray⟩:ByteArray)=x at*;go_enter Tryz.func118,Tryz.ntmps118;go_wp2_with fail
  go_ret;exact aH.of rfl aG
theorem Af:SM=[[106,97,118,97,115,99,114,105,112,116],[118,98,115,99,114,105,112,116],[100,97,116,97]]:=by kernel_rfl
theorem Ae (t:Bs) (w:World):Calls aE 119 #[sv t] w (aH (aI (BE t)) w):=by
 unfold BE;rw[Af];unfold sv;by_cases hm:t∈[[106,97,118,97,115,99,114,105,112,116],[118,98,115,99,114,105,112,116],[100,97,116,97]]
 .rw[decide_eq_true hm];simp only[bJ,eO,or_false]at hm;rcases hm with rfl|rfl|rfl
  all_goals
   go_enter Tryz.func119,Tryz.ntmps119;go_wp2_with fail
   go_ret;exact aH.of rfl aG
 .rw[decide_eq_false hm];simp only[bJ,eO,or_false,not_or]at hm;obtain⟨n0,n1,n2⟩:=hm;have m0:((⟨t.toArray⟩:ByteArray).toList==[106,97,118,97,115,99,114,105,112,116])=false:=by rw[eU];exact decide_eq_false n0
  have m1:((⟨t.toArray⟩:ByteArray).toList==[118,98,115,99,114,105,112,116])=false:=by rw[eU];exact decide_eq_false n1
  have m2:((⟨t.toArray⟩:ByteArray).toList==[100,97,116,97])=false:=by rw[eU];exact decide_eq_false n2
  clear n0 n1 n2;generalize(⟨t.toArray⟩:ByteArray)=x at*;go_enter Tryz.func119,Tryz.ntmps119;go_wp2_with fail
  go_ret;exact aH.of rfl aG
theorem Ep (t:Bs):Lib.hasPrefix t [111,110]=BL t:=by
 unfold Lib.hasPrefix BL;match t with
 |[]=>rfl
 |[a]=>simp[List.isPrefixOf]
 |a::b::r=>
  simp only[List.isPrefixOf,Bool.and_true];rw[Bool.eq_iff_iff];simp only[bD,beq_iff_eq,decide_eq_true_eq];constructor
  .rintro⟨rfl,rfl⟩;exact⟨rfl,rfl⟩
  .rintro⟨rfl,rfl⟩;exact⟨rfl,rfl⟩
theorem DJ (t:Bs) (w:World):Calls aE 16 #[sv t] w (aH (aI (kC t)) w):=by
 have HP:=aA (λW=>show Calls aE 24 #[aD ⟨t.toArray⟩,aD ⟨#[111,110]⟩] W (λe w'=>e=aL (aI (BL t))/\w'=W)from(Tryz.strings_HasPrefix ⟨t.toArray⟩ ⟨#[111,110]⟩ W).mono λe w' h=>⟨h.1.trans (by show _=_;rw[show(⟨t.toArray⟩:ByteArray).data.toList=t from rfl];exact congrArg (λb=>aL (aI b)) (Ep t)),h.2⟩);unfold kC;unfold sv;cases hd:decide (t=RQ)with
 |true=>
  have m0:((⟨t.toArray⟩:ByteArray).toList==[115,114,99,100,111,99])=true:=by rw[eU];exact hd
  generalize(⟨t.toArray⟩:ByteArray)=x at*;go_enter Tryz.func16,Tryz.ntmps16;go_wp2_with fail
  go_ret;exact aH.of rfl aG
 |false=>
  have m0:((⟨t.toArray⟩:ByteArray).toList==[115,114,99,100,111,99])=false:=by rw[eU];exact hd
  generalize(⟨t.toArray⟩:ByteArray)=x at*;generalize BL t=o at*;go_enter Tryz.func16,Tryz.ntmps16;go_wp2_with(go_at_call 24;(with_reducible refine zQ (HP.out _) ?_))
  go_ret;exact aH.of rfl aG
open Go.RowKit
attribute [local go_sem] Oper.semAt_some
def AE (f:aS):List Value:=[sv f.name,sv f.value]
structure gB (W:World) (g:Nat) (p:aO):Prop where
 lt:g<W.heap.size
 c0: ∃b,W.cell? ⟨g,0,none⟩=some (.map (some b))/\eJ aE 9 W b (p.tags.map sv)
 c1: ∃b,W.cell? ⟨g,1,none⟩=some (.map (some b))/\eJ aE 9 W b (p.schemes.map sv)
 c2: ∃b,W.cell? ⟨g,2,none⟩=some (.map (some b))/\eJ aE 9 W b (p.css.map sv)
 c3: ∃b,W.cell? ⟨g,3,none⟩=some (.map (some b))/\eJ aE 9 W b (p.drops.map sv)
 c4: ∃b,W.cell? ⟨g,4,none⟩=some (.map (some b))/\eJ aE 65 W b (p.attrs.map aW.agg)
 c5: ∃b base,W.cell? ⟨g,5,none⟩=some (.map (some b))/\jF aE 9 34 2 aS.tag AE W b base p.forces
 c6:W.cell? ⟨g,6,none⟩=some (aI p.rel)
 c7:W.cell? ⟨g,7,none⟩=some (aB aC p.depth)
 c8:W.cell? ⟨g,8,none⟩=some (aB aC p.name)
 c9:W.cell? ⟨g,9,none⟩=some (aB aC p.value)
theorem gB.below {W W':World} {g:Nat} {p:aO} (h:gB W g p) (hb:Below W.heap.size W W'):gB W' g p:=by
 have hc: ∀j v,W.cell? ⟨g,j,none⟩=some v->W'.cell? ⟨g,j,none⟩=some v:=λj v hv=>(hb.cell (p:=⟨g,j,none⟩) h.lt).trans hv;obtain⟨hl,⟨b0,x0,y0⟩,⟨b1,x1,y1⟩,⟨b2,x2,y2⟩,⟨b3,x3,y3⟩,⟨b4,x4,y4⟩,⟨b5,b6,x5,y5⟩,x6,x7,x8,x9⟩:=h;exact⟨bQ hl hb.size,⟨b0,hc _ _ x0,y0.below hb⟩,⟨b1,hc _ _ x1,y1.below hb⟩,⟨b2,hc _ _ x2,y2.below hb⟩,⟨b3,hc _ _ x3,y3.below hb⟩,⟨b4,hc _ _ x4,y4.below hb⟩,⟨b5,b6,hc _ _ x5,y5.below hb⟩,hc _ _ x6,hc _ _ x7,hc _ _ x8,hc _ _ x9⟩
theorem yT (g:Nat) (p:aO) (t:Bs) (w:World) (h:gB w g p) (ht:t.length<=maxLen):Calls aE 12 #[aM (some ⟨g,0,none⟩),sv t] w (aH (aI (eW p t)) w):=by
 have hl:=h.lt;obtain⟨b,hc,hk⟩:=h.c0;have HS:=aA (λW (hb:Below w.heap.size w W)=>FT b p.tags t W (hk.below hb) ht);unfold eW;generalize decide (t∈p.tags)=D at*;clear h hk ht;generalize sv t=v at*;go_enter Tryz.func12,Tryz.ntmps12;go_wp2_with(go_at_call 22;(with_reducible refine zG (HS.out _ aG) λX1=>?_))
 go_ret;exact aH.of rfl aG
theorem q5 (g:Nat) (p:aO) (t:Bs) (w:World) (h:gB w g p) (ht:t.length<=maxLen):Calls aE 73 #[aM (some ⟨g,0,none⟩),sv t] w (aH (aI (xE p t)) w):=by
 have hl:=h.lt;obtain⟨b,hc,hk⟩:=h.c1;have HS:=aA (λW (hb:Below w.heap.size w W)=>FT b p.schemes t W (hk.below hb) ht);unfold xE;generalize decide (t∈p.schemes)=D at*;clear h hk ht;generalize sv t=v at*;go_enter Tryz.func73,Tryz.ntmps73;go_wp2_with(go_at_call 22;(with_reducible refine zG (HS.out _ aG) λX1=>?_))
 go_ret;exact aH.of rfl aG
theorem Ou (g:Nat) (p:aO) (t:Bs) (w:World) (h:gB w g p) (ht:t.length<=maxLen):Calls aE 139 #[aM (some ⟨g,0,none⟩),sv t] w (aH (aI (xU p t)) w):=by
 have hl:=h.lt;obtain⟨b,hc,hk⟩:=h.c2;have HS:=aA (λW (hb:Below w.heap.size w W)=>FT b p.css t W (hk.below hb) ht);unfold xU;generalize decide (t∈p.css)=D at*;clear h hk ht;generalize sv t=v at*;go_enter Tryz.func139,Tryz.ntmps139;go_wp2_with(go_at_call 22;(with_reducible refine zG (HS.out _ aG) λX1=>?_))
 go_ret;exact aH.of rfl aG
theorem Nr (g:Nat) (p:aO) (t:Bs) (w:World) (h:gB w g p) (ht:t.length<=maxLen):Calls aE 64 #[aM (some ⟨g,0,none⟩),sv t] w (aH (aI (xS p t)) w):=by
 have hl:=h.lt;obtain⟨b,hc,hk⟩:=h.c3;have HS:=aA (λW (hb:Below w.heap.size w W)=>FT b p.drops t W (hk.below hb) ht);unfold xS;generalize decide (t∈p.drops)=D at*;clear h hk ht;generalize sv t=v at*;go_enter Tryz.func64,Tryz.ntmps64;go_wp2_with(go_at_call 22;(with_reducible refine zG (HS.out _ aG) λX1=>?_))
 go_ret;exact aH.of rfl aG
theorem ZM (g:Nat) (p:aO) (t n:Bs) (w:World) (h:gB w g p) (ht:t.length<=maxLen) (hn:n.length<=maxLen):Calls aE 15 #[aM (some ⟨g,0,none⟩),sv t,sv n] w (aH (aI (tO p t n)) w):=by
 have hl:=h.lt;obtain⟨b,hc,hk⟩:=h.c4;have HT:=aA (λW (hb:Below w.heap.size w W)=>show Calls aE 12 #[aM (some ⟨g,0,none⟩),aD ⟨t.toArray⟩] W _ from yT g p t W (h.below hb) ht);have HA:=aA (λW (hb:Below w.heap.size w W)=>show Calls aE 23 #[.map (some b),aR #[aD ⟨t.toArray⟩,aD ⟨n.toArray⟩]] W _ from XD b p.attrs ⟨t,n⟩ W (hk.below hb) ht hn);have HE:=aA (λW (hb:Below w.heap.size w W)=>show Calls aE 23 #[.map (some b),aR #[aD ⟨#[42]⟩,aD ⟨n.toArray⟩]] W _ from XD b p.attrs ⟨[42],n⟩ W (hk.below hb) (by simp[maxLen]) hn);unfold tO;obtain⟨T,hT⟩: ∃T,eW p t=T:=⟨_,rfl⟩;obtain⟨A,hA⟩: ∃A,decide ((⟨t,n⟩:aW)∈p.attrs)=A:=⟨_,rfl⟩;obtain⟨E,hE⟩: ∃E,decide ((⟨[42],n⟩:aW)∈p.attrs)=E:=⟨_,rfl⟩;rw[hT]at HT;rw[hA]at HA;rw[hE]at HE;rw[hT,hA,hE];clear hT hA hE h hk ht hn;unfold sv;generalize(⟨t.toArray⟩:ByteArray)=tv at*;generalize(⟨n.toArray⟩:ByteArray)=nv at*;cases T<;>cases A;all_goals
  go_enter Tryz.func15,Tryz.ntmps15;go_wp2_with(first
   |(go_at_call 12;(with_reducible refine zG (HT.out _ aG) λX1=>?_))
   |(go_at_call 23;(with_reducible refine zG (HA.out _ aG) λX2=>?_))
   |(go_at_call 23;(with_reducible refine zG (HE.out _ aG) λX3=>?_)))
  go_ret;exact aH.of rfl aG
theorem Bn (g:Nat) (p:aO) (w:World) (h:gB w g p):Calls aE 74 #[aM (some ⟨g,0,none⟩)] w (aH (aI p.rel) w):=by
 have hl:=h.lt;have h6:=h.c6;clear h;go_enter Tryz.func74,Tryz.ntmps74;go_wp2_with fail
 go_ret;exact aH.of rfl aG
theorem VP (g:Nat) (p:aO) (w:World) (h:gB w g p):Calls aE 14 #[aM (some ⟨g,0,none⟩)] w (aH (aN #[aB aC p.depth,aB aC p.name,aB aC p.value]) w):=by
 have hmx:=bX;have hl:=h.lt;have h7:=h.c7;have h8:=h.c8;have h9:=h.c9;clear h;go_enter Tryz.func14,Tryz.ntmps14;go_wp2_with fail
 go_region;go_wp2_with fail
 go_ret3
 exact aH.of rfl aG
open Go.RowKit
attribute [local go_sem] Oper.semAt_some
theorem Rd.bel {w W:World} {v:Value} {n size:Nat} {xs:List Value} (h:Rd w v n size xs) (hb:Below w.heap.size w W):Rd W v n size xs:=by
 obtain⟨X,rfl⟩:=cV hb;exact h.grow X
theorem On (x:aW) (w:World):Calls aE 116 #[x.agg] w (aH (aI (kC x.name)) w):=by
 have HU:=aA (λW=>show Calls aE 16 #[aD ⟨x.name.toArray⟩] W _ from DJ x.name W);unfold aW.agg sv;generalize kC x.name=u at*;generalize(⟨x.tag.toArray⟩:ByteArray)=a0 at*;generalize(⟨x.name.toArray⟩:ByteArray)=a1 at*;go_enter Tryz.func116,Tryz.ntmps116;go_wp2_with(go_at_call 16;(with_reducible refine zG (HU.out _) λX1=>?_))
 go_ret;exact aH.of rfl aG
theorem Om (x:aS) (w:World):Calls aE 117 #[x.agg] w (aH (aI (kC x.name)) w):=by
 have HU:=aA (λW=>show Calls aE 16 #[aD ⟨x.name.toArray⟩] W _ from DJ x.name W);unfold aS.agg sv;generalize kC x.name=u at*;generalize(⟨x.tag.toArray⟩:ByteArray)=a0 at*;generalize(⟨x.name.toArray⟩:ByteArray)=a1 at*;generalize(⟨x.value.toArray⟩:ByteArray)=a2 at*;go_enter Tryz.func117,Tryz.ntmps117;go_wp2_with(go_at_call 16;(with_reducible refine zG (HU.out _) λX1=>?_))
 go_ret;exact aH.of rfl aG
theorem Ob (v:Value) (p:aO) (w:World) (h:jN w (λ_=>False) v p):Calls aE 70 #[v] w (aH (aI (yA p)) w):=by
 obtain⟨v0,v1,v2,v3,v4,v5,rfl,⟨A0,k0,rfl,_,h0,_⟩,⟨A1,k1,rfl,_,h1,_⟩,⟨A2,k2,rfl,_,_,_⟩,⟨A3,k3,rfl,_,_,_⟩,⟨A4,k4,rfl,_,h4,_⟩,⟨A5,k5,rfl,_,h5,_⟩⟩:=h;have HT:=aA (λW (hb:Below w.heap.size w W)=>show Calls aE 56 #[aF A0 (fN p 0) k0,.func (.func 118) #[] #[]] W _ from FS _ p.tags _ _ _ CO W (h0.bel hb) ⟨enters_of Tryz.func118 kr rfl,λt _ W' _=>Oa t W'⟩);have HS:=aA (λW (hb:Below w.heap.size w W)=>show Calls aE 56 #[aF A1 (fN p 1) k1,.func (.func 119) #[] #[]] W _ from FS _ p.schemes _ _ _ BE W (h1.bel hb) ⟨enters_of Tryz.func119 kr rfl,λt _ W' _=>Ae t W'⟩);have HA:=aA (λW (hb:Below w.heap.size w W)=>show Calls aE 67 #[aF A4 (fN p 4) k4,.func (.func 116) #[] #[]] W _ from XC _ p.attrs _ _ _ (λa=>kC a.name) W (h4.bel hb) ⟨enters_of Tryz.func116 kr rfl,λt _ W' _=>On t W'⟩);have HF:=aA (λW (hb:Below w.heap.size w W)=>show Calls aE 65 #[aF A5 (fN p 5) k5,.func (.func 117) #[] #[]] W _ from MU _ p.forces _ _ _ (λa=>kC a.name) W (h5.bel hb) ⟨enters_of Tryz.func117 kr rfl,λt _ W' _=>Om t W'⟩);unfold yA;generalize p.tags.any CO=T at*;generalize p.attrs.any (λa=>kC a.name)=A at*;generalize p.forces.any (λa=>kC a.name)=F at*;generalize p.schemes.any BE=S at*;clear h0 h1 h4 h5;cases T<;>cases A<;>cases F;all_goals
  go_enter Tryz.func70,Tryz.ntmps70;go_upto_region 3 with fail
  refine dL λW0 hW0=> ?_;obtain⟨B,hB⟩: ∃B,w.heap.size=B:=⟨_,rfl⟩;have hb0:Below w.heap.size w W0:=by rw[hW0];exact aG
  have c0:W0.cell? ⟨B,0,none⟩=some (aF A0 (fN p 0) k0):=by rw[hW0,<-hB];simp[go_sem]
  have c1:W0.cell? ⟨B,1,none⟩=some (aF A1 (fN p 1) k1):=by rw[hW0,<-hB];simp[go_sem]
  have c4:W0.cell? ⟨B,4,none⟩=some (aF A4 (fN p 4) k4):=by rw[hW0,<-hB];simp[go_sem]
  have c5:W0.cell? ⟨B,5,none⟩=some (aF A5 (fN p 5) k5):=by rw[hW0,<-hB];simp[go_sem]
  have hBl:B<W0.heap.size:=by rw[hW0,<-hB];simp
  have HB0:=aA (λW (hb:Below W0.heap.size W0 W)=>show Below w.heap.size w W from hb0.trans (hb.mono hb0.size));rw[hB];clear hW0 hb0;go_wp2_with(first
   |(go_at_call 56;(with_reducible refine zG (HT.out _ (HB0.out _ aG)) λX1=>?_))
   |(go_at_call 67;(with_reducible refine zG (HA.out _ (HB0.out _ aG)) λX2=>?_))
   |(go_at_call 65;(with_reducible refine zG (HF.out _ (HB0.out _ aG)) λX3=>?_))
   |(go_at_call 56;(with_reducible refine zG (HS.out _ (HB0.out _ aG)) λX4=>?_)))
  go_ret;exact aH.of rfl (HB0.out _ aG)
open Go.RowKit
attribute [local go_sem] Oper.semAt_some
structure ZX (p:aO):Prop where
 tags: ∀t∈p.tags,t.length<=64
 schemes: ∀t∈p.schemes,t.length<=64
 css: ∀t∈p.css,t.length<=64
 drops: ∀t∈p.drops,t.length<=64
 attrs: ∀a∈p.attrs,a.tag.length<=64/\a.name.length<=64
 forces: ∀f∈p.forces,f.tag.length<=64/\f.name.length<=64
theorem RE (B g:Nat) (p:aO) (t:Bs) (w:World) (h:gB w g p) (hc:w.cell? ⟨B,0,none⟩=some (aM (some ⟨g,0,none⟩))) (_hB:B<w.heap.size) (ht:t.length<=maxLen):
  Calls aE 62 #[sv t,aM (some ⟨B,0,none⟩)] w (aH (aI (!eW p t)) w):=by
 have HT:=aA (λW (hb:Below w.heap.size w W)=>show Calls aE 12 #[aM (some ⟨g,0,none⟩),aD ⟨t.toArray⟩] W _ from yT g p t W (h.below hb) ht);generalize eW p t=D at*;clear h ht;unfold sv;generalize(⟨t.toArray⟩:ByteArray)=x at*;go_enter Tryz.func62,Tryz.ntmps62;go_wp2_with(go_at_call 12;(with_reducible refine zG (HT.out _ aG) λX1=>?_))
 go_ret;exact aH.of rfl aG
theorem VL (P:Nat) (p:aO) (t:Bs) (w:World) (hc:w.cell? ⟨P,8,none⟩=some (aB aC p.name)) (_hP:P<w.heap.size):Calls aE 63 #[sv t,aM (some ⟨P,0,none⟩)] w (aH (aI (tI p t)) w):=by
 unfold tI;have hl:t.length=(⟨t.toArray⟩:ByteArray).size:=by show _=t.toArray.size;simp
 rw[hl];unfold sv;generalize(⟨t.toArray⟩:ByteArray)=x at*;generalize p.name=n at*;clear hl;go_enter Tryz.func63,Tryz.ntmps63;go_wp2_with fail
 go_ret;exact aH.of rfl aG
theorem H6 (S B g:Nat) (p:aO) (f:aS) (w:World) (h:gB w g p) (hc:w.cell? ⟨B,0,none⟩=some (aM (some ⟨g,0,none⟩))) (hB:B<w.heap.size)
  (hs:w.cell? ⟨S,0,none⟩=some (.func (.func 62) #[] #[aM (some ⟨B,0,none⟩)])) (hS:S<w.heap.size) (ht:f.tag.length<=maxLen):
  Calls aE 66 #[f.agg,aM (some ⟨S,0,none⟩)] w (aH (aI (!eW p f.tag)) w):=by
 have HT:=aA (λW (hb:Below w.heap.size w W)=>show Calls aE 62 #[aD ⟨f.tag.toArray⟩,aM (some ⟨B,0,none⟩)] W _ from RE B g p f.tag W (h.below hb) ((hb.cell (p:=⟨B,0,none⟩) hB).trans hc) (bQ hB hb.size) ht);generalize(!eW p f.tag)=D at*;clear h ht hc;unfold aS.agg sv;generalize(⟨f.tag.toArray⟩:ByteArray)=a0 at*;generalize(⟨f.name.toArray⟩:ByteArray)=a1 at*;generalize(⟨f.value.toArray⟩:ByteArray)=a2 at*;go_enter Tryz.func66,Tryz.ntmps66;go_wp2_with(go_at_call 62;(with_reducible refine zG (HT.out _ aG) λX1=>?_))
 go_ret;exact aH.of rfl aG
theorem H7 (S B g:Nat) (p:aO) (a:aW) (w:World) (h:gB w g p) (hc:w.cell? ⟨B,0,none⟩=some (aM (some ⟨g,0,none⟩))) (hB:B<w.heap.size)
  (hs:w.cell? ⟨S,0,none⟩=some (.func (.func 62) #[] #[aM (some ⟨B,0,none⟩)])) (hS:S<w.heap.size) (ht:a.tag.length<=maxLen):
  Calls aE 68 #[a.agg,aM (some ⟨S,0,none⟩)] w (aH (aI (!decide (a.tag=[42])&& !eW p a.tag)) w):=by
 have HT:=aA (λW (hb:Below w.heap.size w W)=>show Calls aE 62 #[aD ⟨a.tag.toArray⟩,aM (some ⟨B,0,none⟩)] W _ from RE B g p a.tag W (h.below hb) ((hb.cell (p:=⟨B,0,none⟩) hB).trans hc) (bQ hB hb.size) ht);generalize(!eW p a.tag)=D at*;have hq:((⟨a.tag.toArray⟩:ByteArray).toList==[42])=decide (a.tag=[42]):=eU _ _;generalize decide (a.tag=[42])=E at*;clear h ht hc;unfold aW.agg sv;generalize(⟨a.tag.toArray⟩:ByteArray)=a0 at*;generalize(⟨a.name.toArray⟩:ByteArray)=a1 at*;cases E;all_goals
  go_enter Tryz.func68,Tryz.ntmps68;go_wp2_with(go_at_call 62;(with_reducible refine zG (HT.out _ aG) λX1=>?_))
  go_ret;exact aH.of rfl aG
theorem G9 (L P:Nat) (p:aO) (f:aS) (w:World) (hc:w.cell? ⟨P,8,none⟩=some (aB aC p.name)) (hd:w.cell? ⟨P,9,none⟩=some (aB aC p.value)) (hP:P<w.heap.size)
  (hs:w.cell? ⟨L,0,none⟩=some (.func (.func 63) #[] #[aM (some ⟨P,0,none⟩)])) (hL:L<w.heap.size):
  Calls aE 69 #[f.agg,aM (some ⟨L,0,none⟩),aM (some ⟨P,0,none⟩)] w (aH (aI (tF p f)) w):=by
 have HT:=aA (λW (hb:Below w.heap.size w W)=>show Calls aE 63 #[aD ⟨f.name.toArray⟩,aM (some ⟨P,0,none⟩)] W _ from VL P p f.name W ((hb.cell (p:=⟨P,8,none⟩) hP).trans hc) (bQ hP hb.size));have hv:f.value.length=(⟨f.value.toArray⟩:ByteArray).size:=by show _=f.value.toArray.size;simp
 have HO:Hid (tF p f=(tI p f.name||decide (p.value<((⟨f.value.toArray⟩:ByteArray).size:Int)))):=by show _=_;unfold tF tI;rw[hv]
 rw[HO.out];clear HO hv;generalize tI p f.name=D at*;generalize p.value=n at*;clear hc;unfold aS.agg sv;generalize(⟨f.tag.toArray⟩:ByteArray)=a0 at*;generalize(⟨f.name.toArray⟩:ByteArray)=a1 at*;generalize(⟨f.value.toArray⟩:ByteArray)=a2 at*;cases D;all_goals
  go_enter Tryz.func69,Tryz.ntmps69;go_wp2_with(go_at_call 63;(with_reducible refine zG (HT.out _ aG) λX1=>?_))
  go_ret;exact aH.of rfl aG
open Go.RowKit
attribute [local go_sem] Oper.semAt_some
theorem D7 (g:Nat) (v:Value) (p:aO) (w:World) (hr:gB w g p) (h:jN w (λ_=>False) v p) (hw:ZX p):Calls aE 34 #[aM (some ⟨g,0,none⟩),v] w (aH (aB aC (mO p:Nat)) w):=by
 have HV:=aA h;obtain⟨v0,v1,v2,v3,v4,v5,rfl,⟨A0,k0,rfl,_,h0,_⟩,⟨A1,k1,rfl,_,_,_⟩,⟨A2,k2,rfl,_,_,_⟩,⟨A3,k3,rfl,_,_,_⟩,⟨A4,k4,rfl,_,h4,_⟩,⟨A5,k5,rfl,_,h5,_⟩⟩:=h;have HD:=aA (λW (hb:Below w.heap.size w W)=>Ob _ p W (HV.out.below hb));have HW:Hid (mO p=if yA p=true then 6 else if p.tags.any (xS p)=true then 5 else if(p.forces.any (λf=> !eW p f.tag)||p.attrs.any (λa=> !decide (a.tag=[42])&& !eW p a.tag))=true then 4 else if(p.forces.any (tF p)||p.tags.any (tI p))=true then 1 else 0):=rfl;obtain⟨R,hR⟩: ∃R,mO p=R:=⟨_,rfl⟩;rw[hR]at HW ⊢;have HRl:=aA hr;have HWd:=aA hw;have H0:=aA h0;have H4:=aA h4;have H5:=aA h5;have hgl:=hr.lt;clear hR HV hr hw h0 h4 h5;go_enter Tryz.func34,Tryz.ntmps34;go_upto_region 3 with fail
 refine dL λW0 hW0=> ?_;obtain⟨B,hB⟩: ∃B,w.heap.size=B:=⟨_,rfl⟩;have hb0:Below w.heap.size w W0:=by rw[hW0];exact aG
 have cB:W0.cell? ⟨B,0,none⟩=some (aM (some ⟨g,0,none⟩)):=by rw[hW0,<-hB];simp[go_sem]
 have c0:W0.cell? ⟨B+1,0,none⟩=some (aF A0 (fN p 0) k0):=by rw[hW0,<-hB];simp[go_sem]
 have c1:W0.cell? ⟨B+1,1,none⟩=some (aF A1 (fN p 1) k1):=by rw[hW0,<-hB];simp[go_sem]
 have c2:W0.cell? ⟨B+1,2,none⟩=some (aF A2 (fN p 2) k2):=by rw[hW0,<-hB];simp[go_sem]
 have c3:W0.cell? ⟨B+1,3,none⟩=some (aF A3 (fN p 3) k3):=by rw[hW0,<-hB];simp[go_sem]
 have c4:W0.cell? ⟨B+1,4,none⟩=some (aF A4 (fN p 4) k4):=by rw[hW0,<-hB];simp[go_sem]
 have c5:W0.cell? ⟨B+1,5,none⟩=some (aF A5 (fN p 5) k5):=by rw[hW0,<-hB];simp[go_sem]
 have c6:W0.cell? ⟨B+1,6,none⟩=some (aI p.rel):=by rw[hW0,<-hB];simp[go_sem]
 have c7:W0.cell? ⟨B+1,7,none⟩=some (aB aC p.depth):=by rw[hW0,<-hB];simp[go_sem]
 have c8:W0.cell? ⟨B+1,8,none⟩=some (aB aC p.name):=by rw[hW0,<-hB];simp[go_sem]
 have c9:W0.cell? ⟨B+1,9,none⟩=some (aB aC p.value):=by rw[hW0,<-hB];simp[go_sem]
 have cS:W0.cell? ⟨B+2,0,none⟩=some (.func (.func 62) #[] #[aM (some ⟨B,0,none⟩)]):=by rw[hW0,<-hB];simp[go_sem]
 have cL:W0.cell? ⟨B+3,0,none⟩=some (.func (.func 63) #[] #[aM (some ⟨B+1,0,none⟩)]):=by rw[hW0,<-hB];simp[go_sem]
 have hBl:B+3<W0.heap.size:=by rw[hW0,<-hB];simp
 have hBl0:B<W0.heap.size:=by omega
 have hBl1:B+1<W0.heap.size:=by omega
 have hBl2:B+2<W0.heap.size:=by omega
 have HB0:=aA (λW (hb:Below W0.heap.size W0 W)=>show Below w.heap.size w W from hb0.trans (hb.mono hb0.size));have HRw:=aA (HRl.out.below hb0);have HC:=aA (λW (hb:Below W0.heap.size W0 W) b j x (hl:b<W0.heap.size) (hc:W0.cell? ⟨b,j,none⟩=some x)=>(show W.cell? ⟨b,j,none⟩=some x from(hb.cell (p:=⟨b,j,none⟩) hl).trans hc));have hmx:(64:Nat)<=maxLen:=by simp[maxLen]
 have HBo:=aA (λW (hb:Below W0.heap.size W0 W)=>show Calls aE 56 #[aF A0 (fN p 0) k0,.func (.func 64) #[aM (some ⟨g,0,none⟩)] #[]] W _ from
  FS _ p.tags _ _ _ (xS p) W (H0.out.bel (HB0.out W hb)) ⟨enters_of Tryz.func64 kr rfl,λt ht W' hb'=>Nr g p t W' ((HRw.out.below hb).below hb') (bG (HWd.out.tags t ht) hmx)⟩)
 have HFo:=aA (λW (hb:Below W0.heap.size W0 W)=>show Calls aE 65 #[aF A5 (fN p 5) k5,.func (.func 66) #[] #[aM (some ⟨B+2,0,none⟩)]] W _ from
  MU _ p.forces _ _ _ (λf=> !eW p f.tag) W (H5.out.bel (HB0.out W hb)) ⟨enters_of Tryz.func66 kr rfl,λf hf W' hb'=>H6 (B+2) B g p f W' ((HRw.out.below hb).below hb') (HC.out W' (hb.trans (hb'.mono hb.size)) _ _ _ hBl0 cB) (by have:=hb.size;have:=hb'.size;omega) (HC.out W' (hb.trans (hb'.mono hb.size)) _ _ _ hBl2 cS) (by have:=hb.size;have:=hb'.size;omega) (bG (HWd.out.forces f hf).1 hmx)⟩)
 have HAt:=aA (λW (hb:Below W0.heap.size W0 W)=>show Calls aE 67 #[aF A4 (fN p 4) k4,.func (.func 68) #[] #[aM (some ⟨B+2,0,none⟩)]] W _ from
  XC _ p.attrs _ _ _ (λa=> !decide (a.tag=[42])&& !eW p a.tag) W (H4.out.bel (HB0.out W hb)) ⟨enters_of Tryz.func68 kr rfl,λf hf W' hb'=>H7 (B+2) B g p f W' ((HRw.out.below hb).below hb') (HC.out W' (hb.trans (hb'.mono hb.size)) _ _ _ hBl0 cB) (by have:=hb.size;have:=hb'.size;omega) (HC.out W' (hb.trans (hb'.mono hb.size)) _ _ _ hBl2 cS) (by have:=hb.size;have:=hb'.size;omega) (bG (HWd.out.attrs f hf).1 hmx)⟩)
 have HOv:=aA (λW (hb:Below W0.heap.size W0 W)=>show Calls aE 65 #[aF A5 (fN p 5) k5,.func (.func 69) #[] #[aM (some ⟨B+3,0,none⟩),aM (some ⟨B+1,0,none⟩)]] W _ from
  MU _ p.forces _ _ _ (tF p) W (H5.out.bel (HB0.out W hb)) ⟨enters_of Tryz.func69 kr rfl,λf _ W' hb'=>G9 (B+3) (B+1) p f W' (HC.out W' (hb.trans (hb'.mono hb.size)) _ _ _ hBl1 c8) (HC.out W' (hb.trans (hb'.mono hb.size)) _ _ _ hBl1 c9) (by have:=hb.size;have:=hb'.size;omega) (HC.out W' (hb.trans (hb'.mono hb.size)) _ _ _ hBl cL) (by have:=hb.size;have:=hb'.size;omega)⟩)
 have HLo:=aA (λW (hb:Below W0.heap.size W0 W)=>show Calls aE 56 #[aF A0 (fN p 0) k0,.func (.func 63) #[] #[aM (some ⟨B+1,0,none⟩)]] W _ from
  FS _ p.tags _ _ _ (tI p) W (H0.out.bel (HB0.out W hb)) ⟨enters_of Tryz.func63 kr rfl,λt _ W' hb'=>VL (B+1) p t W' (HC.out W' (hb.trans (hb'.mono hb.size)) _ _ _ hBl1 c8) (by have:=hb.size;have:=hb'.size;omega)⟩)
 have HDn:=aA (λW (hb:Below W0.heap.size W0 W)=>HD.out W (HB0.out W hb));generalize p.tags.any (xS p)=Bo at*;generalize p.forces.any (λf=> !eW p f.tag)=Fo at*;generalize p.attrs.any (λa=> !decide (a.tag=[42])&& !eW p a.tag)=At at*;generalize p.forces.any (tF p)=Ov at*;generalize p.tags.any (tI p)=Lo at*;generalize yA p=Dn at*;rw[hB];clear hW0 hb0 HD HRl HWd H0 H4 H5 HRw HC hmx;go_upto_region 7 with(first
  |(go_at_call 56;(with_reducible refine zG (HBo.out _ aG) λX1=>?_))
  |(go_at_call 65;(with_reducible refine zF (HFo.out _ aG) λX2=>?_))
  |(go_at_call 67;(with_reducible refine zF (HAt.out _ aG) λX3=>?_))
  |(go_at_call 65;(with_reducible refine zF (HOv.out _ aG) λX4=>?_)))
 clear HBo HFo HAt HOv;cases Dn with
 |true=>
  have HR:Hid (R=6):=HW.out;clear HW;go_wp2_with(go_at_call 70;(with_reducible refine zF (HDn.out _ aG) λX5=>?_))
  go_ret;exact aH.of (by rw[HR.out];rfl) (HB0.out _ aG)
 |false=>
  cases Bo with
  |true=>
   have HR:Hid (R=5):=HW.out;clear HW;go_wp2_with(go_at_call 70;(with_reducible refine zF (HDn.out _ aG) λX5=>?_))
   go_ret;exact aH.of (by rw[HR.out];rfl) (HB0.out _ aG)
  |false=>
   cases Fo<;>cases At;rotate_left;all_goals try
    have HR:Hid (R=4):=HW.out
    clear HW
    go_wp2_with(go_at_call 70;(with_reducible refine zF (HDn.out _ aG) λX5=>?_))
    go_ret
    exact aH.of (by rw[HR.out];rfl) (HB0.out _ aG)
   cases Ov<;>cases Lo;all_goals
    have HR:=aA HW.out;simp only[Bool.false_eq_true,if_false,Bool.or_false,Bool.or_true,if_true]at HR;clear HW;go_wp2_with(first
     |(go_at_call 70;(with_reducible refine zF (HDn.out _ aG) λX5=>?_))
     |(go_at_call 56;(with_reducible refine zF (HLo.out _ aG) λX6=>?_)))
    go_ret;exact aH.of (by rw[HR.out];rfl) (HB0.out _ aG)
open Go.RowKit
attribute [local go_sem] Oper.semAt_some
structure lB (W:World) (g b base:Nat) (p:aO) (l:List aS):Prop where
 g_lt:g<base
 base_le:base<=W.heap.size
 gb:g≠b
 c0: ∃k,W.cell? ⟨g,0,none⟩=some (.map (some k))/\eJ aE 9 W k (p.tags.map sv)/\k<base/\k≠b
 c1: ∃k,W.cell? ⟨g,1,none⟩=some (.map (some k))/\eJ aE 9 W k (p.schemes.map sv)/\k<base/\k≠b
 c2: ∃k,W.cell? ⟨g,2,none⟩=some (.map (some k))/\eJ aE 9 W k (p.css.map sv)/\k<base/\k≠b
 c3: ∃k,W.cell? ⟨g,3,none⟩=some (.map (some k))/\eJ aE 9 W k (p.drops.map sv)/\k<base/\k≠b
 c4: ∃k,W.cell? ⟨g,4,none⟩=some (.map (some k))/\eJ aE 65 W k (p.attrs.map aW.agg)/\k<base/\k≠b
 c5:W.cell? ⟨g,5,none⟩=some (.map (some b))
 grp:jF aE 9 34 2 aS.tag AE W b base l
 c6:W.cell? ⟨g,6,none⟩=some (aI p.rel)
 c7:W.cell? ⟨g,7,none⟩=some (aB aC p.depth)
 c8:W.cell? ⟨g,8,none⟩=some (aB aC p.name)
 c9:W.cell? ⟨g,9,none⟩=some (aB aC p.value)
theorem lB.rules {W:World} {g b base:Nat} {p:aO} (h:lB W g b base p p.forces):gB W g p:=by
 obtain⟨h1,h2,_,⟨k0,x0,y0,_⟩,⟨k1,x1,y1,_⟩,⟨k2,x2,y2,_⟩,⟨k3,x3,y3,_⟩,⟨k4,x4,y4,_⟩,x5,y5,x6,x7,x8,x9⟩:=h;exact⟨bQ h1 h2,⟨k0,x0,y0⟩,⟨k1,x1,y1⟩,⟨k2,x2,y2⟩,⟨k3,x3,y3⟩,⟨k4,x4,y4⟩,⟨b,base,x5,y5⟩,x6,x7,x8,x9⟩
theorem lB.kept {W W':World} {g b base:Nat} {p:aO} {l l':List aS} (h:lB W g b base p l) (hs:W.heap.size<=W'.heap.size) (hk: ∀k,k<base->k≠b->W'.heap[k]? =W.heap[k]?) (hg:jF aE 9 34 2 aS.tag AE W' b base l'):lB W' g b base p l':=by
 have hc: ∀j,W'.cell? ⟨g,j,none⟩=W.cell? ⟨g,j,none⟩:=λj=>World.cell?_of_block (hk g h.g_lt h.gb);obtain⟨h1,h2,h3,⟨k0,x0,y0,z0,n0⟩,⟨k1,x1,y1,z1,n1⟩,⟨k2,x2,y2,z2,n2⟩,⟨k3,x3,y3,z3,n3⟩,⟨k4,x4,y4,z4,n4⟩,x5,_,x6,x7,x8,x9⟩:=h;exact⟨h1,bG h2 hs,h3,⟨k0,(hc _).trans x0,y0.kept (hk k0 z0 n0),z0,n0⟩,⟨k1,(hc _).trans x1,y1.kept (hk k1 z1 n1),z1,n1⟩,⟨k2,(hc _).trans x2,y2.kept (hk k2 z2 n2),z2,n2⟩,⟨k3,(hc _).trans x3,y3.kept (hk k3 z3 n3),z3,n3⟩,⟨k4,(hc _).trans x4,y4.kept (hk k4 z4 n4),z4,n4⟩,(hc _).trans x5,hg,(hc _).trans x6,(hc _).trans x7,(hc _).trans x8,(hc _).trans x9⟩
theorem lB.below {W W':World} {g b base:Nat} {p:aO} {l:List aS} (h:lB W g b base p l) (hb:Below W.heap.size W W'):lB W' g b base p l:=
 h.kept hb.size (λk hk _=>hb.block k (bQ hk h.base_le)) (h.grp.below hb)
theorem lB.step {W W1 W2:World} {g b base:Nat} {p:aO} {l l':List aS} {vb:Option Nat} (h:lB W g b base p l) (hg1:W.grownBy W1 vb) (hvb: ∀k,vb=some k->base<=k) (hg2:W1.grownBy W2 (some b)) (hg:jF aE 9 34 2 aS.tag AE W2 b base l'):lB W2 g b base p l':=by
 refine h.kept (bG hg1.size hg2.size) (λk hk hkb=> ?_) hg;have hkl:k<W.heap.size:=bQ hk h.base_le;exact(hg2.block k (bQ hkl hg1.size) (λe=>hkb (jP.inj e))).trans (hg1.block k hkl (λe=>by have:=hvb k e.symm;omega))
theorem Rf {B base b:Nat} {a W W1 W2:World} {vb:Option Nat} (h:Below B a W) (hB:B<=W.heap.size) (hb:B<=b) (hbase:B<=base) (hg1:W.grownBy W1 vb) (hvb: ∀k,vb=some k->base<=k) (hg2:W1.grownBy W2 (some b)):Below B a W2:=
 h.trans ⟨hg2.os.trans hg1.os,hg2.tape.trans hg1.tape,hg2.output.trans hg1.output,bG hg1.size hg2.size,λj hj=>(hg2.block j (bQ (bQ hj hB) hg1.size) (λe=>by have:=jP.inj e;omega)).trans (hg1.block j (bQ hj hB) (λe=>by have:=hvb j e.symm;omega))⟩
theorem vR:jX aE 22 34 (aR #[aD ⟨#[]⟩,aD ⟨#[]⟩]) 2 32:=⟨by kernel_rfl,by kernel_rfl,by kernel_rfl,by decide⟩
theorem vJ {t:Bs} (h:bW t=true):t.length<=64:=by
 cases t with
 |nil=>exact Nat.zero_le _
 |cons c r=>
  unfold bW at h;simp only[bD,decide_eq_true_eq]at h;simp only[List.length_cons];omega
theorem Be {p:aO} (h:gZ p=true):ZX p:=by
 unfold gZ at h;simp only[bD,dO,decide_eq_true_eq]at h;obtain⟨⟨⟨⟨⟨⟨⟨⟨h0,h1⟩,h2⟩,h3⟩,h4⟩,h5⟩,_⟩,_⟩,_⟩:=h;refine⟨λt ht=>vJ (h0 t ht),λt ht=>vJ (h1 t ht),λt ht=>vJ (h2 t ht),λt ht=>vJ (h3 t ht),λa ha=> ?_,λf hf=> ?_⟩
 .have:=h4 a ha;unfold oG at this;simp only[bD,Bool.or_eq_true,decide_eq_true_eq]at this;refine⟨?_,vJ this.2⟩;rcases this.1 with h9|h9
  .rw[h9];decide
  .exact vJ h9
 .have:=h5 f hf;unfold lN at this;simp only[bD]at this;exact⟨vJ this.1.2,vJ this.2⟩
theorem Bg {p:aO} (h:gZ p=true):p.forces.length<=200:=by
 unfold gZ oA at h;simp only[bD,decide_eq_true_eq]at h;exact h.1.2.2.2.2.2.2
def Tc (p:aO) (w:World) (e:Ending) (w':World):Prop:=Below w.heap.size w w'/\((pX p≠0/\e=aL (aN #[aM none,aB aC (pX p:Nat)]))\/(pX p=0/\ ∃g,e=aL (aN #[aM (some ⟨g,0,none⟩),aB aC 0])/\w.heap.size<=g/\gB w' g p))
open Go.RowKit
attribute [local go_sem] Oper.semAt_some
def eA (x:Bs × Bs):List Value:=[sv x.1,sv x.2]
theorem CS (d:List (Bs × Bs)): ∀u∈d.flatMap eA,u.oneCell'=true:=by
 intro u hu;obtain⟨x,_,hx⟩:=List.mem_flatMap.1 hu;simp only[eA,bJ,eO,or_false]at hx;rcases hx with rfl|rfl<;>rfl
theorem Pt (n c:Nat) (w:World):Calls aE 20 #[aF none n c] w λe w'=>e=aL (aF none 0 0)/\w=w':=by
 have hmx:=bX;have q22: ∀(w:World) (a:Option Addr) (n c n' c':Nat),(binOp .eql 22 (aF a n c) (aF none n' c')).run aE w= .ok (aI a.isNone) w:=λw a n c n' c'=>Xh w _ 34 a n c n' c' kr;go_enter Tryz.func20,Tryz.ntmps20;go_wp2_with fail
 go_ret;exact⟨rfl,rfl⟩
theorem Pq (ad:Addr) (c:Nat) (d:List (Bs × Bs)) (w:World) (h:Rd w (aF (some ad) d.length c) d.length 2 (d.flatMap eA)) (hn:d.length<=1000000000):
  Calls aE 20 #[aF (some ad) d.length c] w λe w'=> ∃v',e=aL v'/\w'.ownsRow w.heap.size 34 2 v' d.length (d.flatMap eA)/\Below w.heap.size w w':=by
 have hmx:=bX;have q22: ∀(w:World) (a:Option Addr) (n c n' c':Nat),(binOp .eql 22 (aF a n c) (aF none n' c')).run aE w= .ok (aI a.isNone) w:=λw a n c n' c'=>Xh w _ 34 a n c n' c' kr;have HC:Hid (∀j u,(d.flatMap eA)[j]? =some u->w.cell? (ad.add j)=some u):=λj u hj=>by
  obtain⟨h1,_,A,c',h3,h4⟩:=h;cases h3;have hj1:=(gV.1 hj).1;obtain⟨b,off,h5,_,h7⟩:=h4 om;cases h5;rw[Addr.add_lit];exact h7 j u hj
 have H1:=aA (CS d);have HL:=aA h.1;clear h;obtain⟨N,hN⟩: ∃N,d.length=N:=⟨_,rfl⟩;rw[hN]at HL hn ⊢;clear hN;generalize d.flatMap eA=cs at*;go_enter Tryz.func20,Tryz.ntmps20;go_wp2_with(at_builtin;refine mJ rfl _ _ 22 rfl vR w.heap.size rfl (lW (c:= #[]) (n:=0) (size:=2) rfl (by unfold maxLen;omega)) (by simp[go_sem]) ad N c cs rfl HL.out (λj u hj=>Lib.cell?_alloc_some _ (HC.out j u hj)) H1.out (by unfold maxLen;omega) om ?_;intro v1 W1 hown1 hg1)
 go_ret;refine⟨v1,rfl,by simpa using hown1, ?_⟩;exact(sE (w:=w) hg1 (lW (c:= #[]) (n:=0) (size:=2) rfl (by unfold maxLen;omega)) ((Below.refl _ _).alloc (Nat.le_refl _) _)).out
theorem Lb (p:aO) (t:Bs):(eF aS.tag p.forces t).flatMap AE=(cM p t).flatMap eA/\(eF aS.tag p.forces t).length=(cM p t).length:=by
 have e:cM p t=(eF aS.tag p.forces t).map λf=>(f.name,f.value):=rfl;rw[e];refine⟨?_,by rw[List.length_map]⟩;generalize eF aS.tag p.forces t=l;induction l with
 |nil=>rfl
 |cons x r ih=>rw[List.map_cons,iF,iF,ih];rfl
def sR (w:World) (l:List (Bs × Bs)) (e:Ending) (w':World):Prop:= ∃A c,e=aL (aF A l.length c)/\Below w.heap.size w w'/\(A=none->c=0)/\l.length<=c/\Rd w' (aF A l.length c) l.length 2 (l.flatMap eA)
theorem FX (g:Nat) (p:aO) (t:Bs) (w:World) (h:gB w g p) (ht:t.length<=maxLen) (hn:p.forces.length<=200):Calls aE 10 #[aM (some ⟨g,0,none⟩),sv t] w (sR w (cM p t)):=by
 have hl:=h.lt;obtain⟨b,base,hc,hg⟩:=h.c5;obtain⟨lv,hlook,hown,_⟩:=hg.look (λ_=>rfl) vO Tryz.underlying58 (λV=>show(zeroValue 22).run aE V= .ok (aF none 0 0) V by kernel_rfl) t (vP ht);have hln:(eF aS.tag p.forces t).length<=200:=bG (List.length_filter_le _ _) hn;obtain⟨e1,e2⟩:=Lb p t;rw[e1,e2]at hown;rw[e2]at hln;have HLk:=aA (show(Instr.lookup 58 (.map (some b)) (aD ⟨t.toArray⟩) false).run aE w= .ok lv w from hlook w rfl);clear hlook hg h ht hn e1 e2;generalize cM p t=L at*;unfold sv;generalize(⟨t.toArray⟩:ByteArray)=x at*;have hown2:=hown;rcases hown.2 with⟨hv,hz⟩|⟨k,cap,cur,hv,_⟩
 .subst hv;have hL:L=[]:=List.eq_nil_of_length_eq_zero hz;subst hL;have HN:=aA (λW=>Pt 0 0 W);clear hown hown2 hz;go_enter Tryz.func10,Tryz.ntmps10;go_wp2_with(first|(go_at_call 20;(with_reducible refine zQ (HN.out _) ?_))|(simp[go_sem,HLk.out]))
  go_ret;exact⟨none,0,rfl,aG,λ_=>rfl,Nat.le_refl _,Rd.nil _ _⟩
 .subst hv;have HN:=aA (Pq ⟨k,0,none⟩ cap L w (Rd.own hown2) om);clear hown hown2;go_enter Tryz.func10,Tryz.ntmps10;go_wp2_with(first|(go_at_call 20;(with_reducible refine HN.out.mono ?_);rintro e w' ⟨v',rfl,ho,hb⟩;have HO:=aA ho;have HB:=aA hb;clear ho hb)|(simp[go_sem,HLk.out]))
  go_ret;rcases HO.out.2 with⟨hv,hz⟩|⟨k2,cap2,cur2,hv,_,_,hle,_⟩
  .subst hv;exact⟨none,0,by rw[hz];rfl,HB.out,λ_=>rfl,by omega,by have:=Rd.own HO.out;rwa[hz]at this ⊢⟩
  .subst hv;exact⟨_,cap2,rfl,HB.out,(λh=>by cases h),hle,Rd.own HO.out⟩
