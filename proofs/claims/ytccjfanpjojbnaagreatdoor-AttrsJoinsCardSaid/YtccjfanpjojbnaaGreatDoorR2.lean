import Derived.Test.YtccjfanpjojbnaaGreatDoorR1
namespace Go.Proofs.YtccjfanpjojbnaaGreatDoor
open Bool renaming and_eq_true→bD
open Go.Ending renaming returned→aL
open Go.IntKind renaming i64→aC
open Lib renaming hid→aA
open List renaming all_eq_true→dO,length_append→aZ,length_cons→aY,take_of_length_le→fI,take_succ_eq_append_getElem→jG
open Nat renaming lt_of_lt_of_le→bQ
open Tryz renaming prog→aE
open Go.Value renaming bool→aI,int→aB,pointer→aM,slice→aF,string→aD,tuple→aN
set_option maxRecDepth 100000
set_option maxHeartbeats 4000000
open Go.RowKit Go.Shelf
def qT (l:Bs):Nat:=l.foldl (λn (c:UInt8)=>n*10+(c.toNat-48)) 0
theorem I9: ∀(l:Bs),l.all aQ=true-> ∀k,l.foldl (λn (c:UInt8)=>n*10+(c.toNat-48)) k+1<=(k+1)*10 ^ l.length:=by
 intro l;induction l with
 |nil=>intro _ k;simp
 |cons c l ih=>
  intro hl k;simp only[List.all_cons,bD]at hl;have:=ih hl.2 (k*10+(c.toNat-48));have hc:=hl.1;simp only[aQ,decide_eq_true_eq]at hc;simp only[List.foldl_cons,aY,Nat.pow_succ];refine Nat.le_trans this ?_;rw[Nat.mul_comm (10 ^ l.length) 10,<-Nat.mul_assoc];exact Nat.mul_le_mul_right _ om
theorem I6 (l:Bs) (c:UInt8):qT (l++[c])=qT l*10+(c.toNat-48):=by
 unfold qT;rw[List.foldl_append];rfl
theorem I7 (l:Bs) (h:l.all aQ=true) (h9:l.length<=9):qT l<=999999999:=by
 have:=I9 l h 0;have hp:=Nat.pow_le_pow_right (n:=10) om h9;unfold qT;omega
theorem I8 (l:Bs) (h:l.all aQ=true):pW l=(qT l:Int):=by
 have H: ∀(l:Bs),l.all aQ=true-> ∀k:Nat,l.foldl (λ(n:Int) (c:UInt8)=>n*10+((c.toNat:Int)-48)) (k:Int)=((l.foldl (λn (c:UInt8)=>n*10+(c.toNat-48)) k:Nat):Int):=by
  intro l;induction l with
  |nil=>intro _ k;rfl
  |cons c l ih=>
   intro hl k;simp only[List.all_cons,bD]at hl;have hc:=hl.1;simp only[aQ,decide_eq_true_eq]at hc;have:=ih hl.2 (k*10+(c.toNat-48));simp only[List.foldl_cons];rw[<-this];congr 1;omega
 exact H l h 0
theorem Ru (S:ByteArray) (s:Bs) (h:S.data.toList=s) (k:Nat) (hk:k<S.size):S[k]=s[k]'(by rw[<-h];simpa using hk):=by
 subst h;rfl
theorem Ev (s:Bs) (w:World) (hne:s≠[]) (hal:s.all aQ=true) (h9:s.length<=9):Calls aE 92 #[aD ⟨s.toArray⟩,aB aC 10,aB aC 1073741824] w (aH (aN #[aB aC (qT s),aI true]) w):=by
 obtain⟨S,hS⟩: ∃S:ByteArray,⟨s.toArray⟩=S:=⟨_,rfl⟩;have hd0:S.data.toList=s:=by rw[<-hS]
 have hsz:S.size=s.length:=by rw[<-hS];rfl
 have hemp:S.toList.isEmpty=false:=by rw[tN,hd0];simpa using hne
 have hcv: ∀W:World,(convert 9 130 (aD S)).run aE W= .ok (aF (some ⟨W.heap.size,0,none⟩) S.size (grownCap W S.size 0 5)) (W.grow (kZ W 5 S)):=λW=>AC W _ _ _ S Tryz.underlying9 Tryz.underlying130 Tryz.underlying5;have HB:=aA (λW=>CU W 5 S);have HZ:=aA hsz;have HA:=aA hal;have H0:=aA hd0;have hS9:S.size<=9:=by omega
 have hmax:max (1073741824:Int) 0=1073741824:=by decide
 rw[hS];clear hsz hd0 hS hne hal;go_enter Tryz.func92,Tryz.ntmps92;go_wp2_with fail
 go_loop [8,30] (λn i=> ∃k:Nat,k<=S.size/\i=aB aC k/\n=aB aC (qT (s.take k))) (λ_ i=>S.size-(intOf i).toNat)
 case atStart=>exact⟨0,by omega,rfl,rfl⟩
 case round=>
  obtain⟨k,hk,rfl,rfl⟩:=hrel;by_cases hlt:k<S.size
  .have hks:k<s.length:=by rw[<-HZ.out];exact hlt
   have hc0:=HB.out w k hlt;have hck:S[k]=s[k]:=Ru S s H0.out k hlt;rw[hck]at hc0;have HN:=aA (I6 (s.take k) s[k]);rw[<-jG hks]at HN;have hdg:aQ s[k]=true:=dO.1 HA.out _ (List.getElem_mem hks);have hsm:=I7 (s.take (k+1)) (dO.2 λx hx=>dO.1 HA.out x (List.mem_of_mem_take hx)) (by rw[List.length_take];omega);have HD:=aA (λW=>show Calls aE 109 #[.int .u8 s[k].toNat] W λe w'=>e=aL (aI true)/\W=w' from hdg ▸ qD s[k] W);generalize s[k]=c at*;have h1:48<=c.toNat/\c.toNat<=57:=by simpa[aQ]using hdg
   obtain⟨d,hd1⟩: ∃d,c.toNat=48+d:=⟨c.toNat-48,by omega⟩;have hd9:d<=9:=by omega
   rw[hd1,show((48+d:Nat):Int)=48+(d:Int) by omega]at hc0 HD;rw[hd1,Nat.add_sub_cancel_left]at HN;have hv:qT (s.take k)*10+d<=999999999:=by rw[<-HN.out];exact hsm
   have hw1:IntKind.u8.wrap (48+(d:Int)-48)=(d:Int):=by rw[show 48+(d:Int)-48=d by omega];exact IntWalk.u8_in _ om
   have hw2:IntKind.u8.wrap (d:Int)=(d:Int):=IntWalk.u8_in _ om;have hcn:=vY (Nat.le_refl _) hc0;clear hdg hck hsm h1 hd1 hc0;generalize qT (s.take k)=v at*;have hmin:min ((v:Int)*10+(d:Int)) 1073741824=(v:Int)*10+(d:Int):=by omega
   go_wp2_with(go_at_call 109;(with_reducible refine zQ (HD.out _) ?_))
   go_round
   case rel=>exact⟨k+1,by omega,by go_num,by rw[HN.out];simp;try omega⟩
   case measure=>simp[intOf];omega
  .have HN:Hid (qT (s.take k)=qT s):=by show _=_;rw[fI];rw[<-HZ.out];omega
   go_wp2
   go_ret2;exact aH.of (by rw[HN.out];rfl) aG
theorem Ew (s:Bs) (w:World) (hal:s.all aQ=true) (h9:s.length<=9):Calls aE 92 #[aD ⟨s.toArray⟩,aB aC 10,aB aC 1073741824] w (aH (aN #[aB aC (pW s),aI (!s.isEmpty)]) w):=by
 cases s with
 |nil=>
  go_enter Tryz.func92,Tryz.ntmps92;go_wp2_with fail
  go_ret2;exact aH.of rfl aG
 |cons c r=>
  rw[I8 _ hal];exact Ev _ w (by simp) hal h9
open Go.RowKit
theorem BK {P:Program} {W:World} {o:Oper} {a:Act} {K:Act->World->Prop} {Q:Exit->Act->World->Prop} (s x:Operand) (t:TypeId)
  (ho:o.op= .call {callee:= .builtin .append,args:= #[s,x],argTypes:= #[t,t]})
  {e:TypeId} {z:Value} {size bytes:Nat} (row:jX P t e z size bytes) (base:Nat) {v:Value} {n:Nat} {xs:List Value} (hs:a.eval s=v) (hown:W.ownsRow base e size v n xs)
  (hb:base<=W.heap.size) (ad:Addr) (m c:Nat) (news:List Value) (hx:a.eval x=aF (some ad) m c) (hnews: ∀j u,news[j]? =some u->W.cell? (ad.add j)=some u) (hl:news.length=m*size)
  (h1: ∀u∈news,u.oneCell'=true) (h63:n+m<=maxLen) (hbytes:(n+m)*bytes<=140737488355328)
  (h: ∀v' W',W'.ownsRow base e size v' (n+m) (xs++news)->W.grownBy W' v.ownBlock->(v'.ownBlock=v.ownBlock\/v'.ownBlock=some W.heap.size)->K (a.put o.dst v') W'):
  Oper.wp P o a W K Q:=by
 obtain⟨i,hi,hz0,hz1,hz2⟩:=info_parts row.hi;obtain⟨v',w',hr,h2,h3,_,h5⟩:=run_append_own_at (P:=P) W base t o.type e i z size bytes row.ht hi hz0 hz1 hz2 row.hzs row.hsz v n xs hown ad m c news hl hnews h1 h63 hbytes hb;unfold Oper.wp execOp;simp only[ho,resolve,invoke,builtin,Sem.run_bind,Sem.run_pure,Result.andThen_ok,List.map_toArray,List.map_cons,List.map_nil,hs,hx,hr];exact h v' w' h2 h3 h5
structure nF (s:Ps):Prop where
 rest:s.rest.length<=10000
 txt: ∀x∈s.rest,x.text.length<=10000/\x.at_<=10000
 told:s.told.length+s.rest.length<=20000
 rows: ∀j,fN s.pol j+s.rest.length<=20000
theorem cA.setNew {M j B i:Nat} {W X:World} (h:cA M j W X) (hl:M+1<W.heap.size) (hB:W.heap.size<=B) (v:Value):cA M j W (X.setCell ⟨B,i,none⟩ v):=
 ⟨h.turned.setCell (.inl hB) v,λk hk=>by rw[World.cell?_setCell_other _ _ _ _ (by intro e;cases e;omega)];exact h.cell k hk,λk=>by rw[World.frozen?_setCell];exact h.fz k⟩
theorem cI.setNew {en M B i:Nat} {l:List Lx} {X:World} (h:cI en M l X) (hB:M+2<=B) (v:Value):cI en M l (X.setCell ⟨B,i,none⟩ v):=
 h.turned (aJ.setCell (pv:=λb=>b=B) (p:=⟨B,i,none⟩) (aJ.refl _ X) (.inr rfl) v) (λb hb=>by omega)
theorem cA.cellB {M j B i:Nat} {V X:World} (h:cA M j V X) (hB:B<V.heap.size) (hn:B≠M+1):X.cell? ⟨B,i,none⟩=V.cell? ⟨B,i,none⟩:=World.cell?_of_block (h.turned.block B hB hn)
theorem cA.fzB {M j B i:Nat} {V X:World} (h:cA M j V X) (hB:B<V.heap.size) (hn:B≠M+1):X.frozen? ⟨B,i,none⟩=V.frozen? ⟨B,i,none⟩:=World.frozen?_of_block (h.turned.block B hB hn)
theorem Lc (en M a:Nat) (s:Ps) (W:World) (h:cW en M s W) (hs:nF s) (ha:a<=10000):
  Calls aE 46 #[aM (some ⟨M+1,0,none⟩),aB aC a] W (vF M W (nX en a s) λt e w'=>e=aL (aN #[])/\cW en M t w'/\Below M W w'):=by
 have hmx:=bX;have hlt:=h.r.lt;have HT1:=aA (show Calls aE 42 #[aM (some ⟨M+1,0,none⟩),aB aC 1,aF none 0 0] W _ from qX en M 1 s.rest _ [] W h.r (Rd.nil _ _));have HPar:=aA h;have HSm:=aA hs;clear h hs;cases h1:dE en 1 [] s.rest with
 |error f=>
  rw[h1]at HT1;have HW:Hid (nX en a s= .error f):=by show _=_;unfold nX;rw[h1]
  rw[HW.out];clear h1 HW HPar HSm;go_enter Tryz.func46,Tryz.ntmps46;go_wp2_with(go_at_call 42;(with_reducible refine HT1.out.mono ?_);rintro e W1 ⟨rfl,hb1⟩;have HB1:=aA hb1;clear hb1)
  exact⟨rfl,rfl,HB1.out⟩
 |ok p=>
  obtain⟨x1,q1⟩:=p;rw[h1]at HT1;have HT1:=aA (show Calls aE 42 #[aM (some ⟨M+1,0,none⟩),aB aC 1,aF none 0 0] W (λe w'=>e=aL x1.agg/\cI en M q1 w'/\cA M 0 W w')from HT1.out);have HQ1:=aA (tK h1).1;have HW:Hid (nX en a s=match dE en 1 [] q1 with
   | .error f=> .error f
   | .ok (n,q)=>match dE en 3 [] q with
    | .error f=> .error f
    | .ok (v,q)=>match iB en a (lO++[32]++x1.text++[32]++n.text) q s.told with
     | .error f=> .error f
     | .ok (q,told)=> .ok ⟨q,{s.pol with forces:=s.pol.forces++[⟨x1.text,n.text,v.text⟩]},told⟩):=by show _=_;unfold nX;rw[h1];rfl
  obtain⟨R,hR⟩: ∃R,nX en a s=R:=⟨_,rfl⟩;rw[hR]at HW ⊢;clear hR h1;have hfl:=CM;simp only[Lx.agg]at HT1;have HX1:Hid ((⟨x1.text.toArray⟩:ByteArray).data.toList=x1.text):=rfl;have HY1:Hid (sv x1.text=aD ⟨x1.text.toArray⟩):=rfl;generalize(⟨x1.text.toArray⟩:ByteArray)=t1 at*;go_enter Tryz.func46,Tryz.ntmps46;go_upto_region 1 with(go_at_call 42;(with_reducible refine HT1.out.mono ?_);rintro e W1 ⟨rfl,hp1,hu1⟩;have HP1:=aA hp1;have HU1:=aA hu1;clear hp1 hu1)
  refine dL λV1 hV1=> ?_;obtain⟨B,hB⟩: ∃B,W1.heap.size=B:=⟨_,rfl⟩;rw[hB];have hB1:W.heap.size<=B:=by rw[<-hB];exact HU1.out.turned.size
  have hBV:B<V1.heap.size:=by rw[hV1,<-hB];simp
  have hbel:Below W1.heap.size W1 V1:=by rw[hV1];exact aG
  have HU1:=aA (HU1.out.below om hbel);have HP1:=aA (HP1.out.grown hbel);have f0:V1.cell? ⟨B,0,none⟩=some (aD t1):=by rw[hV1,<-hB];simp[go_sem]
  have f1:V1.cell? ⟨B,1,none⟩=some (aD ⟨#[]⟩):=by rw[hV1,<-hB];simp[go_sem]
  have f2:V1.cell? ⟨B,2,none⟩=some (aD ⟨#[]⟩):=by rw[hV1,<-hB];simp[go_sem]
  have fz: ∀i,V1.frozen? ⟨B,i,none⟩=false:=λi=>by rw[hV1,<-hB];simp[go_sem]
  have g1:=fz 1;have hBM:B≠M+1:=by omega
  clear hV1 hB hbel HT1;have HT2:=aA (show Calls aE 42 #[aM (some ⟨M+1,0,none⟩),aB aC 1,aF none 0 0] V1 _ from qX en M 1 q1 _ [] V1 HP1.out (Rd.nil _ _));cases h2:dE en 1 [] q1 with
  |error f=>
   rw[h2]at HT2 HW;have HR:Hid (R= .error f):=HW.out;clear h2 HW HPar HSm;go_wp2_with(go_at_call 42;(with_reducible refine HT2.out.mono ?_);rintro e W2 ⟨rfl,hb1⟩;have HB1:=aA hb1;clear hb1)
   refine⟨rfl, ?_⟩;rw[HR.out];exact⟨rfl,(HU1.out.below' hlt).trans HB1.out⟩
  |ok p=>
   obtain⟨x2,q2⟩:=p;rw[h2]at HT2 HW;have HT2:=aA (show Calls aE 42 #[aM (some ⟨M+1,0,none⟩),aB aC 1,aF none 0 0] V1 (λe w'=>e=aL x2.agg/\cI en M q2 w'/\cA M 0 V1 w')from HT2.out);have HQ2:=aA (tK h2).1;have HW:Hid (R=match dE en 3 [] q2 with
    | .error f=> .error f
    | .ok (v,q)=>match iB en a (lO++[32]++x1.text++[32]++x2.text) q s.told with
     | .error f=> .error f
     | .ok (q,told)=> .ok ⟨q,{s.pol with forces:=s.pol.forces++[⟨x1.text,x2.text,v.text⟩]},told⟩):=HW.out
   clear h2;simp only[Lx.agg]at HT2;have HX2:Hid ((⟨x2.text.toArray⟩:ByteArray).data.toList=x2.text):=rfl;have HY2:Hid (sv x2.text=aD ⟨x2.text.toArray⟩):=rfl;generalize(⟨x2.text.toArray⟩:ByteArray)=t2 at*;go_upto_region 2 with(go_at_call 42;(with_reducible refine HT2.out.mono ?_);rintro e W2 ⟨rfl,hp1,hu1⟩;have k1:=(hu1.cellB hBV hBM).trans f1;have k2:=(hu1.fzB hBV hBM).trans g1;have HP2:=aA hp1;have HU2:=aA hu1;clear hp1 hu1)
   refine dL λV2 hV2=> ?_;have hs2:=HU2.out.turned.size;have hBV2:B<V2.heap.size:=by rw[hV2];simp;omega
   have e0:V2.cell? ⟨B,0,none⟩=some (aD t1):=by rw[hV2,World.cell?_setCell_other _ _ _ _ (by intro e;cases e)];exact(HU2.out.cellB hBV hBM).trans f0
   have e1:V2.cell? ⟨B,1,none⟩=some (aD t2):=by rw[hV2];exact World.cell?_setCell_same _ _ _ k1
   have e2:V2.cell? ⟨B,2,none⟩=some (aD ⟨#[]⟩):=by rw[hV2,World.cell?_setCell_other _ _ _ _ (by intro e;cases e)];exact(HU2.out.cellB hBV hBM).trans f2
   have fz2: ∀i,V2.frozen? ⟨B,i,none⟩=false:=λi=>by rw[hV2,World.frozen?_setCell];exact(HU2.out.fzB hBV hBM).trans (fz i)
   have g2:=fz2 2;have HU3:Hid (cA M 0 W V2):=by show cA _ _ _ _;rw[hV2];exact(HU1.out.trans HU2.out).setNew hlt hB1 _
   have HP3:Hid (cI en M q2 V2):=by show cI _ _ _ _;rw[hV2];exact HP2.out.setNew om _
   clear hV2 HT2 HU1 HU2 HP1 HP2 f0 f1 f2 fz g1 k1 k2 hBV;have HT3:=aA (show Calls aE 42 #[aM (some ⟨M+1,0,none⟩),aB aC 3,aF none 0 0] V2 _ from qX en M 3 q2 _ [] V2 HP3.out (Rd.nil _ _));cases h3:dE en 3 [] q2 with
   |error f=>
    rw[h3]at HT3 HW;have HR:Hid (R= .error f):=HW.out;clear h3 HW HPar HSm;go_wp2_with(go_at_call 42;(with_reducible refine HT3.out.mono ?_);rintro e W2 ⟨rfl,hb1⟩;have HB1:=aA hb1;clear hb1)
    refine⟨rfl, ?_⟩;rw[HR.out];exact⟨rfl,(HU3.out.below' hlt).trans HB1.out⟩
   |ok p=>
    obtain⟨x3,q3⟩:=p;rw[h3]at HT3 HW;have HT3:=aA (show Calls aE 42 #[aM (some ⟨M+1,0,none⟩),aB aC 3,aF none 0 0] V2 (λe w'=>e=aL x3.agg/\cI en M q3 w'/\cA M 0 V2 w')from HT3.out);have HQ3:=aA (tK h3).1;have HW:Hid (R=match iB en a (lO++[32]++x1.text++[32]++x2.text) q3 s.told with
      | .error f=> .error f
      | .ok (q,told)=> .ok ⟨q,{s.pol with forces:=s.pol.forces++[⟨x1.text,x2.text,x3.text⟩]},told⟩):=HW.out
    clear h3;simp only[Lx.agg]at HT3;have HX3:Hid (sv x3.text=aD ⟨x3.text.toArray⟩):=rfl;generalize(⟨x3.text.toArray⟩:ByteArray)=t3 at*;go_upto_region 3 with(go_at_call 42;(with_reducible refine HT3.out.mono ?_);rintro e W2 ⟨rfl,hp1,hu1⟩;have k1:=(hu1.cellB hBV2 hBM).trans e2;have k2:=(hu1.fzB hBV2 hBM).trans g2;have HP2:=aA hp1;have HU2:=aA hu1;clear hp1 hu1)
    refine dL λV3 hV3=> ?_;have hs3:=HU2.out.turned.size;have hBV3:B<V3.heap.size:=by rw[hV3];simp;omega
    have d0:V3.cell? ⟨B,0,none⟩=some (aD t1):=by rw[hV3,World.cell?_setCell_other _ _ _ _ (by intro e;cases e)];exact(HU2.out.cellB hBV2 hBM).trans e0
    have d1:V3.cell? ⟨B,1,none⟩=some (aD t2):=by rw[hV3,World.cell?_setCell_other _ _ _ _ (by intro e;cases e)];exact(HU2.out.cellB hBV2 hBM).trans e1
    have d2:V3.cell? ⟨B,2,none⟩=some (aD t3):=by rw[hV3];exact World.cell?_setCell_same _ _ _ k1
    have HU4:Hid (cA M 0 W V3):=by show cA _ _ _ _;rw[hV3];exact(HU3.out.trans HU2.out).setNew hlt hB1 _
    have HP4:Hid (cI en M q3 V3):=by show cI _ _ _ _;rw[hV3];exact HP2.out.setNew om _
    clear hV3 HT3 HU3 HU2 HP3 HP2 e0 e1 e2 fz2 g2 k1 k2 hBV2;have HPa:=aA (HPar.out.took HP4.out HU4.out);obtain⟨KS,hKS⟩: ∃KS,((⟨#[102,111,114,99,101,32]⟩:ByteArray)++t1++⟨#[32]⟩++t2)=KS:=⟨_,rfl⟩;have hKe:KS=⟨(lO++[32]++x1.text++[32]++x2.text).toArray⟩:=by
     rw[<-hKS];apply yB;simp only[ByteArray.data_append,Array.toList_append,HX1.out,HX2.out];rfl
    have hl1:x1.text.length<=10000:=(HSm.out.txt x1 (by rw[HQ1.out];simp)).1;have hl2:x2.text.length<=10000:=(HSm.out.txt x2 (by rw[HQ1.out,HQ2.out];simp)).1;have hst:=HSm.out.told;have hsr:=HSm.out.rows 5;have HOn0:=LJ en M a (lO++[32]++x1.text++[32]++x2.text) ⟨q3,s.pol,s.told⟩ V3 HPa.out (by simp only[aZ,lO,aY,List.length_nil];omega) om (by show s.told.length<_;omega);rw[<-hKe]at HOn0;have HOn:=aA HOn0;have HQ4:Hid (q3.length+3=s.rest.length):=by show _=_;rw[HQ1.out,HQ2.out,HQ3.out];simp
    have z1:t1.size<=10000:=by have:=congrArg List.length HX1.out;rw[Array.length_toList]at this;show t1.data.size<=_;omega
    have z2:t2.size<=10000:=by have:=congrArg List.length HX2.out;rw[Array.length_toList]at this;show t2.data.size<=_;omega
    have z3:((⟨#[102,111,114,99,101,32]⟩:ByteArray)++t1).size<=10006:=by rw[ByteArray.size_append];show 6+t1.size<=_;omega
    have z4:((⟨#[102,111,114,99,101,32]⟩:ByteArray)++t1++⟨#[32]⟩).size<=10007:=by rw[ByteArray.size_append];show _+1<=_;omega
    clear HOn0 hKe HX1 HX2 HQ1 HQ2 HQ3 HSm hl1 hl2;cases h4:iB en a (lO++[32]++x1.text++[32]++x2.text) q3 s.told with
    |error f=>
     rw[h4]at HOn HW;have HR:Hid (R= .error f):=HW.out;clear h4 HW;go_wp2_with(go_at_call 45;(with_reducible refine HOn.out.mono ?_);rintro e W2 ⟨rfl,hb1⟩;have HB1:=aA hb1;clear hb1)
     refine⟨rfl, ?_⟩;rw[HR.out];exact⟨rfl,(HU4.out.below' hlt).trans HB1.out⟩
    |ok p=>
     obtain⟨q4,told4⟩:=p;rw[h4]at HOn HW;have HOn:=aA (show Calls aE 45 #[aM (some ⟨M+1,0,none⟩),aB aC a,aD KS] V3 (λe w'=>e=aL (aN #[])/\cW en M ⟨q4,s.pol,told4⟩ w'/\aJ (λb=>b=M\/b=M+1) V3 w'/\ ∀i,i≠0->w'.cell? ⟨M+1,i,none⟩=V3.cell? ⟨M+1,i,none⟩)from HOn.out);have HR:Hid (R= .ok ⟨q4,{s.pol with forces:=s.pol.forces++[⟨x1.text,x2.text,x3.text⟩]},told4⟩):=HW.out;clear h4 HW;go_upto_region 4 with(go_at_call 45;(with_reducible refine HOn.out.mono ?_);rintro e W4 ⟨rfl,hp4,ht4,hc4⟩;have HP5:=aA hp4;have HT5:=aA ht4;have HC4:=aA hc4;clear hp4 ht4 hc4)
     obtain⟨v5,hv5,hov⟩:=HP5.out.row 5 om;have HV5:Hid (∀b,v5.ownBlock=some b->b<B):=λb hb=>by
      obtain⟨u,hu,hou⟩:=HPar.out.row 5 om;have e1:=(HC4.out 7 om).trans (HU4.out.cell 7 om);rw[show(⟨M+1,2+5,none⟩:Addr)=⟨M+1,7,none⟩from rfl]at hv5 hu;rw[hv5,hu]at e1;cases e1;have:=(hou.lt b hb).2;omega
     have hB4:B<W4.heap.size:=bQ hBV3 HT5.out.size;have hBn: ¬(B=M\/B=M+1):=by omega
     have d0:=(World.cell?_of_block (a:=⟨B,0,none⟩) (HT5.out.block B hBV3 hBn)).trans d0;have d1:=(World.cell?_of_block (a:=⟨B,1,none⟩) (HT5.out.block B hBV3 hBn)).trans d1;have d2:=(World.cell?_of_block (a:=⟨B,2,none⟩) (HT5.out.block B hBV3 hBn)).trans d2;have hl4:=HP5.out.r.lt;have HOv:=aA hov;clear hov;refine qS 9 [(0,true),(1,true),(2,true),(3,true),(4,true),(5,true),(6,true),(7,false),(8,false)] (λV=>V.cell? ⟨M+1,7,none⟩=some v5/\V.cell? ⟨B,0,none⟩=some (aD t1)/\V.cell? ⟨B,1,none⟩=some (aD t2)/\V.cell? ⟨B,2,none⟩=some (aD t3)) hmx kr kr kr dc  rfl (λc a d v w h=>by obtain⟨x,y⟩:=(h:_/\_);cases d<;>exact⟨x,y⟩) kr (by exact⟨hv5,d0,d1,d2⟩) ?_;refine bN (v:=(aM (some ⟨M+1,0,none⟩))) rfl rfl ee ?_;refine bN (v:=(aM (some ⟨M+1,0,none⟩))) rfl rfl ee ?_;refine bN (v:=(aM (some ⟨M+1,0,none⟩))) rfl rfl ee ?_;refine bN (v:=(aM (some ⟨M+1,2,none⟩))) rfl rfl ee ?_;refine bN (v:=(aM (some ⟨M+1,7,none⟩))) rfl rfl ee ?_;refine bN (v:=v5) rfl rfl (λW hW=>by simp[execOp,go_sem,hW.1]) ?_;refine bN (v:=(Value.agg #[aD t1,aD t2,aD t3])) rfl rfl (λW hW=>by obtain⟨_,q1,q2,q3⟩:=hW;simp[execOp,go_sem,q1,q2,q3]) ?_;refine cC rfl rfl λKc hKc=> ?_;unfold Oper.wp;simp[execOp,go_sem];apply hKc;have hb5:Below W4.heap.size W4 (W4.alloc (.cells #[aD t1,aD t2,aD t3] 81)).drew:=aG;have hlM:M+1<W4.heap.size:=hl4;refine⟨⟨(hb5.cell hlM).trans hv5,(hb5.cell hB4).trans d0,(hb5.cell hB4).trans d1,(hb5.cell hB4).trans d2⟩, ?_⟩;show wpOp _ _ _ _ _ _ _;unfold wpOp;simp only[List.getElem?_toArray,List.getElem?_cons_succ,List.getElem?_cons_zero];left;have hn5:fN s.pol 5<=20000:=by omega
     refine BK (n:=fN s.pol 5) (size:=3) (xs:=fC s.pol 5) (v:=v5) (.tmp 32) (.tmp 34) 46 rfl RU (M+2) rfl (zK HOv.out hb5) (by have:=hb5.size;omega) ⟨W4.heap.size,0,none⟩ 1 1 [aD t1,aD t2,aD t3] rfl ?_ rfl ?_ (by unfold maxLen;omega) om ?_
     .intro j u hu;match j,hu with
      |0,hu=>cases hu;simp[go_sem,Addr.add]
      |1,hu=>cases hu;simp[go_sem,Addr.add]
      |2,hu=>cases hu;simp[go_sem,Addr.add]
     .simp[Value.oneCell']
     intro v6 W6 ho6 hg6 hat6;obtain⟨A6,c6,rfl,_⟩:=dF ho6;have hgT:aJ (λb=>v5.ownBlock=some b) (W4.alloc (.cells #[aD t1,aD t2,aD t3] 81)).drew W6:=⟨hg6.os,hg6.tape,hg6.output,hg6.size,λk hk hn=>hg6.block k hk (λe=>hn e.symm)⟩;have hnB: ¬v5.ownBlock=some B:=λe=>by have:=HV5.out B e;omega
     have hnM: ¬v5.ownBlock=some (M+1):=λe=>by have:=(HOv.out.lt _ e).1;omega
     have hB5:B<(W4.alloc (.cells #[aD t1,aD t2,aD t3] 81)).drew.heap.size:=by have:=hb5.size;omega
     have hM5:M+1<(W4.alloc (.cells #[aD t1,aD t2,aD t3] 81)).drew.heap.size:=by have:=hb5.size;omega
     have k7:=(World.cell?_of_block (a:=⟨M+1,7,none⟩) (hgT.block _ hM5 hnM)).trans ((hb5.cell hlM).trans hv5);have k0:=(World.cell?_of_block (a:=⟨B,0,none⟩) (hgT.block _ hB5 hnB)).trans ((hb5.cell hB4).trans d0);have k1:=(World.cell?_of_block (a:=⟨B,1,none⟩) (hgT.block _ hB5 hnB)).trans ((hb5.cell hB4).trans d1);have k2:=(World.cell?_of_block (a:=⟨B,2,none⟩) (hgT.block _ hB5 hnB)).trans ((hb5.cell hB4).trans d2);have kf:=(World.frozen?_of_block (a:=⟨M+1,7,none⟩) (hgT.block _ hM5 hnM)).trans ((World.frozen?_of_block (hb5.block _ hlM)).trans (HP5.out.r.fz 7));refine⟨⟨k7,k0,k1,k2⟩, ?_⟩;have HT6:=aA ((aJ.of_below hb5).trans hgT);have HO6:=aA ho6;have HA6:=aA hat6;clear hgT hnB hnM hB5 hM5 hg6 hat6 ho6 hb5 HOv HV5 k0 k1 k2;dsimp only[dD,List.drop];go_wp2_with fail
     go_end0;rw[HR.out];have hf1:fN {s.pol with forces:=s.pol.forces++[⟨x1.text,x2.text,x3.text⟩]} 5=fN s.pol 5+1:=by simp[fN]
     have hf2:fC {s.pol with forces:=s.pol.forces++[⟨x1.text,x2.text,x3.text⟩]} 5=fC s.pol 5++[aD t1,aD t2,aD t3]:=by
      rw[<-HY1.out,<-HY2.out,<-HX3.out];simp[fC,sv];rfl
     have h9:=HP5.out.put (j:=5) (p:={s.pol with forces:=s.pol.forces++[⟨x1.text,x2.text,x3.text⟩]}) om hv5 HT6.out (by rw[hf1,hf2];exact HO6.out) (HA6.out.imp (λh=>h) (λh=>⟨_,h,by have:=(aG:Below W4.heap.size W4 (W4.alloc (.cells #[aD t1,aD t2,aD t3] 81)).drew).size;omega⟩)) (λi hi hij=>by match i,hij with|0,_=>exact⟨rfl,rfl⟩|1,_=>exact⟨rfl,rfl⟩|2,_=>exact⟨rfl,rfl⟩|3,_=>exact⟨rfl,rfl⟩|4,_=>exact⟨rfl,rfl⟩|5,h=>exact absurd rfl h|i+6,_=>exact absurd hi om) rfl rfl rfl rfl;exact⟨rfl,h9.1,((HU4.out.below' hlt).trans (HT5.out.below (by have:=HT5.out.size;omega) (λk hk=>by omega):Below M V3 W4)).trans h9.2⟩
theorem cW.setF {en M j:Nat} {s:Ps} {W:World} {p:aO} {v:Value} (h:cW en M s W) (hj:8<=j) (hj2:j<=11) (hp: ∀i,fN p i=fN s.pol i/\fC p i=fC s.pol i)
  (h8:(if j=8 then v else .bool s.pol.rel)=aI p.rel) (h9:(if j=9 then v else .int .i64 s.pol.depth)=aB aC p.depth) (h10:(if j=10 then v else .int .i64 s.pol.name)=aB aC p.name) (h11:(if j=11 then v else .int .i64 s.pol.value)=aB aC p.value):
  cW en M ⟨s.rest,p,s.told⟩ (W.setCell ⟨M+1,j,none⟩ v)/\Below M W (W.setCell ⟨M+1,j,none⟩ v):=by
 have hl:=h.r.lt;have hu:=cA.set (M:=M) (j:=j) (W:=W) v;obtain⟨u,hu0⟩: ∃u,W.cell? ⟨M+1,j,none⟩=some u:=by
  rcases(by omega:j=8\/j=9\/j=10\/j=11)with rfl|rfl|rfl|rfl
  .exact⟨_,h.c8⟩
  .exact⟨_,h.c9⟩
  .exact⟨_,h.c10⟩
  .exact⟨_,h.c11⟩
 have hs:=World.cell?_setCell_same W ⟨M+1,j,none⟩ v hu0;have hc: ∀i,(W.setCell ⟨M+1,j,none⟩ v).cell? ⟨M+1,i,none⟩=if j=i then some v else W.cell? ⟨M+1,i,none⟩:=λi=>by
  by_cases hi:j=i
  .subst hi;rw[if_pos rfl];exact hs
  .rw[if_neg hi];exact hu.cell i om
 refine⟨⟨?_,λi hi=> ?_,λi k u1 u2 b hi hk hik hu1 hu2 hb=> ?_, ?_, ?_, ?_, ?_, ?_,h.told.kept (hu.turned.block M h.told.lt om)⟩,hu.below' hl⟩
 .obtain⟨A,c,h1,h2,h3⟩:=h.r.rest;exact⟨⟨A,c,(hu.cell 0 om).trans h1,h2,h3.turned (hu.turned.mono λb hb=>by omega)⟩,(hu.cell 1 om).trans h.r.end_,λi=>(hu.fz i).trans (h.r.fz i)⟩
 .obtain⟨v,hv,ho⟩:=h.row i hi;refine⟨v,(hu.cell _ om).trans hv, ?_⟩;show World.ownsRow _ _ _ _ _ (fN p i) (fC p i);rw[(hp i).1,(hp i).2];exact xK hu.turned ho (λb hb hx=>by have:=(ho.lt b hb).1;omega)
 .exact h.apart i k u1 u2 b hi hk hik ((hu.cell _ om).symm.trans hu1) ((hu.cell _ om).symm.trans hu2) hb
 .show _=some (aI p.rel);rw[hc,<-h8];split<;>first|rfl|exact h.c8
 .show _=some (aB _ p.depth);rw[hc,<-h9];split<;>first|rfl|exact h.c9
 .show _=some (aB _ p.name);rw[hc,<-h10];split<;>first|rfl|exact h.c10
 .show _=some (aB _ p.value);rw[hc,<-h11];split<;>first|rfl|exact h.c11
 .exact(hu.cell 12 om).trans h.c12
theorem cW.cells {en M:Nat} {s:Ps} {W:World} (h:cW en M s W): ∃v0 v1 v2 v3 v4 v5,W.cell? ⟨M+1,2,none⟩=some v0/\W.cell? ⟨M+1,3,none⟩=some v1/\W.cell? ⟨M+1,4,none⟩=some v2/\W.cell? ⟨M+1,5,none⟩=some v3/\W.cell? ⟨M+1,6,none⟩=some v4/\W.cell? ⟨M+1,7,none⟩=some v5/\
  (∃A n c,v0=aF A n c)/\(∃A n c,v1=aF A n c)/\(∃A n c,v2=aF A n c)/\(∃A n c,v3=aF A n c)/\(∃A n c,v4=aF A n c)/\(∃A n c,v5=aF A n c):=by
 have key: ∀j,j<6-> ∃v,W.cell? ⟨M+1,2+j,none⟩=some v/\ ∃A n c,v=aF A n c:=λj hj=>by
  obtain⟨v,hv,ho⟩:=h.row j hj;obtain⟨A,c,h1,_⟩:=dF ho;exact⟨v,hv,A,_,c,h1⟩
 obtain⟨v0,a0,b0⟩:=key 0 om;obtain⟨v1,a1,b1⟩:=key 1 om;obtain⟨v2,a2,b2⟩:=key 2 om;obtain⟨v3,a3,b3⟩:=key 3 om;obtain⟨v4,a4,b4⟩:=key 4 om;obtain⟨v5,a5,b5⟩:=key 5 om;exact⟨v0,v1,v2,v3,v4,v5,a0,a1,a2,a3,a4,a5,b0,b1,b2,b3,b4,b5⟩
theorem Ii (en M a:Nat) (s:Ps) (W:World) (h:cW en M s W) (hs:nF s) (hnum: ∀x∈s.rest,x.kind=2->x.text.all aQ=true/\x.text.length<=9) (ha:a<=10000):
  Calls aE 47 #[aM (some ⟨M+1,0,none⟩),aB aC a] W (vF M W (nW en a s) λt e w'=>e=aL (aN #[])/\cW en M t w'/\Below M W w'):=by
 have hmx:=bX;have hlt:=h.r.lt;have HT1:=aA (λW' (hb:Below W.heap.size W W') v (hv:Rd W' v [kX,kT,lG].length 1 ([kX,kT,lG].map sv))=>show Calls aE 42 #[aM (some ⟨M+1,0,none⟩),aB aC 1,v] W' _ from wZ h.r hb om (qX en M 1 s.rest v [kX,kT,lG] W' (h.r.grown hb) hv));have HPar:=aA h;have HSm:=aA hs;have HNum:=aA hnum;clear h hs hnum;cases h1:dE en 1 [kX,kT,lG] s.rest with
 |error f=>
  rw[h1]at HT1;have HW:Hid (nW en a s= .error f):=by show _=_;unfold nW;rw[h1]
  rw[HW.out];clear h1 HW HPar HSm;go_enter Tryz.func47,Tryz.ntmps47;go_wp2_with(go_at_call 42;(refine(HT1.out _ aG _ (oV (ts:=[kX,kT,lG]) (by simp) rfl rfl (by simp))).mono ?_);rintro e W1 ⟨rfl,hb1⟩;have HB1:=aA hb1;clear hb1)
  exact⟨rfl,rfl,HB1.out⟩
 |ok p=>
  obtain⟨x1,q1⟩:=p;rw[h1]at HT1;have HT1:=aA (λW' hb v hv=>show Calls aE 42 #[aM (some ⟨M+1,0,none⟩),aB aC 1,v] W' (λe w'=>e=aL x1.agg/\cI en M q1 w'/\cA M 0 W w')from HT1.out W' hb v hv);obtain⟨hq1,hn1⟩:=tK h1;have HQ1:=aA hq1;have HKd:Hid (x1.text=kX\/x1.text=kT\/x1.text=lG):=by
   show _\/_;rw[hq1]at hn1;have hn2:(decide (x1.kind=1)&&(false||decide (x1.text∈[kX,kT,lG])))=true:=hn1;simp only[Bool.false_or,bD,decide_eq_true_eq,List.mem_cons,List.not_mem_nil,or_false]at hn2;exact hn2.2
  have HW:Hid (nW en a s=match dE en 2 [] q1 with
   | .error f=> .error f
   | .ok (x,q)=>match iB en a (mY++[32]++x1.text) q s.told with
    | .error f=> .error f
    | .ok (q,told)=>if lK (gE x1.text (pW x.text) s.pol)then .ok ⟨q,gE x1.text (pW x.text) s.pol,told⟩else .error ⟨x.at_,2⟩):=by show _=_;unfold nW;rw[h1];rfl
  obtain⟨R,hR⟩: ∃R,nW en a s=R:=⟨_,rfl⟩;rw[hR]at HW ⊢;clear hR h1 hq1 hn1;have hfl:=CM;simp only[Lx.agg]at HT1;obtain⟨t1,ht1⟩: ∃t:ByteArray,⟨x1.text.toArray⟩=t:=⟨_,rfl⟩;have HX1:Hid (t1=⟨x1.text.toArray⟩):=ht1.symm;rw[ht1]at HT1;clear ht1;go_enter Tryz.func47,Tryz.ntmps47;go_upto_region 1 with(go_at_call 42;(refine(HT1.out _ aG _ (oV (ts:=[kX,kT,lG]) (by simp) rfl rfl (by simp))).mono ?_);rintro e W1 ⟨rfl,hp1,hu1⟩;have HP1:=aA hp1;have HU1:=aA hu1;clear hp1 hu1)
  have HT2:=aA (show Calls aE 42 #[aM (some ⟨M+1,0,none⟩),aB aC 2,aF none 0 0] W1 _ from qX en M 2 q1 _ [] W1 HP1.out (Rd.nil _ _));clear HT1;cases h2:dE en 2 [] q1 with
  |error f=>
   rw[h2]at HT2 HW;have HR:Hid (R= .error f):=HW.out;clear h2 HW HPar HSm;go_wp2_with(go_at_call 42;(with_reducible refine HT2.out.mono ?_);rintro e W2 ⟨rfl,hb1⟩;have HB1:=aA hb1;clear hb1)
   refine⟨rfl, ?_⟩;rw[HR.out];exact⟨rfl,(HU1.out.below' hlt).trans HB1.out⟩
  |ok p=>
   obtain⟨x2,q2⟩:=p;rw[h2]at HT2 HW;have HT2:=aA (show Calls aE 42 #[aM (some ⟨M+1,0,none⟩),aB aC 2,aF none 0 0] W1 (λe w'=>e=aL x2.agg/\cI en M q2 w'/\cA M 0 W1 w')from HT2.out);obtain⟨hq2,hn2⟩:=tK h2;have HQ2:=aA hq2;have hx2:x2.kind=2:=by
    rw[hq2]at hn2;have hn3:(decide (x2.kind=2)&&true)=true:=hn2;simpa using hn3
   obtain⟨hd2,hd9⟩:=HNum.out x2 (by rw[HQ1.out,hq2];simp) hx2;have HNb:=aA (λW=>Ew x2.text W hd2 hd9);have HW:Hid (R=match iB en a (mY++[32]++x1.text) q2 s.told with
    | .error f=> .error f
    | .ok (q,told)=>if lK (gE x1.text (pW x2.text) s.pol)then .ok ⟨q,gE x1.text (pW x2.text) s.pol,told⟩else .error ⟨x2.at_,2⟩):=HW.out
   clear h2 hq2 hn2 hx2 hd2 hd9 HNum;simp only[Lx.agg]at HT2;generalize(⟨x2.text.toArray⟩:ByteArray)=t2 at*;generalize pW x2.text=nn at*;go_upto_region 2 with(go_at_call 42;(with_reducible refine HT2.out.mono ?_);rintro e W2 ⟨rfl,hp1,hu1⟩;have HP2:=aA hp1;have HU2:=aA hu1;clear hp1 hu1)
   refine dL λV2 hV2=> ?_;obtain⟨B,hB⟩: ∃B,W2.heap.size=B:=⟨_,rfl⟩;rw[hB];have hU3:=HU1.out.trans HU2.out;have hB1:W.heap.size<=B:=by rw[<-hB];exact hU3.turned.size
   have hBV:B<V2.heap.size:=by rw[hV2,<-hB];simp
   have hbel:Below W2.heap.size W2 V2:=by rw[hV2];exact aG
   have HU3:=aA (hU3.below om hbel);have HP3:=aA (HP2.out.grown hbel);have f1:V2.cell? ⟨B,1,none⟩=some (aB aC x2.at_):=by rw[hV2,<-hB];simp[go_sem]
   have f2:V2.cell? ⟨B,2,none⟩=some (aD t2):=by rw[hV2,<-hB];simp[go_sem]
   have hBM:B≠M+1:=by omega
   clear hV2 hB hbel HT2 HU1 HU2 HP1 HP2 hU3;have HPa:=aA (HPar.out.took HP3.out HU3.out);obtain⟨KS,hKS⟩: ∃KS,((⟨#[108,105,109,105,116,32]⟩:ByteArray)++t1)=KS:=⟨_,rfl⟩;have hKe:KS=⟨(mY++[32]++x1.text).toArray⟩:=by
    rw[<-hKS,HX1.out];apply yB;simp only[ByteArray.data_append,Array.toList_append];rfl
   have hl1:x1.text.length<=10000:=(HSm.out.txt x1 (by rw[HQ1.out];simp)).1;have hst:=HSm.out.told;have HOn0:=LJ en M a (mY++[32]++x1.text) ⟨q2,s.pol,s.told⟩ V2 HPa.out (by simp only[aZ,mY,aY,List.length_nil];omega) om (by show s.told.length<_;omega);rw[<-hKe]at HOn0;have HOn:=aA HOn0;have z1:t1.size<=10000:=by rw[HX1.out];show x1.text.toArray.size<=_;simpa using hl1
   clear HOn0 hKe HQ1 HQ2 HSm hst hl1;cases h4:iB en a (mY++[32]++x1.text) q2 s.told with
   |error f=>
    rw[h4]at HOn HW;have HR:Hid (R= .error f):=HW.out;clear h4 HW;go_wp2_with(go_at_call 45;(with_reducible refine HOn.out.mono ?_);rintro e W2 ⟨rfl,hb1⟩;have HB1:=aA hb1;clear hb1)
    refine⟨rfl, ?_⟩;rw[HR.out];exact⟨rfl,(HU3.out.below' hlt).trans HB1.out⟩
   |ok p=>
    obtain⟨q4,told4⟩:=p;rw[h4]at HOn HW;have HOn:=aA (show Calls aE 45 #[aM (some ⟨M+1,0,none⟩),aB aC a,aD KS] V2 (λe w'=>e=aL (aN #[])/\cW en M ⟨q4,s.pol,told4⟩ w'/\aJ (λb=>b=M\/b=M+1) V2 w'/\ ∀i,i≠0->w'.cell? ⟨M+1,i,none⟩=V2.cell? ⟨M+1,i,none⟩)from HOn.out);have HR:Hid (R=if lK (gE x1.text nn s.pol)then .ok ⟨q4,gE x1.text nn s.pol,told4⟩else .error ⟨x2.at_,2⟩):=HW.out;clear h4 HW;go_upto_region 3 with(go_at_call 45;(with_reducible refine HOn.out.mono ?_);rintro e W4 ⟨rfl,hp4,ht4,_⟩;have HP5:=aA hp4;have HT5:=aA ht4;clear hp4 ht4)
    have hB4:B<W4.heap.size:=bQ hBV HT5.out.size;have hBn: ¬(B=M\/B=M+1):=by omega
    have f1:=(World.cell?_of_block (a:=⟨B,1,none⟩) (HT5.out.block B hBV hBn)).trans f1;have f2:=(World.cell?_of_block (a:=⟨B,2,none⟩) (HT5.out.block B hBV hBn)).trans f2;have hb4:=(HU3.out.below' hlt).trans (HT5.out.below om (λk hk=>by omega):Below M V2 W4);have HB4:=aA hb4;have hl4:=HP5.out.r.lt;clear HOn HT5 HPa hBV HU3 HP3 hb4;go_upto_region 4 with(go_at_call 92;(with_reducible refine zG (HNb.out _) λX5=>?_))
    obtain⟨W5,hW5⟩: ∃W5,W4.grow X5=W5:=⟨_,rfl⟩;have hb5:Below W4.heap.size W4 W5:=by rw[<-hW5];exact aG
    rw[hW5];have HP6:=aA (HP5.out.grown hb5);have HB6:=aA (HB4.out.trans (hb5.mono om));have f1:=(hb5.cell hB4).trans f1;have hB5:B<W5.heap.size:=bQ hB4 hb5.size;clear hW5 HP5 HB4 hb5 f2 hB4 HT1 HT2 HPar HNb hl4;have x9:=HP6.out.c9;have x10:=HP6.out.c10;have x11:=HP6.out.c11;have hz:=HP6.out.r.fz;rcases HKd.out with hk|hk|hk
    .rw[hk]at HX1 HR;have ht1:=HX1.out;rw[show(⟨kX.toArray⟩:ByteArray)=⟨#[100,101,112,116,104]⟩from rfl]at ht1;subst ht1;have HS:=aA (HP6.out.setF (j:=9) (v:= aB aC nn) (p:=gE kX nn s.pol) om om  (λi=>by rcases i with _|_|_|_|_|_<;>exact⟨rfl,rfl⟩) rfl rfl rfl rfl);clear HKd HX1 hKS z1 hk;go_upto_region 10 with fail
     refine dL λV6 hV6=> ?_;have HP7:Hid (cW en M ⟨q4,gE kX nn s.pol,told4⟩ V6):=by show cW _ _ _ _;rw[hV6];exact HS.out.1
     have HB7:Hid (Below M W V6):=by show Below _ _ _;rw[hV6];exact HB6.out.trans HS.out.2
     have f1:V6.cell? ⟨B,1,none⟩=some (aB aC x2.at_):=by rw[hV6,World.cell?_setCell_other _ _ _ _ (by intro e;cases e)];exact f1
     have hB6:B<V6.heap.size:=World.block_lt_of_cell? V6 _ f1;clear hV6 HS x9 x10 x11 hz HP6 HB6;obtain⟨v0,v1,v2,v3,v4,v5,c2,c3,c4,c5,c6,c7,⟨A0,n0,k0,rfl⟩,⟨A1,n1,k1,rfl⟩,⟨A2,n2,k2,rfl⟩,⟨A3,n3,k3,rfl⟩,⟨A4,n4,k4,rfl⟩,⟨A5,n5,k5,rfl⟩⟩:=HP7.out.cells;have c8:=HP7.out.c8;have c9:=HP7.out.c9;have c10:=HP7.out.c10;have c11:=HP7.out.c11;generalize gE kX nn s.pol=P at*;have HL:=aA (λW=>FF (aF A0 n0 k0) (aF A1 n1 k1) (aF A2 n2 k2) (aF A3 n3 k3) (aF A4 n4 k4) (aF A5 n5 k5) P W);have hlM:=HP7.out.r.lt;cases hl:lK P with
     |true=>
      rw[hl]at HL HR;have HR:Hid (R= .ok ⟨q4,P,told4⟩):=HR.out;clear hl;go_wp2_with(go_at_call 59;(with_reducible refine zG (HL.out _) λX7=>?_))
      go_end0;rw[HR.out];have hb:Below V6.heap.size V6 (V6.grow X7):=aG;exact⟨rfl,HP7.out.grown hb,HB7.out.trans (hb.mono om)⟩
     |false=>
      rw[hl]at HL HR;have HR:Hid (R= .error ⟨x2.at_,2⟩):=HR.out;clear hl;go_wp2_with(go_at_call 59;(with_reducible refine zG (HL.out _) λX7=>?_))
      refine⟨rfl, ?_⟩;rw[HR.out];have hb:Below V6.heap.size V6 (V6.grow X7):=aG;exact⟨rfl,HB7.out.trans (hb.mono om)⟩
    .rw[hk]at HX1 HR;have ht1:=HX1.out;rw[show(⟨kT.toArray⟩:ByteArray)=⟨#[110,97,109,101]⟩from rfl]at ht1;subst ht1;have HS:=aA (HP6.out.setF (j:=10) (v:= aB aC nn) (p:=gE kT nn s.pol) om om  (λi=>by rcases i with _|_|_|_|_|_<;>exact⟨rfl,rfl⟩) rfl rfl rfl rfl);clear HKd HX1 hKS z1 hk;go_upto_region 10 with fail
     refine dL λV6 hV6=> ?_;have HP7:Hid (cW en M ⟨q4,gE kT nn s.pol,told4⟩ V6):=by show cW _ _ _ _;rw[hV6];exact HS.out.1
     have HB7:Hid (Below M W V6):=by show Below _ _ _;rw[hV6];exact HB6.out.trans HS.out.2
     have f1:V6.cell? ⟨B,1,none⟩=some (aB aC x2.at_):=by rw[hV6,World.cell?_setCell_other _ _ _ _ (by intro e;cases e)];exact f1
     have hB6:B<V6.heap.size:=World.block_lt_of_cell? V6 _ f1;clear hV6 HS x9 x10 x11 hz HP6 HB6;obtain⟨v0,v1,v2,v3,v4,v5,c2,c3,c4,c5,c6,c7,⟨A0,n0,k0,rfl⟩,⟨A1,n1,k1,rfl⟩,⟨A2,n2,k2,rfl⟩,⟨A3,n3,k3,rfl⟩,⟨A4,n4,k4,rfl⟩,⟨A5,n5,k5,rfl⟩⟩:=HP7.out.cells;have c8:=HP7.out.c8;have c9:=HP7.out.c9;have c10:=HP7.out.c10;have c11:=HP7.out.c11;generalize gE kT nn s.pol=P at*;have HL:=aA (λW=>FF (aF A0 n0 k0) (aF A1 n1 k1) (aF A2 n2 k2) (aF A3 n3 k3) (aF A4 n4 k4) (aF A5 n5 k5) P W);have hlM:=HP7.out.r.lt;cases hl:lK P with
     |true=>
      rw[hl]at HL HR;have HR:Hid (R= .ok ⟨q4,P,told4⟩):=HR.out;clear hl;go_wp2_with(go_at_call 59;(with_reducible refine zG (HL.out _) λX7=>?_))
      go_end0;rw[HR.out];have hb:Below V6.heap.size V6 (V6.grow X7):=aG;exact⟨rfl,HP7.out.grown hb,HB7.out.trans (hb.mono om)⟩
     |false=>
      rw[hl]at HL HR;have HR:Hid (R= .error ⟨x2.at_,2⟩):=HR.out;clear hl;go_wp2_with(go_at_call 59;(with_reducible refine zG (HL.out _) λX7=>?_))
      refine⟨rfl, ?_⟩;rw[HR.out];have hb:Below V6.heap.size V6 (V6.grow X7):=aG;exact⟨rfl,HB7.out.trans (hb.mono om)⟩
    .rw[hk]at HX1 HR;have ht1:=HX1.out;rw[show(⟨lG.toArray⟩:ByteArray)=⟨#[118,97,108,117,101]⟩from rfl]at ht1;subst ht1;have HS:=aA (HP6.out.setF (j:=11) (v:= aB aC nn) (p:=gE lG nn s.pol) om om  (λi=>by rcases i with _|_|_|_|_|_<;>exact⟨rfl,rfl⟩) rfl rfl rfl rfl);clear HKd HX1 hKS z1 hk;go_upto_region 10 with fail
     refine dL λV6 hV6=> ?_;have HP7:Hid (cW en M ⟨q4,gE lG nn s.pol,told4⟩ V6):=by show cW _ _ _ _;rw[hV6];exact HS.out.1
     have HB7:Hid (Below M W V6):=by show Below _ _ _;rw[hV6];exact HB6.out.trans HS.out.2
     have f1:V6.cell? ⟨B,1,none⟩=some (aB aC x2.at_):=by rw[hV6,World.cell?_setCell_other _ _ _ _ (by intro e;cases e)];exact f1
     have hB6:B<V6.heap.size:=World.block_lt_of_cell? V6 _ f1;clear hV6 HS x9 x10 x11 hz HP6 HB6;obtain⟨v0,v1,v2,v3,v4,v5,c2,c3,c4,c5,c6,c7,⟨A0,n0,k0,rfl⟩,⟨A1,n1,k1,rfl⟩,⟨A2,n2,k2,rfl⟩,⟨A3,n3,k3,rfl⟩,⟨A4,n4,k4,rfl⟩,⟨A5,n5,k5,rfl⟩⟩:=HP7.out.cells;have c8:=HP7.out.c8;have c9:=HP7.out.c9;have c10:=HP7.out.c10;have c11:=HP7.out.c11;generalize gE lG nn s.pol=P at*;have HL:=aA (λW=>FF (aF A0 n0 k0) (aF A1 n1 k1) (aF A2 n2 k2) (aF A3 n3 k3) (aF A4 n4 k4) (aF A5 n5 k5) P W);have hlM:=HP7.out.r.lt;cases hl:lK P with
     |true=>
      rw[hl]at HL HR;have HR:Hid (R= .ok ⟨q4,P,told4⟩):=HR.out;clear hl;go_wp2_with(go_at_call 59;(with_reducible refine zG (HL.out _) λX7=>?_))
      go_end0;rw[HR.out];have hb:Below V6.heap.size V6 (V6.grow X7):=aG;exact⟨rfl,HP7.out.grown hb,HB7.out.trans (hb.mono om)⟩
     |false=>
      rw[hl]at HL HR;have HR:Hid (R= .error ⟨x2.at_,2⟩):=HR.out;clear hl;go_wp2_with(go_at_call 59;(with_reducible refine zG (HL.out _) λX7=>?_))
      refine⟨rfl, ?_⟩;rw[HR.out];have hb:Below V6.heap.size V6 (V6.grow X7):=aG;exact⟨rfl,HB7.out.trans (hb.mono om)⟩
theorem Ry {P:Program} {W:World} {ops:Array Oper} {rest:List Oper} {o:Oper} {a:Act} {Q:Exit->Act->World->Prop} (hgd:o.guard=none) (s x:Operand) (t:TypeId)
  (ho:o.op= .call {callee:= .builtin .append,args:= #[s,x],argTypes:= #[t,t]})
  {e:TypeId} {z:Value} {size bytes:Nat} (row:jX P t e z size bytes) (base:Nat) {v:Value} {n:Nat} {xs:List Value} (hs:a.eval s=v) (hown:W.ownsRow base e size v n xs)
  (hb:base<=W.heap.size) (ad:Addr) (m c:Nat) (news:List Value) (hx:a.eval x=aF (some ad) m c) (hl:news.length=m*size)
  (hnews: ∀j u,news[j]? =some u->W.cell? (ad.add j)=some u) (h1: ∀u∈news,u.oneCell'=true) (h63:n+m<=maxLen) (hbytes:(n+m)*bytes<=140737488355328)
  (h: ∀v' W',W'.ownsRow base e size v' (n+m) (xs++news)->W.grownBy W' v.ownBlock->(v'.ownBlock=v.ownBlock\/v'.ownBlock=some W.heap.size)->wpList P ops Q rest (a.put o.dst v') W'):wpList P ops Q (o::rest) a W:=by
 obtain⟨i,hi,hz0,hz1,hz2⟩:=info_parts row.hi;exact wpList_append_own_at W hgd s x t ho base e i z size bytes row.ht hi hz0 hz1 hz2 row.hzs row.hsz v n xs hs hown ad m c news hx hl hnews h1 h63 hbytes hb λv' w' h2 h3 _ h5=>h v' w' h2 h3 h5
theorem yP {en:Nat} {l q:List Lx} {ws:List Bs} (h:eP en l= .ok (ws,q)):ws.length+q.length<l.length/\1<=ws.length:=by
 unfold eP at h;split at h
 .cases h
 .next x r ht=>
  obtain⟨rfl,_⟩:=iI ht;split at h
  .cases h
  .next us q2 hm=>
   cases h;unfold pZ at hm;split at hm
   .cases hm
   .next y q3 ht2=>
    cases hm;obtain⟨h3,_⟩:=iI ht2;have h4:=congrArg List.length (List.takeWhile_append_dropWhile (p:=cD 1 []) (l:=r));rw[aZ,h3]at h4;simp only[aY,List.length_map]at h4 ⊢;omega
def iU (p:aO) (tag:Bs) (ws:List Bs):aO:={p with attrs:=p.attrs++ws.map (λn=>⟨tag,n⟩)}
theorem Sp (p:aO) (tag:Bs):iU p tag []=p:=by unfold iU;simp
theorem Sn (p:aO) (tag:Bs) (ws:List Bs) (n:Bs):fN (iU p tag (ws++[n])) 4=fN (iU p tag ws) 4+1/\fC (iU p tag (ws++[n])) 4=fC (iU p tag ws) 4++[sv tag,sv n]:=by
 constructor
 .simp[fN,iU];omega
 .simp[fC,iU,aW.cells]
theorem So (p:aO) (tag:Bs) (ws us:List Bs) (i:Nat) (hi:i<6) (h4:i≠4):fN (iU p tag us) i=fN (iU p tag ws) i/\fC (iU p tag us) i=fC (iU p tag ws) i:=by
 match i,h4 with
 |0,_=>exact⟨rfl,rfl⟩
 |1,_=>exact⟨rfl,rfl⟩
 |2,_=>exact⟨rfl,rfl⟩
 |3,_=>exact⟨rfl,rfl⟩
 |4,h=>exact absurd rfl h
 |5,_=>exact⟨rfl,rfl⟩
 |i+6,_=>exact absurd hi om
theorem Sq (p:aO) (tag:Bs) (ws:List Bs):fN (iU p tag ws) 4=fN p 4+ws.length:=by simp[fN,iU]
theorem Rq (en M:Nat) (s:Ps) (W:World) (h:cW en M s W) (hs:nF s):
  Calls aE 44 #[aM (some ⟨M+1,0,none⟩)] W (vF M W (sN en s) λt e w'=>e=aL (aN #[])/\cW en M t w'/\Below M W w'):=by
 have hmx:=bX;have hlt:=h.r.lt;have HN1:=aA (λW' (hb:Below W.heap.size W W') v (hv:Rd W' v [[42]].length 1 ([[42]].map sv))=>show Calls aE 90 #[aM (some ⟨M+1,0,none⟩),aB aC 4,v] W' _ from BR en M s.rest 4 v [[42]] W' (h.r.grown hb) hv);have HN2:=aA (λW' (hb:Below W.heap.size W W')=>show Calls aE 90 #[aM (some ⟨M+1,0,none⟩),aB aC 1,aF none 0 0] W' _ from BR en M s.rest 1 _ [] W' (h.r.grown hb) (Rd.nil _ _));have HAt:=aA (λW' (hb:Below W.heap.size W W')=>ZN en M s.rest W' (h.r.grown hb));have HPar:=aA h;have HSm:=aA hs;obtain⟨R,hR⟩: ∃R,sN en s=R:=⟨_,rfl⟩;have HW:Hid (R=if bM 4 [[42]] s.rest||bM 1 [] s.rest then
  match s.rest with
  |[]=> .error ⟨en,2⟩
  |x::r=>match dE en 4 [[58]] r with
   | .error f=> .error f
   | .ok (_,q)=>match eP en q with
    | .error f=> .error f
    | .ok (ws,q)=> .ok ⟨q,{s.pol with attrs:=s.pol.attrs++ws.map (λn=>⟨x.text,n⟩)},s.told⟩
  else .error ⟨sO en s.rest,2⟩):=by show _=_;rw[<-hR];rfl
 rw[hR];clear h hs hR;cases hn0:(bM 4 [[42]] s.rest||bM 1 [] s.rest)with
 |false=>
  obtain⟨hb1,hb2⟩:=Bool.or_eq_false_iff.1 hn0;have HR:Hid (R= .error ⟨sO en s.rest,2⟩):=by show _=_;rw[HW.out,hn0];rfl
  rw[hb1]at HN1;rw[hb2]at HN2;generalize sO en s.rest=ap at*;clear hn0 hb1 hb2 HW HPar HSm;go_enter Tryz.func44,Tryz.ntmps44;go_wp2_with(first
   |(go_at_call 90;(with_reducible refine(HN1.out _ ?_ _ ?_).mono ?_);(exact aG);(exact oV (ts:=[[42]]) (by simp) rfl rfl (by simp));rintro e w' ⟨rfl,rfl⟩)
   |(go_at_call 90;(with_reducible refine zQ (HN2.out _ aG) ?_))
   |(go_at_call 91;(with_reducible refine zQ (HAt.out _ aG) ?_)))
  refine⟨rfl, ?_⟩;rw[HR.out];exact⟨rfl,aG⟩
 |true=>
  have HV:Hid (R=match s.rest with
   |[]=> .error ⟨en,2⟩
   |x::r=>match dE en 4 [[58]] r with
    | .error f=> .error f
    | .ok (_,q)=>match eP en q with
     | .error f=> .error f
     | .ok (ws,q)=> .ok ⟨q,{s.pol with attrs:=s.pol.attrs++ws.map (λn=>⟨x.text,n⟩)},s.told⟩):=by show _=_;rw[HW.out,hn0];rfl
  obtain⟨x,r,hx⟩: ∃x r,s.rest=x::r:=by
   cases hr:s.rest with
   |nil=>rw[hr]at hn0;cases hn0
   |cons x r=>exact⟨x,r,rfl⟩
  have HX:=aA hx;have HT:Hid (R=match dE en 4 [[58]] r with
    | .error f=> .error f
    | .ok (_,q)=>match eP en q with
     | .error f=> .error f
     | .ok (ws,q)=> .ok ⟨q,iU s.pol x.text ws,s.told⟩):=by show _=_;rw[HV.out,hx];rfl
  clear HW HV;have hr0:=HPar.out.r;rw[hx]at hr0;have hrt:dE en x.kind [] (x::r)= .ok (x,r):=by simp[dE,cD]
  have HT1:=aA (λW' (hb:Below W.heap.size W W')=>show Calls aE 42 #[aM (some ⟨M+1,0,none⟩),aB aC x.kind,aF none 0 0] W' (λe w'=>e=aL x.agg/\cI en M r w'/\cA M 0 W w') by
   have h9:=wZ hr0 hb om (qX en M x.kind (x::r) _ [] W' (hr0.grown hb) (Rd.nil _ _));rw[hrt]at h9;exact h9)
  obtain⟨A,c,hc,hcl,A',c',he,_,hrd,_⟩:=hr0.rest;cases he;obtain⟨b,off,rfl,hb,x0,_,_⟩:=Rd.lx hrd;have hp:0<(x::r).length:=by simp
  generalize(x::r).length=N at*;have HK1:Hid (bM 4 [[42]] s.rest=true\/(bM 4 [[42]] s.rest=false/\bM 1 [] s.rest=true)):=by
   show _\/_;revert hn0;cases bM 4 [[42]] s.rest<;>cases bM 1 [] s.rest<;>simp
  have HSx:Hid (sv x.text=aD ⟨x.text.toArray⟩):=rfl;simp only[Lx.agg]at HT1;generalize(⟨x.text.toArray⟩:ByteArray)=t1 at*;clear hx hn0 hr0 hrt hrd;have hfl:=CM;rcases HK1.out with hb1|⟨hb1,hb2⟩
  all_goals
   rw[hb1]at HN1;try rw[hb2]at HN2
   clear HK1;go_enter Tryz.func44,Tryz.ntmps44;go_upto_region 3 with(first
    |(go_at_call 90;(with_reducible refine(HN1.out _ ?_ _ ?_).mono ?_);(exact aG);(exact oV (ts:=[[42]]) (by simp) rfl rfl (by simp));rintro e w' ⟨rfl,rfl⟩)
    |(go_at_call 90;(with_reducible refine zQ (HN2.out _ aG) ?_))
    |(go_at_call 42;(with_reducible refine(HT1.out _ aG).mono ?_);rintro e W1 ⟨rfl,hp1,hu1⟩;have HP1:=aA hp1;have HU1:=aA hu1;clear hp1 hu1))
   have HTc:=aA (λW' (hb:Below W1.heap.size W1 W') v (hv:Rd W' v [[58]].length 1 ([[58]].map sv))=>show Calls aE 42 #[aM (some ⟨M+1,0,none⟩),aB aC 4,v] W' _ from wZ HP1.out hb (by have:=HU1.out.turned.size;omega) (qX en M 4 r v [[58]] W' (HP1.out.grown hb) hv));clear HN1 HN2 HAt HT1 hb1 x0 hc hcl;cases h2:dE en 4 [[58]] r with
   |error f=>
    rw[h2]at HTc HT;have HR:Hid (R= .error f):=HT.out;clear h2 HT HPar HSm;go_wp2_with(go_at_call 42;(refine(HTc.out _ aG _ (oV (ts:=[[58]]) (by simp) rfl rfl (by simp))).mono ?_);rintro e W1 ⟨rfl,hb1⟩;have HB1:=aA hb1;clear hb1)
    refine⟨rfl, ?_⟩;rw[HR.out];exact⟨rfl,(HU1.out.below' hlt).trans HB1.out⟩
   |ok p=>
    obtain⟨y,q2⟩:=p;rw[h2]at HTc HT;have HTd:=aA (λW' hb v hv=>show Calls aE 42 #[aM (some ⟨M+1,0,none⟩),aB aC 4,v] W' (λe w'=>e=aL y.agg/\cI en M q2 w'/\cA M 0 W1 w')from HTc.out W' hb v hv);have HT3:Hid (R=match eP en q2 with
     | .error f=> .error f
     | .ok (ws,q)=> .ok ⟨q,iU s.pol x.text ws,s.told⟩):=HT.out
    obtain⟨hq2,_⟩:=tK h2;have HQ2:=aA hq2;clear h2 hq2 HT HTc;go_upto_region 4 with(go_at_call 42;(refine(HTd.out _ aG _ (oV (ts:=[[58]]) (by simp) rfl rfl (by simp))).mono ?_);rintro e W2 ⟨rfl,hp1,hu1⟩;have HP2:=aA hp1;have HU2:=aA (HU1.out.trans hu1);clear hp1 hu1)
    have HWd0:=AQ en M q2 W2 HP2.out (by have:=HSm.out.told;have:=HX.out;have:=HQ2.out;rw[HX.out,HQ2.out]at*;simp only[aY]at*;omega);have HWd:=aA HWd0;clear HWd0;cases h3:eP en q2 with
    |error f=>
     rw[h3]at HWd HT3;have HR:Hid (R= .error f):=HT3.out;clear h3 HT3 HPar HSm;go_wp2_with(go_at_call 43;(with_reducible refine HWd.out.mono ?_);rintro e W1 ⟨rfl,hb1⟩;have HB1:=aA hb1;clear hb1)
     refine⟨rfl, ?_⟩;rw[HR.out];exact⟨rfl,(HU2.out.below' hlt).trans HB1.out⟩
    |ok p=>
     obtain⟨ws,q3⟩:=p;rw[h3]at HWd HT3;have HWd:=aA (show Calls aE 43 #[aM (some ⟨M+1,0,none⟩)] W2 (λe w'=> ∃v,e=aL v/\w'.ownsRow W2.heap.size 9 1 v ws.length (ws.map sv)/\cI en M q3 w'/\cA M 0 W2 w')from HWd.out);have HR:Hid (R= .ok ⟨q3,iU s.pol x.text ws,s.told⟩):=HT3.out;obtain⟨hc1,hc2⟩:=yP h3;have hbd:fN s.pol 4+ws.length<=20000:=by
      have h5:=HSm.out.rows 4;rw[HX.out,HQ2.out]at h5;simp only[aY]at h5;omega
     clear h3 HT3 HSm HQ2 HX hc1;obtain⟨n,hn⟩: ∃n,ws.length=n:=⟨_,rfl⟩;have HN:=aA hn;rw[hn]at hc2 hbd HWd;clear hn;go_upto_region 5 with(go_at_call 43;(with_reducible refine HWd.out.mono ?_);rintro e W3 ⟨vw,rfl,ho,hp1,hu1⟩;have HP3:=aA hp1;have HU3:=aA (HU2.out.trans hu1);have HO3:=aA ho;obtain⟨Aw,cw,rfl,_⟩:=dF ho;clear hp1 hu1 ho)
     have HPs:=aA (HPar.out.took HP3.out HU3.out);have HB3:=aA (HU3.out.below' hlt);have hA: ∃bw ow,Aw=some ⟨bw,ow,none⟩:=by
      obtain⟨_,_,A,c,e,h4⟩:=Rd.own HO3.out;cases e;obtain⟨b,off,e,_⟩:=h4 om;exact⟨b,off,e⟩
     obtain⟨bw,ow,rfl⟩:=hA;have hs2:=HU2.out.turned.size;clear HWd HPar HTd HU3 HP3 HP2 HU1 HP1;go_loopw [34] (λi wr=> ∃k,k<=n/\i=aB aC (k:Nat)/\Hid (cW en M ⟨q3,iU s.pol x.text (ws.take k),s.told⟩ wr)/\Hid (wr.ownsRow W2.heap.size 9 1 (aF (some ⟨bw,ow,none⟩) n cw) n (ws.map sv))/\Hid (Below M W wr)) (λi _=>n-(intOf i).toNat)
     case atStart=>exact⟨0,by omega,rfl,by show cW _ _ _ _;rw[List.take_zero,Sp];exact HPs.out,HO3.out,HB3.out⟩
     case round=>
      clear HPs HO3 HB3;obtain⟨k,hk,rfl,HPk,HOk,HBk⟩:=hrel;by_cases hlt2:k<n
      .have hks:k<ws.length:=by rw[HN.out];exact hlt2
       obtain⟨w,hw⟩: ∃w,ws[k]=w:=⟨_,rfl⟩;have htk:ws.take (k+1)=ws.take k++[w]:=by rw[jG hks,hw]
       have hcw:wr.cell? ⟨bw,ow+k,none⟩=some (sv w):=by
        obtain⟨_,_,A,c,e,h4⟩:=Rd.own HOk.out;cases e;obtain⟨b,off,e,_,hc⟩:=h4 om;cases e;exact hc k (sv w) (by simp[hks,hw])
       have hbw:bw<wr.heap.size:=World.block_lt_of_cell? wr _ hcw;have HTk:=aA htk;have HSw:Hid (sv w=aD ⟨w.toArray⟩):=rfl;rw[HSw.out]at hcw;generalize(⟨w.toArray⟩:ByteArray)=tw at*;obtain⟨v4,hv4,hov⟩:=HPk.out.row 4 om;have hln:fN (iU s.pol x.text (ws.take k)) 4=fN s.pol 4+k:=by rw[Sq,List.length_take];omega
       have hov2:wr.ownsRow (M+2) 65 2 v4 (fN (iU s.pol x.text (ws.take k)) 4) (fC (iU s.pol x.text (ws.take k)) 4):=hov;obtain⟨m,hm⟩: ∃m,fN (iU s.pol x.text (ws.take k)) 4=m:=⟨_,rfl⟩;rw[hm]at hov2;have HM:=aA hm;have hm9:m<=20000:=by omega
       have HOv:=aA hov2;obtain⟨A4,c4,rfl,_⟩:=dF hov2;have hl4:=HPk.out.r.lt;have hz:=HPk.out.r.fz 6;have h26:wr.cell? ⟨M+1,6,none⟩=some (aF A4 m c4):=hv4;have hM4: ∀b,(aF A4 m c4).ownBlock=some b->M+2<=b:=λb hb=>(HOv.out.lt b hb).1;have HM4:=aA hM4;clear hov hov2 hm hln htk hw hv4 hM4;go_wp2_with(at_builtin;refine Ry (v:= aF A4 m c4) rfl _ _ 45 rfl RV (M+2) rfl (HOv.out.alloc _) (by simp[go_sem]<;>omega) ⟨_,0,none⟩ 1 1 [aD t1,aD tw] rfl rfl (eR (c:= #[aD t1,aD tw]) (by simp[go_sem])) (by simp[Value.oneCell']) (by unfold maxLen;omega) om ?_;intro v6 W6 ho6 hg6 hat6;obtain⟨A6,c6,rfl,_⟩:=dF ho6;have hb5:Below wr.heap.size wr (wr.alloc (.cells #[aD t1,aD tw] 65)):=aG;have hgT:aJ (λb=>(aF A4 m c4).ownBlock=some b) (wr.alloc (.cells #[aD t1,aD tw] 65)) W6:=⟨hg6.os,hg6.tape,hg6.output,hg6.size,λk hk hn=>hg6.block k hk (λe=>hn e.symm)⟩;have hnM: ¬(aF A4 m c4).ownBlock=some (M+1):=(λe=>by have:=HM4.out _ e;omega);have hM5:M+1<(wr.alloc (.cells #[aD t1,aD tw] 65)).heap.size:=(by have:=hb5.size;omega);have k6:=(World.cell?_of_block (a:=⟨M+1,6,none⟩) (hgT.block _ hM5 hnM)).trans ((hb5.cell hl4).trans h26);have kf:=(World.frozen?_of_block (a:=⟨M+1,6,none⟩) (hgT.block _ hM5 hnM)).trans ((World.frozen?_of_block (hb5.block _ hl4)).trans hz);have HT6:=aA ((aJ.of_below hb5).trans hgT);have HO6:=aA ho6;have HA6:=aA hat6;clear hg6 hgT hnM hM5 ho6 hat6 hb5)
       go_roundw
       case rel=>
        have e9:=Sn s.pol x.text (ws.take k) w;have h9:=HPk.out.put (j:=4) (p:=iU s.pol x.text (ws.take (k+1))) om h26 HT6.out (by rw[HTk.out,e9.1,e9.2,HM.out,HSx.out,HSw.out];exact HO6.out) (HA6.out.imp (λh=>h) (λh=>⟨_,h,by have:=(aG:Below wr.heap.size wr (wr.alloc (.cells #[aD t1,aD tw] 65))).size;omega⟩)) (λi hi hij=>So s.pol x.text (ws.take k) (ws.take (k+1)) i hi hij) rfl rfl rfl rfl;refine⟨k+1,by omega,by go_num,h9.1, ?_,HBk.out.trans h9.2⟩;have hov:=HOv.out;show World.ownsRow _ _ _ _ _ _ _;have ho1:=xK HT6.out HOk.out (λb hb hx=>UF HOk.out hov dc b hb hx);exact xK (aJ.setCell (pv:=λb=>b=M+1) (p:=⟨M+1,6,none⟩) (aJ.refl _ W6) (.inr rfl) _) ho1 (λb hb hx=>by have:=(HOk.out.lt b hb).1;omega)
       case measure=>simp[intOf];omega
      .have HE:Hid (ws.take k=ws):=fI (by rw[HN.out];omega);go_wp2_with fail
       go_end0;rw[HR.out];rw[HE.out]at HPk;exact⟨rfl,HPk.out,HBk.out⟩
