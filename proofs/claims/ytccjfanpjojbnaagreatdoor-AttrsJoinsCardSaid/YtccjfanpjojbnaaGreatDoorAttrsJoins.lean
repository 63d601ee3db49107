/- Attributes behind others that are told change nothing of these; what has a name that was told is left out: AttrsJoins returns true. No condition: whatever the arguments. -/
import Derived.LaidMore
import Derived.Lay
import Derived.Test.YtccjfanpjojbnaaGreatDoorCards
import Derived.Test.YtccjfanpjojbnaaGreatDoorTie
import Derived.Test.YtccjfanpjojbnaaGreatDoorAttF
namespace Go.Proofs.YtccjfanpjojbnaaGreatDoor.attrsJoins
open Lib renaming hid→aA
open List renaming flatMap_append→nL,length_append→aZ,setIfInBounds_toArray→aU,set_cons_succ→aV,set_cons_zero→aT
open Nat renaming lt_of_lt_of_le→bQ
open Go.Proofs.Tryz renaming f4→zh,prog→aE,underlying9→dH
set_option maxRecDepth 100000
set_option maxHeartbeats 16000000
open Go.ChangeShapes Go.WideShapes Go.ChangeAt Go.RowKit
open Go.ChangeMaps (open_string shut_string)
theorem own:ownKnob aE.godebug=none:=by kernel_rfl
theorem laidOut:laidOutB aE=true:=by kernel_rfl
theorem filt_len (P:aO) (t:Bs) (l:List (Bs × Bs)):(dB P t l).length<=l.length+(cM P t).length:=by
 unfold dB;have:=uO P t l (bT (cM P t));split
 .rw[aZ];omega
 .exact Nat.zero_le _
theorem twoA_open {H:Type} {enc:TypeId × Value->H} {w:World} {base:Nat} {spare:Nat->Bool} {held:Bool} {fuel:Nat} {cs:List Value} {x:DataW H × List MemPlace} (h:DataW.trod enc aE w base spare held fuel 38 cs=some x):
  ∃A n c B m d,cs=[.slice A n c,.slice B m d]/\(∃fu y,DataW.trod enc aE w base spare held fu 22 [.slice A n c]=some y)/\ ∃fu y,DataW.trod enc aE w base spare held fu 22 [.slice B m d]=some y:=by
 have hC:aE.cellsOf 38=2:=by kernel_rfl
 have hE:aE.cellsOf 22=1:=by kernel_rfl
 obtain⟨xs,m,_,_,hlc,hl,hi⟩:=DataW.trod_array Tryz.underlying38 h;have h0:=hi 0 om;have h1:=hi 1 om;rw[hC]at hlc;rw[hE,List.getElem?_eq_getElem om]at h0 h1;have one: ∀{fu v y},DataW.trod enc aE w base spare held fu 22 [v]=some y-> ∃A n c,v= .slice A n c:=λh=>by
  rcases DataW.trod_slice Tryz.underlying22 h with⟨e,_⟩|⟨_,_,_,_,_,_,_,e,_⟩<;>cases e<;>exact⟨_,_,_,rfl⟩
 match cs,hlc,h0,h1 with
 |[u,v],_,h0,h1=>
  obtain⟨A,n,c,rfl⟩:=one h0;obtain⟨B,k,d,rfl⟩:=one h1;exact⟨A,n,c,B,k,d,rfl,⟨_,_,h0⟩,_,_,h1⟩
theorem rd_take {w:World} {A:Option Addr} {c n:Nat} {l:List (Bs × Bs)} (h:Rd w (.slice A l.length c) l.length 2 (l.flatMap eA)) (hn:n<=l.length):Rd w (.slice A n c) (l.take n).length 2 ((l.take n).flatMap eA):=by
 obtain⟨h1,h2,A',c',e,h3⟩:=h;cases e;have e1:(l.take n).length=n:=by rw[List.length_take];omega
 refine⟨oY eA 2 (λ_=>rfl) _,by omega,A,c,by rw[e1],λhp=> ?_⟩;obtain⟨b,off,e2,hb,hc⟩:=h3 om;refine⟨b,off,e2,hb,λj u hu=>hc j u ?_⟩;rw[show l.flatMap eA=(l.take n).flatMap eA++(l.drop n).flatMap eA by rw[<-nL,List.take_append_drop],List.getElem?_append_left (List.getElem?_eq_some_iff.1 hu).1];exact hu
theorem okWide_twoA {r:Reach} {w:World} {b0:Nat} {v:Value} (hv:Value.okWide aE w r b0 38 v): ∃cs,v= .agg cs:=by
 simp only[Value.okWide,Tryz.underlying38]at hv;obtain⟨cs,h1,_⟩:=hv;exact⟨cs,h1⟩
theorem twoA_none {H:Type} {enc:TypeId × Value->H} {w:World} {base:Nat} {spare:Nat->Bool} {held:Bool} {fuel:Nat} {A:Option Addr} {n c:Nat} {x:DataW H × List MemPlace} (h:DataW.trod enc aE w base spare held fuel 22 [.slice A n c]=some x):A=none->c=0:=by
 rintro rfl;rcases DataW.trod_slice Tryz.underlying22 h with⟨e,_⟩|⟨_,_,_,_,_,_,_,e,_⟩<;>cases e
 rfl
theorem app_row {W:World} {o:Oper} {a:Act} {K:Act->World->Prop} {Q:Exit->Act->World->Prop} (s x:Operand) (t:TypeId)
  (ho:o.op= .call {callee:= .builtin .append,args:= #[s,x],argTypes:= #[t,t]})
  {e:TypeId} {z:Value} {size bytes:Nat} (row:jX aE t e z size bytes) (w0:World) {v:Value} {n:Nat} {xs:List Value} (hs:a.eval s=v) (hown:W.ownsRow w0.heap.size e size v n xs)
  (hb:Below w0.heap.size w0 W) (m:Nat) (news:List Value)
  (hx:(a.eval x= .slice none 0 0/\m=0)\/ ∃ad c,a.eval x= .slice (some ad) m c/\ ∀j u,news[j]? =some u->W.cell? (ad.add j)=some u) (hl:news.length=m*size)
  (h1: ∀u∈news,u.oneCell'=true) (h63:n+m<=maxLen) (hbytes:(n+m)*bytes<=140737488355328)
  (h: ∀v' W',W'.ownsRow w0.heap.size e size v' (n+m) (xs++news)->Below w0.heap.size w0 W'->K (a.put o.dst v') W'):Oper.wp aE o a W K Q:=by
 obtain⟨i,hi,hz0,hz1,hz2⟩:=info_parts row.hi;rcases hx with⟨hx,rfl⟩|⟨ad,c,hx,hnews⟩
 .have:news=[]:=List.eq_nil_of_length_eq_zero (by rw[hl,Nat.zero_mul]);subst this;have hrun:=run_append_owned_none (P:=aE) (w:=W) w0.heap.size t o.type e i size row.ht hi v n xs hown;unfold Oper.wp;simp[execOp,ho,resolve,invoke,builtin,hs,hx,hrun,Result.andThen];exact h v W (by simpa using hown) hb
 .exact wp_append_own W s x t ho w0.heap.size e i z size bytes row.ht hi hz0 hz1 hz2 row.hzs row.hsz v n xs hs hown ad m c news hx hl hnews h1 h63 hbytes hb.size λv' w' h2 h3 _=>h v' w' h2 (sE h3 hown hb)
theorem walk (t tag:ByteArray) (A:Option Addr) (c:Nat) (l:List (Bs × Bs)) (B:Option Addr) (d:Nat) (m:List (Bs × Bs)) (w:World) (hU:U8 w) (hT:Tb w) (hX:Mx w) (_ht:t.size<=maxLen) (_hg:tag.size<=maxLen) (h:Rd w (.slice A l.length c) l.length 2 (l.flatMap eA)) (hz: ∀a∈l,a.1.length<=maxLen/\a.2.length<=maxLen) (hn:A=none->c=0) (h':Rd w (.slice B m.length d) m.length 2 (m.flatMap eA)) (hz': ∀a∈m,a.1.length<=maxLen/\a.2.length<=maxLen) (hn':B=none->d=0):Calls aE 4 #[.string t,.string tag,.agg #[.slice A l.length c,.slice B m.length d]] w (aH (.bool true) w):=by
 have hmx:=bX;have HT:=aA (λW (hb:Below w.heap.size w W)=>And.intro (hU.below hb) (And.intro (Tb.below hT hb) (Mx.below hX hb)));have HIn:=aA h;have HIm:=aA h';have HNl:=aA hn;have HNm:=aA hn';have hF1:=λW (hb:Below w.heap.size w W)=>GD A l.length c l W (h.bel hb) hz;have hF2:=λW (hb:Below w.heap.size w W)=>GD B m.length d m W (h'.bel hb) hz';have hfl:= @GC l;have hfm:= @GC m;clear hU hT hX h h' hz hz' hn hn';generalize uT l=D1 at*;generalize uT m=D2 at*;obtain⟨bx,hbx⟩: ∃b,w.heap.size=b:=⟨_,rfl⟩;go_enter Tryz.func4,Tryz.ntmps4;go_upto_region 1 with fail
 refine dL λW0 hW0=> ?_;have HB0:Hid (Below w.heap.size w W0):=by show Below _ _ _;rw[hW0];exact aG
 have q0:W0.cell? ⟨bx,0,none⟩=some (.slice A l.length c):=by rw[hW0,<-hbx];simp[go_sem]
 have q1:W0.cell? ⟨bx,1,none⟩=some (.slice B m.length d):=by rw[hW0,<-hbx];simp[go_sem]
 have hx0:bx<W0.heap.size:=by rw[hW0,<-hbx];simp
 have HAw:=aA (λW (hb:Below W0.heap.size W0 W)=>NX W (HT.out W (aP HB0.out hb)).1 (HT.out W (aP HB0.out hb)).2.1 (HT.out W (aP HB0.out hb)).2.2);have HF1:=aA (λW (hb:Below W0.heap.size W0 W)=>hF1 W (aP HB0.out hb));have HF2:=aA (λW (hb:Below W0.heap.size W0 W)=>hF2 W (aP HB0.out hb));clear hF1 hF2 hW0 hbx;have hgood:(D1=false\/D1=true/\D2=false\/D1=true/\D2=true/\9000<t.size\/D1=true/\D2=true/\ ¬9000<t.size/\200<tag.size)\/D1=true/\D2=true/\ ¬9000<t.size/\ ¬200<tag.size:=by
  cases D1<;>cases D2<;>simp<;>omega
 rcases hgood with hbad|⟨rfl,rfl,h0,h1⟩
 .clear hfl hfm HIn HIm HNl HNm _ht _hg;have f1:decide ((9000:Int)<t.size)=decide (9000<t.size):=by simp;omega
  have f2:decide ((200:Int)<tag.size)=decide (200<tag.size):=by simp;omega
  rcases hbad with rfl|⟨rfl,rfl⟩|⟨rfl,rfl,h0⟩|⟨rfl,rfl,h0,h1⟩
  all_goals try rw[decide_eq_true h0]at f1
  all_goals try rw[decide_eq_false h0]at f1
  all_goals try rw[decide_eq_true h1]at f2
  all_goals
   go_wp2_with(first
  |(go_at_call 6;(with_reducible refine(HAw.out _ (Below.refl _ _)).mono ?_);rintro e Wa ⟨rfl,Xa,hXa⟩;have hba:Below W0.heap.size W0 Wa:=(by rw[hXa];exact aG);have HA0:=aA hba;have p0:=(hba.cell (p:=⟨bx,0,none⟩) hx0).trans q0;have p1:=(hba.cell (p:=⟨bx,1,none⟩) hx0).trans q1;have hxa:=bQ hx0 hba.size;clear hXa hba)
  |(go_at_call 7;(with_reducible refine(HF1.out _ HA0.out).mono ?_);rintro e Wb ⟨rfl,Xb,hXb⟩;have hbb:Below Wa.heap.size Wa Wb:=(by rw[hXb];exact aG);have HA1:=aA (aP HA0.out hbb);have p2:=(hbb.cell (p:=⟨bx,0,none⟩) hxa).trans p0;have p3:=(hbb.cell (p:=⟨bx,1,none⟩) hxa).trans p1;have hxb:=bQ hxa hbb.size;clear hXb hbb)
  |(go_at_call 7;(with_reducible refine(HF2.out _ HA1.out).mono ?_);rintro e Wc ⟨rfl,Xc,hXc⟩;have hbc:Below Wb.heap.size Wb Wc:=(by rw[hXc];exact aG);have HA2:=aA (aP HA1.out hbc);have p4:=(hbc.cell (p:=⟨bx,0,none⟩) hxb).trans p2;have p5:=(hbc.cell (p:=⟨bx,1,none⟩) hxb).trans p3;have hxc:=bQ hxb hbc.size;clear hXc hbc))
   go_ret
   exact aH.of rfl (aP HB0.out (aP HA2.out aG))
 obtain⟨hl30,hlz⟩:=hfl rfl;obtain⟨hm30,hmz⟩:=hfm rfl;have b0:decide ((9000:Int)<t.size)=false:=by simp;omega
 have b1:decide ((200:Int)<tag.size)=false:=by simp;omega
 have htg:tag.data.toList.length<=200:=by rw[cU];omega
 obtain⟨a,cc,P,G⟩:=GF t.data.toList;have HP:=aA (λW=>show Calls aE 8 #[.string t] W _ from G.run W);clear hfl hfm;by_cases hc:cc=0;rotate_left
 .have HP1:=aA (λW=>(HP.out W).mono (R':=λe w'=>e= .returned (.tuple #[.pointer none,.int .i64 a,.int .i64 cc])/\Below W.heap.size W w') (λe w' h=>by
   obtain⟨h1,h2|h2⟩:=h
   .exact⟨h2.2,h1⟩
   .exact absurd h2.1 hc))
  have b9:((cc:Int) !=0)=true:=by simp;omega
  clear HP G h0 h1 _ht _hg HT HIn HIm HNl HNm hlz hmz;go_wp2_with(first
  |(go_at_call 6;(with_reducible refine(HAw.out _ (Below.refl _ _)).mono ?_);rintro e Wa ⟨rfl,Xa,hXa⟩;have hba:Below W0.heap.size W0 Wa:=(by rw[hXa];exact aG);have HA0:=aA hba;have p0:=(hba.cell (p:=⟨bx,0,none⟩) hx0).trans q0;have p1:=(hba.cell (p:=⟨bx,1,none⟩) hx0).trans q1;have hxa:=bQ hx0 hba.size;clear hXa hba)
  |(go_at_call 7;(with_reducible refine(HF1.out _ HA0.out).mono ?_);rintro e Wb ⟨rfl,Xb,hXb⟩;have hbb:Below Wa.heap.size Wa Wb:=(by rw[hXb];exact aG);have HA1:=aA (aP HA0.out hbb);have p2:=(hbb.cell (p:=⟨bx,0,none⟩) hxa).trans p0;have p3:=(hbb.cell (p:=⟨bx,1,none⟩) hxa).trans p1;have hxb:=bQ hxa hbb.size;clear hXb hbb)
  |(go_at_call 7;(with_reducible refine(HF2.out _ HA1.out).mono ?_);rintro e Wc ⟨rfl,Xc,hXc⟩;have hbc:Below Wb.heap.size Wb Wc:=(by rw[hXc];exact aG);have HA2:=aA (aP HA1.out hbc);have p4:=(hbc.cell (p:=⟨bx,0,none⟩) hxb).trans p2;have p5:=(hbc.cell (p:=⟨bx,1,none⟩) hxb).trans p3;have hxc:=bQ hxb hbc.size;clear hXc hbc)
  |(go_at_call 8;(with_reducible refine(HP1.out _).mono ?_);rintro e W1 ⟨rfl,hb1⟩;have HB1:=aA (aP HA2.out hb1);clear hb1))
  go_ret;exact aH.of rfl (aP HB0.out HB1.out)
 have hPk:qE t.data.toList= .ok P/\gZ P=true:=by
  rcases G.says with⟨_,_,h1,h2⟩|⟨h1,_⟩
  .exact⟨h1,h2⟩
  .exact absurd hc h1
 have hwr:=NS hPk.1;have hrp:=hPk.2;obtain⟨hf1,hf2,hf3,hf4⟩:=KW hrp;have hfo: ∀a∈cM P tag.data.toList,a.1.length<=65536:=λa ha=>by have:=EE hwr ha;omega
 have HP1:=aA (λW=>(HP.out W).mono (R':=λe w'=> ∃g,e= .returned (.tuple #[.pointer (some ⟨g,0,none⟩),.int .i64 0,.int .i64 0])/\Below W.heap.size W w'/\gB w' g P) (λe w' h=>by
   obtain⟨h1,h2|⟨_,g,h3,_,h5⟩⟩:=h
   .exact absurd hc h2.1
   .exact⟨g,h3,h1,h5⟩))
 clear HP G hc hPk;go_upto_region 6 with(first
  |(go_at_call 6;(with_reducible refine(HAw.out _ (Below.refl _ _)).mono ?_);rintro e Wa ⟨rfl,Xa,hXa⟩;have hba:Below W0.heap.size W0 Wa:=(by rw[hXa];exact aG);have HA0:=aA hba;have p0:=(hba.cell (p:=⟨bx,0,none⟩) hx0).trans q0;have p1:=(hba.cell (p:=⟨bx,1,none⟩) hx0).trans q1;have hxa:=bQ hx0 hba.size;clear hXa hba)
  |(go_at_call 7;(with_reducible refine(HF1.out _ HA0.out).mono ?_);rintro e Wb ⟨rfl,Xb,hXb⟩;have hbb:Below Wa.heap.size Wa Wb:=(by rw[hXb];exact aG);have HA1:=aA (aP HA0.out hbb);have p2:=(hbb.cell (p:=⟨bx,0,none⟩) hxa).trans p0;have p3:=(hbb.cell (p:=⟨bx,1,none⟩) hxa).trans p1;have hxb:=bQ hxa hbb.size;clear hXb hbb)
  |(go_at_call 7;(with_reducible refine(HF2.out _ HA1.out).mono ?_);rintro e Wc ⟨rfl,Xc,hXc⟩;have hbc:Below Wb.heap.size Wb Wc:=(by rw[hXc];exact aG);have HA2:=aA (aP HA1.out hbc);have p4:=(hbc.cell (p:=⟨bx,0,none⟩) hxb).trans p2;have p5:=(hbc.cell (p:=⟨bx,1,none⟩) hxb).trans p3;have hxc:=bQ hxb hbc.size;clear hXc hbc))
 go_upto_region 9 with(go_at_call 8;(with_reducible refine(HP1.out _).mono ?_);rintro e W1 ⟨g,rfl,hb1,hr1⟩;have HB1:=aA (aP HA2.out hb1);have HR1:=aA hr1;have p6:=(hb1.cell (p:=⟨bx,0,none⟩) hxc).trans p4;have p7:=(hb1.cell (p:=⟨bx,1,none⟩) hxc).trans p5;have hxd:=bQ hxc hb1.size;clear hb1 hr1)
 clear HP1 HAw HF1 HF2 HA0 HA1 HA2;have HTW:=aA (λW (hb:Below W1.heap.size W1 W)=>HT.out W (aP HB0.out (aP HB1.out hb)));have hFi:=λW (hb:Below W1.heap.size W1 W) A c (l:List (Bs × Bs)) (h:Rd W (.slice A l.length c) l.length 2 (l.flatMap eA)) (hz: ∀a∈l,a.1.length<=65536/\a.2.length<=65536) (hk:l.length<=1000000)=>show Calls aE 9 #[.pointer (some ⟨g,0,none⟩),.string tag,.slice A l.length c] W (sR W (dB P tag.data.toList l))from
  CJ g P tag.data.toList A l.length c l W (HR1.out.below hb) hf1 hf2 (HTW.out W hb).1 (HTW.out W hb).2.1 (HTW.out W hb).2.2 om h hz hk hfo
 have hlz2: ∀a∈l,a.1.length<=65536/\a.2.length<=65536:=λa ha=>by have:=hlz a ha;omega
 have hmz2: ∀a∈m,a.1.length<=65536/\a.2.length<=65536:=λa ha=>by have:=hmz a ha;omega
 have HF0:=aA (λW (hb:Below W1.heap.size W1 W)=>hFi W hb A c l (HIn.out.bel (aP HB0.out (aP HB1.out hb))) hlz2 om);have HF4:=aA (λW (hb:Below W1.heap.size W1 W) A c h=>hFi W hb A c (l++m) h (λa ha=>(List.mem_append.1 ha).elim (hlz2 a) (hmz2 a)) (by rw[aZ];omega));have HF5:=aA (λW (hb:Below W1.heap.size W1 W) A c h=>hFi W hb A c (l++l) h (λa ha=>(List.mem_append.1 ha).elim (hlz2 a) (hlz2 a)) (by rw[aZ];omega));have HFo:=aA (λW (hb:Below W1.heap.size W1 W)=>show Calls aE 10 #[.pointer (some ⟨g,0,none⟩),.string tag] W (sR W (cM P tag.data.toList))from FX g P tag.data.toList W (HR1.out.below hb) (by unfold maxLen;omega) hf2);have HTg:=aA (λW (hb:Below W1.heap.size W1 W)=>show Calls aE 12 #[.pointer (some ⟨g,0,none⟩),.string tag] W (aH (.bool (eW P tag.data.toList)) W)from yT g P tag.data.toList W (HR1.out.below hb) (by unfold maxLen;omega));have HJo:=aA (Lz P tag.data.toList l m);have hNo: ∀k,eW P tag.data.toList=false->dB P tag.data.toList k=[]:=λk h=>if_neg (by rw[h];decide);have hff:(cM P tag.data.toList).length<=200:=by unfold cM;rw[List.length_map];exact Nat.le_trans (List.length_filter_le _ _) hf2
 have hM0:=filt_len P tag.data.toList l;have hM1:=filt_len P tag.data.toList (l++m);rw[aZ]at hM1;have HN1:=aA (hNo l);have HN2:=aA (hNo (l++m));clear hNo hFi hlz hmz hlz2 hmz2 hf1 hf2 hf3 hf4 hfo hwr hrp h0 h1 _ht _hg htg HT HTW;generalize dB P tag.data.toList l=M at*;generalize dB P tag.data.toList (l++m)=Mb at*;generalize dB P tag.data.toList (l++l)=Mt at*;generalize cM P tag.data.toList=F at*;generalize eW P tag.data.toList=tg at*;generalize tag.data.toList=tgl at*;go_upto_region 10 with(go_at_call 9;(with_reducible refine(HF0.out _ (Below.refl _ _)).mono ?_);rintro e V2 ⟨A2,c2,rfl,hb2,hn2,hc2,hr2⟩;have HBF2:=aA hb2;have HR2:=aA hr2;have p8:=(hb2.cell (p:=⟨bx,0,none⟩) hxd).trans p6;have p9:=(hb2.cell (p:=⟨bx,1,none⟩) hxd).trans p7;have hxV2:=bQ hxd hb2.size;clear hb2)
 have HBV2:=aA (aP HB0.out (aP HB1.out HBF2.out));have HBFV2:=HBF2;clear p0 p1 p2 p3 p4 p5 p6 p7 q0 q1;go_upto_region 10 with fail
 have hd4:Below V2.heap.size V2 V2.drew:=aG;refine qS 10 [(0,true),(1,true),(3,true),(4,true),(6,true),(7,true),(2,false),(5,false),(8,false),(9,false)] (λVx=>Below V2.heap.size V2 Vx) hmx kr kr kr dc  rfl (λc a d v w h=>by first|exact h|(obtain⟨x,y⟩:=(h:_/\_);cases d<;>exact⟨x,y⟩)) kr hd4 ?_;refine eM (v:= .pointer (some ⟨g,0,none⟩)) 58 rfl rfl rfl ee ?_;simp only[Act.put,aU,aV,aT];refine eM (v:= .string tag) 59 rfl rfl rfl ee ?_;simp only[Act.put,aU,aV,aT];refine eM (v:= .pointer (some ⟨bx,0,none⟩)) 61 rfl rfl rfl ee ?_;simp only[Act.put,aU,aV,aT];refine eM (v:= .slice A l.length c) 62 rfl rfl rfl (λW hW=>by have dd:=(hW.cell (p:=⟨bx,0,none⟩) hxV2).trans p8;simp[execOp,go_sem,dd]) ?_;simp only[Act.put,aU,aV,aT];refine eM (v:= .pointer (some ⟨bx,1,none⟩)) 64 rfl rfl rfl ee ?_;simp only[Act.put,aU,aV,aT];refine eM (v:= .slice B m.length d) 65 rfl rfl rfl (λW hW=>by have dd:=(hW.cell (p:=⟨bx,1,none⟩) hxV2).trans p9;simp[execOp,go_sem,dd]) ?_;simp only[Act.put,aU,aV,aT];refine cC rfl rfl λKc hKc=> ?_;unfold Oper.wp;simp[execOp,go_sem];refine hKc _ _ ⟨aG, ?_⟩;refine cC rfl rfl λKc hKc=> ?_;refine app_row _ _ 22 rfl vR V2 rfl (UE (W:=V2) rfl (Nat.le_refl _)) aG l.length (l.flatMap eA) (xL (HIn.out.bel HBV2.out) HNl.out aG) HIn.out.1 (CS l) (by unfold maxLen;omega) om λv41 W41 ho41 hb41=>hKc _ _ ⟨hb41, ?_⟩;simp only[Act.put,aU];refine cC rfl rfl λKc hKc=> ?_;refine app_row _ _ 22 rfl vR V2 rfl ho41 hb41 m.length (m.flatMap eA) (xL (HIm.out.bel (aP HBV2.out hb41)) HNm.out (Below.refl _ _)) HIm.out.1 (CS m) (by unfold maxLen;omega) om λv42 W42 ho42 hb42=>hKc _ _ ⟨hb42, ?_⟩;simp only[Act.put];obtain⟨A42,c42,rfl,hc42⟩:=dF ho42;refine cC rfl rfl λKc hKc=> ?_;have hr42:=Rd.own ho42;rw[List.nil_append,<-nL,Nat.zero_add,<-aZ]at hr42;have hf4:=HF4.out _ (aP HBFV2.out hb42) _ _ hr42;rw[aZ]at hf4;simp only[Nat.zero_add];unfold Oper.wp;simp[execOp,go_sem];refine hf4.mono ?_;rintro e W43 ⟨A43,c43,rfl,hb43,hn43,hc43,hr43⟩;refine hKc _ _ ⟨aP hb42 hb43, ?_⟩;show wpList _ _ _ _ _ _;dsimp only[List.drop];have hbX:Below V2.heap.size V2 W43:=aP hb42 hb43;have r8:=(hbX.cell (p:=⟨bx,0,none⟩) hxV2).trans p8;have r9:=(hbX.cell (p:=⟨bx,1,none⟩) hxV2).trans p9;have hxW43:=bQ hxV2 hbX.size;have HBW43:=aA (aP HBV2.out hbX);have HBFW43:=aA (aP HBFV2.out hbX);have HR3:=aA (HR2.out.bel hbX);have HRb:=aA hr43;clear p8 p9 hf4 hr42 ho42 hb42 ho41 hb41 hr43 hb43 hbX HR2;go_upto_region 11 with fail
 have hd5:Below W43.heap.size W43 W43.drew:=aG;refine qS 10 [(0,true),(1,true),(3,true),(4,true),(6,true),(7,true),(2,false),(5,false),(8,false),(9,false)] (λVx=>Below W43.heap.size W43 Vx) hmx kr kr kr dc  rfl (λc a d v w h=>by first|exact h|(obtain⟨x,y⟩:=(h:_/\_);cases d<;>exact⟨x,y⟩)) kr hd5 ?_;refine eM (v:= .pointer (some ⟨g,0,none⟩)) 68 rfl rfl rfl ee ?_;simp only[Act.put,aU,aV,aT];refine eM (v:= .string tag) 69 rfl rfl rfl ee ?_;simp only[Act.put,aU,aV,aT];refine eM (v:= .pointer (some ⟨bx,0,none⟩)) 71 rfl rfl rfl ee ?_;simp only[Act.put,aU,aV,aT];refine eM (v:= .slice A l.length c) 72 rfl rfl rfl (λW hW=>by have dd:=(hW.cell (p:=⟨bx,0,none⟩) hxW43).trans r8;simp[execOp,go_sem,dd]) ?_;simp only[Act.put,aU,aV,aT];refine eM (v:= .pointer (some ⟨bx,0,none⟩)) 74 rfl rfl rfl ee ?_;simp only[Act.put,aU,aV,aT];refine eM (v:= .slice A l.length c) 75 rfl rfl rfl (λW hW=>by have dd:=(hW.cell (p:=⟨bx,0,none⟩) hxW43).trans r8;simp[execOp,go_sem,dd]) ?_;simp only[Act.put,aU,aV,aT];refine cC rfl rfl λKc hKc=> ?_;unfold Oper.wp;simp[execOp,go_sem];refine hKc _ _ ⟨aG, ?_⟩;refine cC rfl rfl λKc hKc=> ?_;refine app_row _ _ 22 rfl vR W43 rfl (UE (W:=W43) rfl (Nat.le_refl _)) aG l.length (l.flatMap eA) (xL (HIn.out.bel HBW43.out) HNl.out aG) HIn.out.1 (CS l) (by unfold maxLen;omega) om λv51 W51 ho51 hb51=>hKc _ _ ⟨hb51, ?_⟩;simp only[Act.put,aU];refine cC rfl rfl λKc hKc=> ?_;refine app_row _ _ 22 rfl vR W43 rfl ho51 hb51 l.length (l.flatMap eA) (xL (HIn.out.bel (aP HBW43.out hb51)) HNl.out (Below.refl _ _)) HIn.out.1 (CS l) (by unfold maxLen;omega) om λv52 W52 ho52 hb52=>hKc _ _ ⟨hb52, ?_⟩;simp only[Act.put];obtain⟨A52,c52,rfl,hc52⟩:=dF ho52;refine cC rfl rfl λKc hKc=> ?_;have hr52:=Rd.own ho52;rw[List.nil_append,<-nL,Nat.zero_add,<-aZ]at hr52;have hf5:=HF5.out _ (aP HBFW43.out hb52) _ _ hr52;rw[aZ]at hf5;simp only[Nat.zero_add];unfold Oper.wp;simp[execOp,go_sem];refine hf5.mono ?_;rintro e W53 ⟨A53,c53,rfl,hb53,hn53,hc53,hr53⟩;refine hKc _ _ ⟨aP hb52 hb53, ?_⟩;show wpList _ _ _ _ _ _;dsimp only[List.drop];have hbY:Below W43.heap.size W43 W53:=aP hb52 hb53;have HBX:=aA (aP HBW43.out hbY);have HBFX:=aA (aP HBFW43.out hbY);have HR4:=aA (HR3.out.bel hbY);have HRc:=aA (HRb.out.bel hbY);have HRt:=aA hr53;clear r8 r9 hf5 hr52 ho52 hb52 ho51 hb51 hr53 hb53 hbY HR3 HRb HF0 HF4 HF5;have HFx:=aA (HFo.out W53 HBFX.out);have HTx:=aA HTg.out;clear HFo HTg;cases tg
 .obtain rfl:=HN1.out rfl;obtain rfl:=HN2.out rfl;clear HN1 HN2 HJo;have hwr:IntKind.i64.wrap (-(F.length:Int))= -(F.length:Int):=by rw[IntWalk.i64_in _ om]
  go_wp2_with(first
   |(go_at_call 10;(with_reducible refine HFx.out.mono ?_);rintro e V6 ⟨A6,c6,rfl,hb6,hn6,hc6,hr6⟩;have HB6:=aA hb6;clear hb6 hr6)
   |(go_at_call 12;(with_reducible refine zG (HTx.out _ (aP HBFX.out HB6.out)) λY7=>?_)))
  go_ret;exact aH.of rfl (aP HBX.out (aP HB6.out aG))
 obtain⟨j1,j2,j3,j4⟩:=HJo.out rfl;have j5:=j4.symm;subst j5;clear j4;obtain⟨n,hn⟩: ∃n,n+F.length=M.length:=⟨M.length-F.length,by omega⟩;rw[show M.length-F.length=n by omega]at j3;have hwr:IntKind.i64.wrap ((M.length:Int)-F.length)=(n:Int):=by rw[IntWalk.i64_in _ om];omega
 have HJ3:=aA j3;clear HN1 HN2 HJo j3;go_upto_region 13 with(go_at_call 10;(with_reducible refine HFx.out.mono ?_);rintro e V6 ⟨A6,c6,rfl,hb6,hn6,hc6,hr6⟩;have HB6:=aA hb6;clear hb6 hr6)
 go_upto_region 15 with(go_at_call 12;(with_reducible refine(HTx.out _ (aP HBFX.out HB6.out)).mono ?_);rintro e V7 ⟨rfl,Y7,hY7⟩;have HB7:Hid (Below W53.heap.size W53 V7):=(by show Below _ _ _;exact aP HB6.out (by rw[hY7];exact aG));clear hY7)
 have hd7:Below V7.heap.size V7 V7.drew:=aG;have g1:decide ((0:Int)<=(n:Nat))=true:=by simp
 have g2:decide ((M.length:Int)<=Mb.length)=true:=decide_eq_true om;have HS1:=aA (λW (hb:Below V7.heap.size V7 W)=>(by
  have h9:=SX A43 A2 n n c43 c2 (Mb.take n) (M.take n) W (Rd.bel (rd_take HRc.out om) (aP HB7.out hb)) (Rd.bel (rd_take HR4.out om) (aP HB7.out hb));rwa[decide_eq_true HJ3.out]at h9:Calls aE 13 #[.slice A43 n c43,.slice A2 n c2] W (aH (.bool true) W)))
 have HS2:=aA (λW (hb:Below V7.heap.size V7 W)=>(by
  have h9:=SX A53 A2 M.length M.length c53 c2 M M W (HRt.out.bel (aP HB7.out hb)) (HR4.out.bel (aP HB7.out hb));rwa[decide_eq_true rfl]at h9:Calls aE 13 #[.slice A53 M.length c53,.slice A2 M.length c2] W (aH (.bool true) W)))
 refine qS 23 [(0,true),(1,true),(2,true),(3,true),(4,true),(5,true),(6,true),(7,true),(8,true),(9,true),(10,true),(11,true),(12,true),(13,true),(14,true),(15,true),(16,false),(17,true),(18,true),(19,true),(20,true),(21,false),(22,true)] (λVx=>Below V7.heap.size V7 Vx) hmx kr kr kr dc  rfl (λc a d v w h=>by first|exact h|(obtain⟨x,y⟩:=(h:_/\_);cases d<;>exact⟨x,y⟩)) kr hd7 ?_;refine eM (v:= .int .i64 (n:Nat)) 97 rfl rfl rfl ee ?_;simp only[Act.put,aU,aV,aT];refine eM (v:= .bool true) 98 rfl rfl rfl ee ?_;simp only[Act.put,aU,aV,aT];refine eM (v:= .bool true) 99 rfl rfl rfl ee ?_;simp only[Act.put,aU,aV,aT];refine eM (v:= .slice A43 Mb.length c43) 100 rfl rfl rfl ee ?_;simp only[Act.put,aU,aV,aT];refine eM (v:= .int .i64 Mb.length) 101 rfl rfl rfl ee ?_;simp only[Act.put,aU,aV,aT];refine eM (v:= .slice A2 M.length c2) 102 rfl rfl rfl ee ?_;simp only[Act.put,aU,aV,aT];refine eM (v:= .int .i64 M.length) 103 rfl rfl rfl ee ?_;simp only[Act.put,aU,aV,aT];refine eM (v:= .bool true) 104 rfl rfl rfl (λW hW=>by simp[execOp,go_sem];exact j2) ?_;simp only[Act.put,aU,aV,aT];refine eM (v:= .bool true) 105 rfl rfl rfl ee ?_;simp only[Act.put,aU,aV,aT];refine eM (v:= .bool true) 106 rfl rfl rfl ee ?_;simp only[Act.put,aU,aV,aT];refine eM (v:= .slice A43 Mb.length c43) 107 rfl rfl rfl ee ?_;simp only[Act.put,aU,aV,aT];refine eM (v:= .int .i64 (n:Nat)) 108 rfl rfl rfl ee ?_;simp only[Act.put,aU,aV,aT];refine eM (v:= .slice A43 n c43) 109 rfl rfl rfl (λW hW=>by simp[execOp,go_sem];intro h9;omega) ?_;simp only[Act.put,aU,aV,aT];refine eM (v:= .slice A2 M.length c2) 110 rfl rfl rfl ee ?_;simp only[Act.put,aU,aV,aT];refine eM (v:= .int .i64 (n:Nat)) 111 rfl rfl rfl ee ?_;simp only[Act.put,aU,aV,aT];refine eM (v:= .slice A2 n c2) 112 rfl rfl rfl (λW hW=>by simp[execOp,go_sem];intro h9;omega) ?_;simp only[Act.put,aU,aV,aT];refine cC rfl rfl λKc hKc=> ?_;unfold Oper.wp;simp[execOp,go_sem];refine(HS1.out _ hd7).mono ?_;rintro e V8 ⟨rfl,XV8,hXV8⟩;have hbV8:Below V7.heap.size V7 V8:=aP hd7 (by rw[hXV8];exact aG);clear hXV8;refine hKc _ _ ⟨hbV8, ?_⟩;refine eM (v:= .bool true) 114 rfl rfl rfl ee ?_;simp only[Act.put,aU,aV,aT];refine eM (v:= .bool true) 115 rfl rfl rfl ee ?_;simp only[Act.put,aU,aV,aT];refine eM (v:= .slice A53 M.length c53) 116 rfl rfl rfl ee ?_;simp only[Act.put,aU,aV,aT];refine eM (v:= .slice A2 M.length c2) 117 rfl rfl rfl ee ?_;simp only[Act.put,aU,aV,aT];refine cC rfl rfl λKc hKc=> ?_;unfold Oper.wp;simp[execOp,go_sem];refine(HS2.out _ hbV8).mono ?_;rintro e V9 ⟨rfl,XV9,hXV9⟩;have hbV9:Below V7.heap.size V7 V9:=aP hbV8 (by rw[hXV9];exact aG);clear hXV9;refine hKc _ _ ⟨hbV9, ?_⟩;refine eM (v:= .bool true) 119 rfl rfl rfl ee ?_;simp only[Act.put,aU,aV,aT];show wpList _ _ _ _ _ _;dsimp only[List.drop];go_wp2_with fail
 go_ret;exact aH.of rfl (aP HBX.out (aP HB7.out (aP hbV9 aG)))
theorem lifted (os:Os) (started:os.Started) (H:Type) (enc:TypeId × Value->H):
  ReturnsInHanded {} Tryz.checked os 4 .any (λw args=>(Rows.attrsJoinsSpec.pre enc aE zh Rows.attrsJoinsRow.domain false w args/\laidMetH aE Rows.attrsJoinsRow.laid w)/\sizedMet enc aE zh (OpenSpec.ofChange Rows.attrsJoinsSpec) false w args) (Rows.attrsJoinsSpec.post enc aE zh false true false false):=by
 refine MV (C:=Tryz.checked) (X:=λw _=>laidMetH aE Rows.attrsJoinsRow.laid w) (λ_ _ _ hh h=>h.of_heap hh) own started kr Tryz.func4
  (ChangeSpec.witness_shaped (enc:=enc) (C:=Tryz.checked) (os:=os) (X:=λw _=>laidMetH aE Rows.attrsJoinsRow.laid w) false (World.laidAll aE os Rows.attrsJoinsRow.laid) #[.string ⟨#[]⟩,.string ⟨#[]⟩,.agg #[.slice none 0 0,.slice none 0 0]] 8 (World.laidAll_os _ _ _)
   (World.shaped_of_ZipB kr kr) kr kr kr
   (by rw[MakeChecks.laidMetH_plain _ _ _ kr];exact laidMet_laidAll _ kr kr)) ?_
 intro W base args ds gs before hval0 hW hL hsh;have hval: ∀(j:Nat) t v,zh.params[j]? =some t->args[j]? =some v->Value.okWide aE W .any base t v:=hval0;have hW':=hW;obtain⟨p,q,hA0,hV,rfl,hfz,hnd⟩:=hW;have hA:DataW.TrodAll enc aE W 0 (λ_=>true) true zh.params.toList args.toList ds p:=hA0;rw[Tryz.params4]at hA hval;obtain⟨v0,vs0,d0,ds0,p0,q0,hargs,rfl,rfl,h0,r0⟩:=trodAll_cons hA;obtain⟨v1,vs1,d1,ds1,p1,q1,rfl,rfl,rfl,h1,r1⟩:=trodAll_cons r0;obtain⟨v2,vs2,d2,ds2,p2,q2,rfl,rfl,rfl,h2,r2⟩:=trodAll_cons r1;obtain⟨rfl,rfl,rfl⟩:=trodAll_nil r2;obtain rfl:args= #[v0,v1,v2]:=by cases args;simp_all
 obtain⟨rfl,rfl⟩:=trodVars_none hV;obtain⟨s0,rfl,rfl,rfl,w0⟩:=open_string dH (hval 0 9 v0 rfl rfl) h0;obtain⟨s1,rfl,rfl,rfl,w1⟩:=open_string dH (hval 1 9 v1 rfl rfl) h1;obtain⟨cs2,rfl⟩:=okWide_twoA (hval 2 38 v2 rfl rfl);have k2:=h2;have lt2: ∀x∈p2,x.block<W.heap.size:=by obtain⟨m,hm⟩:=k2;exact DataW.trod_lt m _ _ _ hm
 obtain⟨A2,len2,c2,B2,len22,d2,hcs2,⟨fu2,ya2,ta2⟩,fv2,yb2,tb2⟩:=(by obtain⟨fuel,hf⟩:=h2;exact twoA_open (x:=(d2,p2)) (show DataW.trod enc aE W 0 (λ_=>true) true fuel 38 cs2.toList=some (d2,p2) by simpa[Value.cells]using hf): ∃A n c B m d,cs2.toList=[.slice A n c,.slice B m d]/\(∃fu y,DataW.trod enc aE W 0 (λ_=>true) true fu 22 [.slice A n c]=some y)/\ ∃fu y,DataW.trod enc aE W 0 (λ_=>true) true fu 22 [.slice B m d]=some y);obtain rfl:cs2= #[.slice A2 len2 c2,.slice B2 len22 d2]:=Array.toList_inj.1 hcs2;have n2:=twoA_none ta2;have o2:=twoA_none tb2;obtain⟨z2,rfl,w2,m2⟩:=GO ta2;obtain⟨y2,rfl,x2,u2⟩:=GO tb2;clear hA0 hval0;refine(walk s0 s1 A2 c2 z2 B2 d2 y2 W (JO hL kr) (JR hL kr) (LX hsh) w0 w1 w2 m2 n2 x2 u2 o2).mono λe W' hend=> ?_;obtain⟨he,X,hX⟩:=hend;have aG:Below W.heap.size W W':=by rw[hX];exact dG W X
 subst he;exact⟨_,rfl,_,_,_,[],_,[],hW',trodAll_mk1 (shut_bool Tryz.underlying4 _),(trodAll_cons_mk (shut_string dH w0) (trodAll_cons_mk (shut_string dH w1) (trodAll_cons_mk (Below.trod laidOut kr (of_decide_eq_true kr) k2 aG lt2) trodAll_mk0))),rfl,aG.frame _,λh=>by cases h⟩
theorem over:Rows.attrsJoinsRow.holds Tryz.pinned (OpenSpec.ofChange Rows.attrsJoinsSpec):=
 OpenClaim.holds_of_wide 4 zh rfl rfl rfl rfl rfl rfl rfl ⟨rfl,rfl,rfl,rfl,rfl⟩ rfl rfl rfl rfl rfl kr Tryz.func4 kr
  (of_decide_eq_true kr) (by unfold Func.isWrapper;rw[if_neg (of_decide_eq_false kr)];exact⟨rfl,rfl⟩)
  (λos started H enc _=>lifted os started H enc)
theorem proved:Rows.AttrsJoinsCardSaid:=
 Claim7.holds_tied_plain_at .later [] [.data,.data,.data,.data,.pinned] true _ true over (λ_ h=>by cases h) kr (λ_ h=>by cases h) attrsJoins_row_tie rfl ⟨rfl,rfl⟩ kr rfl
  (λf fn hf hfn=>by
   obtain rfl:f=4:=Option.some.inj ((show aE.funcNamed "cribble/cribblelaw19.AttrsJoins" =some 4 by kernel_rfl).symm.trans hf) |>.symm
   obtain rfl:fn=zh:=(Option.some.inj (Tryz.func4.symm.trans hfn)).symm;exact⟨by kernel_rfl,λj t ht=>by
    rw[Tryz.params4]at ht;have hm:t∈[9,9,38]:=by simpa using Array.mem_of_getElem? ht
    have hall:([9,9,38].all λu=> !aE.wantsStandIn u)=true:=by kernel_rfl
    exact(show aE.wantsStandIn t=false by simpa using List.all_eq_true.1 hall t hm)⟩)
 kr 
end Go.Proofs.YtccjfanpjojbnaaGreatDoor.attrsJoins
