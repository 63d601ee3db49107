import Derived.Deep.CutBlock
import Derived.Deep.RegionHeld3
import Derived.Deep.DeepCutAuto
import Derived.Test.YtccjfanpjojbnaaGreatDoorKA
set_option maxHeartbeats 4000000
open Bool renaming and_eq_true→bD,false_eq_true→gW
open Go.Ending renaming returned→aL
open Go.IntKind renaming i64→aC
open Go.Lib renaming hid→aA
open List renaming all_eq_true→dO,append_nil→bV,foldl_append→jz,getElem?_eq_getElem→eV,length_append→aZ,take_length→kJ,take_succ_eq_append_getElem→jG
open Nat renaming eq_of_mul_eq_mul_right→Xg,mul_assoc→rQ,mul_le_mul_right→Xn,pow_add→oH,shiftLeft_eq→ja,shiftLeft_zero→ze,two_pow_pos→nI
open Go.Proofs.Tryz renaming func215→qx,func255→qw,ntmps215→qf,ntmps255→qe,prog→aE,results255→jf
open Go.Value renaming agg→aR,bool→aI,int→aB,tuple→aN
namespace Flo
open Go.Proofs.YtccjfanpjojbnaaGreatDoor (om dc kr)
open Ieee
def Is (d:Datum) (n:Int):Prop:=
 ∃s m p,∃e q:Nat,d= .number s m p/\p+(q:Int)=(e:Int)/\m*2 ^ e=n.natAbs*2 ^ q/\(n≠0->s=decide (n<0))
theorem log2_mul_pow (N k:Nat) (h:N≠0):(N*2 ^ k).log2=N.log2+k:=by
 have h2:0<2 ^ k:=nI k;have hN:N*2 ^ k≠0:=Nat.mul_ne_zero h om;rw[Nat.log2_eq_iff hN];have a:=Nat.log2_self_le h;have b:= @Nat.lt_log2_self N;constructor
 .rw[oH];exact Xn _ a
 .rw[show N.log2+k+1=(N.log2+1)+k by omega,oH];exact Nat.mul_lt_mul_of_pos_right b h2
theorem cut_exact (way:Toward) (neg:Bool) (K d:Nat):way.cut neg (K*2 ^ d) d=K:=by
 by_cases hK:K=0
 .subst hK;unfold Toward.cut;simp only[Nat.zero_mul,Nat.zero_div,Nat.zero_mod,ja,Nat.one_mul];have:0<2 ^ min d (Nat.log2 0+2):=nI _;cases way<;>simp<;>omega
 .have hl:=log2_mul_pow K d hK;unfold Toward.cut;have hm:min d ((K*2 ^ d).log2+2)=d:=by omega
  simp only[hm,ja,Nat.one_mul];have hp:0<2 ^ d:=nI d;rw[Nat.mul_div_cancel _ hp,Nat.mul_mod_left];have h2:((2 ^ d:Nat)==0)=false:=by simp
  cases way<;>simp[h2]
theorem cut_zero (way:Toward) (neg:Bool) (m:Nat):way.cut neg m 0=m:=by
 have:=cut_exact way neg m 0;simpa using this
theorem read_word (neg:Bool) (r:Nat) (h1:double.binade<=r) (h2:r<double.infRung):
  double.read (double.word neg r)= .number neg (double.binade+r%double.binade) (double.leastPlace+(r/double.binade-1:Nat)):=by
 have hs:double.infRung<double.signWeight:=by decide
 unfold Format.read Format.word;have hr:r<double.signWeight:=by omega
 have e1:(if neg then double.signWeight+r else r)%double.signWeight=r:=by
  cases neg
  .exact Nat.mod_eq_of_lt hr
  .simp[Nat.mod_eq_of_lt hr]
 have e2:((if neg then double.signWeight+r else r)/double.signWeight%2==1)=neg:=by
  cases neg
  .simp[Nat.div_eq_of_lt hr]
  .have hp:0<double.signWeight:=by omega
   simp[Nat.add_div_left r hp,Nat.div_eq_of_lt hr]
 simp only[e1,e2];rw[if_neg om,if_pos h2]
theorem read_zero (neg:Bool):double.read (double.word neg 0)= .number neg 0 double.leastPlace:=by
 cases neg<;>decide
theorem infRung_eq:double.infRung=2047*double.binade:=rfl
theorem word_of (neg:Bool) (L K:Nat) (hL:L<=52) (h1:double.binade<=K) (h2:K<2*double.binade):
  double.read (double.word neg (min ((L+1022)*double.binade+K) double.infRung))= .number neg K (double.leastPlace+(L+1022:Nat)):=by
 have hm:(L+1022)*double.binade<=1074*double.binade:=Xn _ om;have hinf:=infRung_eq;have hpos:0<double.binade:=nI 52;have hmin:min ((L+1022)*double.binade+K) double.infRung=(L+1022)*double.binade+K:=by
  generalize double.binade=B at*;omega
 rw[hmin,read_word neg _ om (by generalize double.binade=B at*;omega)];have e1:((L+1022)*double.binade+K)/double.binade=L+1022+1:=by
  rw[Nat.mul_comm,Nat.mul_add_div hpos];have:K/double.binade=1:=by
   rw[Nat.div_eq_iff hpos];generalize double.binade=B at*;omega
  omega
 have e2:((L+1022)*double.binade+K)%double.binade=K-double.binade:=by
  rw[Nat.mul_comm,Nat.mul_add_mod,Nat.mod_eq_sub_mod h1,Nat.mod_eq_of_lt om]
 rw[e1,e2];have e3:double.binade+(K-double.binade)=K:=by omega
 rw[e3];rfl
theorem read_nearest (neg:Bool) (mag:Nat) (place:Int) (N e q:Nat) (hp:place+(q:Int)=e) (hv:mag*2 ^ e=N*2 ^ q) (hN:N<2 ^ 53):
  ∃m p,∃e' q':Nat,double.read (double.nearest neg mag place)= .number neg m p/\p+(q':Int)=e'/\m*2 ^ e'=N*2 ^ q':=by
 by_cases h0:mag=0
 .subst h0;have hN0:N=0:=by
   have:0<2 ^ q:=nI q;rcases Nat.mul_eq_zero.1 (by simpa using hv.symm:N*2 ^ q=0)with h|h
   .exact h
   .omega
  subst hN0;refine⟨0,double.leastPlace,0,1074, ?_,by decide,by simp only[Nat.zero_mul]⟩;unfold Format.nearest;rw[if_pos rfl];exact read_zero neg
 .have hN0:N≠0:=by
   intro h;subst h;have:0<2 ^ e:=nI e;rcases Nat.mul_eq_zero.1 (by simpa using hv:mag*2 ^ e=0)with h|h
   .exact h0 h
   .omega
  have l1:=log2_mul_pow mag e h0;have l2:=log2_mul_pow N q hN0;have hl:mag.log2+e=N.log2+q:=by rw[<-l1,<-l2,hv]
  have hN53:N.log2<=52:=by
   have:=(Nat.log2_lt hN0 (k:=53)).2 hN;omega
  have hlp:double.leastPlace= -1074:=by decide
  have hfb:double.fractionBits=52:=rfl;let L:=N.log2
  have hlast:max (place+mag.log2-double.fractionBits) double.leastPlace=(L:Int)-52:=by
   rw[hlp,hfb];show _=(N.log2:Int)-52;omega
  have hkept:Toward.even.cut neg (mag<<<(place-((L:Int)-52)).toNat) (((L:Int)-52)-place).toNat=N*2 ^ (52-L):=by
   by_cases hc:((L:Int)-52)<=place
   .have e1:(((L:Int)-52)-place).toNat=0:=by omega
    rw[e1,cut_zero,ja];have hp2:0<2 ^ e:=nI e;refine Xg (nI (e)) ?_;rw[rQ,Nat.mul_comm (2 ^ _) (2 ^ e),<-rQ,hv,rQ,rQ,<-oH,<-oH];congr 2;omega
   .have e1:(place-((L:Int)-52)).toNat=0:=by omega
    rw[e1,ze];have hm:mag=(N*2 ^ (52-L))*2 ^ (((L:Int)-52)-place).toNat:=by
     refine Xg (nI (e)) ?_;rw[hv,rQ,rQ,<-oH,<-oH];congr 2;omega
    rw[hm,cut_exact]
  have hb1:2 ^ 52<=N*2 ^ (52-L):=by
   have:=Nat.log2_self_le hN0
   calc 2 ^ 52=2 ^ L*2 ^ (52-L):=by rw[<-oH];congr 1;omega
    _<=N*2 ^ (52-L):=Xn _ this
  have hb2:N*2 ^ (52-L)<2 ^ 53:=by
   have:= @Nat.lt_log2_self N
   calc N*2 ^ (52-L)<2 ^ (L+1)*2 ^ (52-L):=Nat.mul_lt_mul_of_pos_right this (nI _)
    _=2 ^ 53:=by rw[<-oH];congr 1;omega
  have hb2':N*2 ^ (52-L)<2*double.binade:=hb2;have hw:=word_of neg L (N*2 ^ (52-L)) hN53 hb1 hb2';have hr:((L:Int)-52-double.leastPlace).toNat=L+1022:=by rw[hlp];omega
  refine⟨N*2 ^ (52-L),double.leastPlace+(L+1022:Nat),0,52-L, ?_, ?_, ?_⟩
  .unfold Format.nearest;rw[if_neg h0];simp only[hlast,hkept,hr];exact hw
  .rw[hlp];omega
  .rw[Nat.pow_zero,Nat.mul_one]
theorem is_write (d:Datum) (n:Int) (h:Is d n) (hb:n.natAbs<2 ^ 53):Is (double.read (double.write d)) n:=by
 obtain⟨s,m,p,e,q,rfl,hp,hv,hs⟩:=h;obtain⟨m',p',e',q',hr,hp',hv'⟩:=read_nearest s m p n.natAbs e q hp hv hb;exact⟨s,m',p',e',q',hr,hp',hv',hs⟩
theorem is_int (n:Int):Is (.number (n<0) n.natAbs 0) n:=⟨_,_,_,0,0,rfl,by simp,by simp,λ_=>rfl⟩
theorem is_opposite {d:Datum} {n:Int} (h:Is d n):Is d.opposite (-n):=by
 obtain⟨s,m,p,e,q,rfl,hp,hv,hs⟩:=h;refine⟨!s,m,p,e,q,rfl,hp,by simpa using hv,λhn=> ?_⟩;rw[hs om];by_cases h:n<0<;>simp[h]<;>omega
theorem is_product {a b:Datum} {x y:Int} (ha:Is a x) (hb:Is b y): ∃c,a.product b=some c/\Is c (x*y):=by
 obtain⟨s,m,p,e,q,rfl,hp,hv,hs⟩:=ha;obtain⟨t,k,r,f,u,rfl,hr,hw,ht⟩:=hb;refine⟨_,rfl,_,_,_,e+f,q+u,rfl,by omega, ?_, ?_⟩
 .rw[Int.natAbs_mul,oH,oH]
  calc m*k*(2 ^ e*2 ^ f)=(m*2 ^ e)*(k*2 ^ f):=by ac_rfl
   _=(x.natAbs*2 ^ q)*(y.natAbs*2 ^ u):=by rw[hv,hw]
   _=_:=by ac_rfl
 .intro hxy;have hx:x≠0:=λh=>hxy (by simp[h]);have hy:y≠0:=λh=>hxy (by simp[h]);rw[hs hx,ht hy];rcases Int.lt_or_gt_of_ne hx with h1|h1<;>rcases Int.lt_or_gt_of_ne hy with h2|h2
  .have:=Int.mul_pos_of_neg_of_neg h1 h2;simp[h1,h2];omega
  .have:=Int.mul_neg_of_neg_of_pos h1 h2;have a: ¬y<0:=by omega
   simp[h1,a,this]
  .have:=Int.mul_neg_of_pos_of_neg h1 h2;have a: ¬x<0:=by omega
   simp[h2,a,this]
  .have:=Int.mul_pos h1 h2;have a1: ¬x<0:=by omega
   have a2: ¬y<0:=by omega
   have a3: ¬x*y<0:=by omega
   simp[a1,a2,a3]
theorem signed_val {s:Bool} {m:Nat} {p:Int} {e q:Nat} {n:Int} (hp:p+(q:Int)=e) (hv:m*2 ^ e=n.natAbs*2 ^ q) (hs:n≠0->s=decide (n<0)) (base:Int) (hb:base<=p) (E Q:Nat) (hE:base+(Q:Int)=E):
  signed s m (p-base).toNat*2 ^ E=n*2 ^ Q:=by
 have hpos:(m<<<(p-base).toNat)*2 ^ E=n.natAbs*2 ^ Q:=by
  rw[ja];refine Xg (nI q) ?_
  calc m*2 ^ (p-base).toNat*2 ^ E*2 ^ q=m*2 ^ ((p-base).toNat+E+q):=by rw[oH,oH];ac_rfl
   _=m*2 ^ (e+Q):=by congr 2;omega
   _=(m*2 ^ e)*2 ^ Q:=by rw[oH];ac_rfl
   _=n.natAbs*2 ^ Q*2 ^ q:=by rw[hv];ac_rfl
 by_cases hn:n=0
 .subst hn;have hm:m<<<(p-base).toNat=0:=by
   have:0<2 ^ E:=nI E;rcases Nat.mul_eq_zero.1 (by simpa using hpos)with h|h
   .exact h
   .omega
  unfold signed;rw[hm];cases s<;>simp
 .have hs':=hs hn;have hI:((m<<<(p-base).toNat:Nat):Int)*2 ^ E=(n.natAbs:Int)*2 ^ Q:=by
   have:=congrArg (Nat.cast (R:=Int)) hpos;simpa using this
  unfold signed;by_cases h:n<0
  .rw[hs',decide_eq_true h,if_pos rfl,Int.neg_mul,hI];have:(n.natAbs:Int)= -n:=by omega
   rw[this];simp[Int.neg_mul]
  .rw[hs',decide_eq_false h,if_neg (by simp),hI];have:(n.natAbs:Int)=n:=by omega
   rw[this]
theorem pow_pos_int (k:Nat):(0:Int)<2 ^ k:=by exact_mod_cast nI k
theorem is_sum {a b:Datum} {x y:Int} (ha:Is a x) (hb:Is b y): ∃c,a.sum b=some c/\Is c (x+y):=by
 obtain⟨s,m,p,e,q,rfl,hp,hv,hs⟩:=ha;obtain⟨t,k,r,f,u,rfl,hr,hw,ht⟩:=hb;have hbase:min p r+((q+u:Nat):Int)=((min p r+(q+u)).toNat:Nat):=by omega
 have h1:=signed_val hp hv hs (min p r) om _ (q+u) hbase;have h2:=signed_val hr hw ht (min p r) om _ (q+u) hbase;have h3:(signed s m (p-min p r).toNat+signed t k (r-min p r).toNat)*2 ^ (min p r+(q+u)).toNat=(x+y)*2 ^ (q+u):=by
  rw[Int.add_mul,h1,h2,Int.add_mul]
 generalize hT:signed s m (p-min p r).toNat+signed t k (r-min p r).toNat=T at h3;have hE:=pow_pos_int (min p r+(q+u)).toNat;have hQ:=pow_pos_int (q+u);refine⟨_,rfl,_,_,_,(min p r+(q+u)).toNat,q+u,rfl,hbase, ?_, ?_⟩
 .have:=congrArg Int.natAbs h3;rw[Int.natAbs_mul,Int.natAbs_mul,Int.natAbs_pow,Int.natAbs_pow]at this;simp only[hT];exact this
 .intro hxy;simp only[hT];have hT0:T≠0:=by
   intro h;rw[h,Int.zero_mul]at h3;rcases Int.mul_eq_zero.1 h3.symm with h|h
   .exact hxy h
   .omega
  rw[if_neg hT0];by_cases h:x+y<0
  .have:T<0:=by
    refine Classical.byContradiction λhc=> ?_;have a1:0<=T*2 ^ (min p r+(q+u)).toNat:=Int.mul_nonneg om om;have a2:=Int.mul_neg_of_neg_of_pos h hQ;omega
   simp[this,h]
  .have: ¬T<0:=by
    intro hc;have a1:=Int.mul_neg_of_neg_of_pos hc hE;have a2:0<=(x+y)*2 ^ (q+u):=Int.mul_nonneg om om;omega
   simp[this,h]
theorem is_order {a b:Datum} {x y:Int} (ha:Is a x) (hb:Is b y):a.order b=some (compare x y):=by
 obtain⟨s,m,p,e,q,rfl,hp,hv,hs⟩:=ha;obtain⟨t,k,r,f,u,rfl,hr,hw,ht⟩:=hb;have hbase:min p r+((q+u:Nat):Int)=((min p r+(q+u)).toNat:Nat):=by omega
 have h1:=signed_val hp hv hs (min p r) om _ (q+u) hbase;have h2:=signed_val hr hw ht (min p r) om _ (q+u) hbase;unfold Datum.order;simp only;congr 1;generalize signed s m (p-min p r).toNat=A at*;generalize signed t k (r-min p r).toNat=B at*;have hE:=pow_pos_int (min p r+(q+u)).toNat;have hQ:=pow_pos_int (q+u);generalize(2:Int) ^ (min p r+(q+u)).toNat=E at*;generalize(2:Int) ^ (q+u)=Q at*;have key: ∀{A B x y:Int},A*E=x*Q->B*E=y*Q->A<B->x<y:=by
  intro A B x y h1 h2 h;have:A*E<B*E:=Int.mul_lt_mul_of_pos_right h hE;rw[h1,h2]at this;exact Int.lt_of_mul_lt_mul_right this om
 rcases Int.lt_trichotomy A B with h|h|h
 .rw[Int.compare_eq_lt.2 h,Int.compare_eq_lt.2 (key h1 h2 h)]
 .subst h;have:x*Q=y*Q:=by rw[<-h1,<-h2]
  have:=Int.eq_of_mul_eq_mul_right om this;subst this;rw[Int.compare_eq_eq.2 rfl,Int.compare_eq_eq.2 rfl]
 .rw[Int.compare_eq_gt.2 h,Int.compare_eq_gt.2 (key h2 h1 h)]
theorem is_toInt {a:Datum} {x:Int} (ha:Is a x):a.toInt .zero=some x:=by
 obtain⟨s,m,p,e,q,rfl,hp,hv,hs⟩:=ha;unfold Datum.toInt Datum.integral;simp only;congr 1;have hc:Toward.zero.cut s (m<<<p.toNat) (-p).toNat=x.natAbs:=by
  by_cases h:0<=p
  .have e1:(-p).toNat=0:=by omega
   rw[e1,cut_zero,ja];refine Xg (nI q) ?_;rw[<-hv,rQ,<-oH];congr 2;omega
  .have e1:p.toNat=0:=by omega
   rw[e1,ze];have:m=x.natAbs*2 ^ (-p).toNat:=by
    refine Xg (nI e) ?_;rw[hv,rQ,<-oH];congr 2;omega
   rw[this,cut_exact]
 rw[hc];unfold signed;rw[ze];by_cases hx:x=0
 .subst hx;cases s<;>simp
 .rw[hs hx];by_cases h:x<0
  .simp[h];omega
  .simp[h];omega
end Flo
namespace Go.Proofs.YtccjfanpjojbnaaGreatDoor
def F (b:Nat) (n:Int):Prop:=Flo.Is (Ieee.double.read b) n
def Sm (n:Int):Prop:=n.natAbs<2 ^ 52
theorem IE {n:Int} (h:Sm n):F (floatOfInt .f64 n) n:=Flo.is_write _ _ (Flo.is_int n) (by unfold Sm at h;omega)
theorem ID {a b:Nat} {x y:Int} (ha:F a x) (hb:F b y) (h:Sm (x*y)): ∃r,floatBits .mul .f64 a b=some r/\F r (x*y):=by
 obtain⟨c,hc,hi⟩:=Flo.is_product ha hb;refine⟨Ieee.double.write c, ?_,Flo.is_write _ _ hi (by unfold Sm at h;omega)⟩;show Ieee.double.mul a b=_;unfold Ieee.Format.mul;rw[hc];rfl
theorem OL {a b:Nat} {x y:Int} (ha:F a x) (hb:F b y) (h:Sm (x+y)): ∃r,floatBits .add .f64 a b=some r/\F r (x+y):=by
 obtain⟨c,hc,hi⟩:=Flo.is_sum ha hb;refine⟨Ieee.double.write c, ?_,Flo.is_write _ _ hi (by unfold Sm at h;omega)⟩;show Ieee.double.add a b=_;unfold Ieee.Format.add;rw[hc];rfl
theorem Th {a b:Nat} {x y:Int} (ha:F a x) (hb:F b y) (h:Sm (x-y)): ∃r,floatBits .sub .f64 a b=some r/\F r (x-y):=by
 obtain⟨c,hc,hi⟩:=Flo.is_sum ha (Flo.is_opposite hb);refine⟨Ieee.double.write c, ?_, ?_⟩
 .show Ieee.double.sub a b=_;unfold Ieee.Format.sub;rw[hc];rfl
 .rw[Int.sub_eq_add_neg];exact Flo.is_write _ _ hi (by unfold Sm at h;omega)
theorem Tj {a b c d:Nat} {x y u v:Int} (ha:F a x) (hb:F b y) (hc:F c u) (hd:F d v) (h1:Sm (x*u)) (h2:Sm (y*v)) (h3:Sm (x*v)) (h4:Sm (y*u)) (h5:Sm (x*u-y*v)) (h6:Sm (x*v+y*u)):
  ∃r s,cMulBits a b c d=some (r,s)/\F r (x*u-y*v)/\F s (x*v+y*u):=by
 obtain⟨p1,e1,f1⟩:=ID ha hc h1;obtain⟨p2,e2,f2⟩:=ID hb hd h2;obtain⟨p3,e3,f3⟩:=ID ha hd h3;obtain⟨p4,e4,f4⟩:=ID hb hc h4;obtain⟨p5,e5,f5⟩:=Th f1 f2 h5;obtain⟨p6,e6,f6⟩:=OL f3 f4 h6;exact⟨p5,p6,by simp[cMulBits,e1,e2,e3,e4,e5,e6],f5,f6⟩
theorem Tk {a b c d:Nat} {x y u v:Int} (ha:F a x) (hb:F b y) (hc:F c u) (hd:F d v) (h1:Sm (x+u)) (h2:Sm (y+v)):
  ∃r s,cSumBits .add .f64 a b c d=some (r,s)/\F r (x+u)/\F s (y+v):=by
 obtain⟨p1,e1,f1⟩:=OL ha hc h1;obtain⟨p2,e2,f2⟩:=OL hb hd h2;exact⟨p1,p2,by simp[cSumBits,e1,e2],f1,f2⟩
theorem A8 {a b:Nat} {x y:Int} (ha:F a x) (hb:F b y):FloatKind.f64.format.order a b=some (compare x y):=Flo.is_order ha hb
theorem A7 {a:Nat} {x:Int} (ha:F a x) (h:Sm x):floatToIntVal .f64 a .i64=some x:=by
 unfold floatToIntVal;have:(FloatKind.f64.decode a).toInt .zero=some x:=Flo.is_toInt ha;rw[this];have hb:aC.min<=x/\x<=aC.max:=by
  unfold Sm at h;have e1:aC.min= -9223372036854775808:=by decide
  have e2:aC.max=9223372036854775807:=by decide
  rw[e1,e2];omega
 show(if _ then _ else _)=_;rw[if_pos hb]
theorem lD:F 0 0:=by
 refine⟨false,0,_,0,1074,(by decide:Ieee.double.read 0= .number false 0 (-1074)),by decide,by simp only[Nat.zero_mul,Int.natAbs_zero],by simp⟩
theorem yN:F 4607182418800017408 1:=by
 refine⟨false,4503599627370496,-52,0,52,(by decide:Ieee.double.read 4607182418800017408= .number false 4503599627370496 (-52)),by decide,by decide,by simp⟩
theorem Ti:F 13830554455654793216 (-1):=by
 refine⟨true,4503599627370496,-52,0,52,(by decide:Ieee.double.read 13830554455654793216= .number true 4503599627370496 (-52)),by decide,by decide,by simp⟩
theorem XM (b k:Nat):(b ^^^ 2 ^ k)%2 ^ k=b%2 ^ k/\((b ^^^ 2 ^ k)/2 ^ k%2==1)= !(b/2 ^ k%2==1):=by
 constructor
 .rw[Nat.xor_mod_two_pow,Nat.mod_self,Nat.xor_zero]
 .rw[Nat.xor_div_two_pow,Nat.div_self (nI k)];have:=Nat.xor_mod_two_pow (a:=b/2 ^ k) (b:=1) (n:=1);rw[Nat.pow_one]at this;rw[this];rcases Nat.mod_two_eq_zero_or_one (b/2 ^ k)with h|h<;>rw[h]<;>decide
theorem B6 {b:Nat} {n:Int} (h:F b n):F (Op.negFloat .f64 b) (-n):=by
 have e:Op.negFloat .f64 b=b ^^^ 2 ^ 63:=rfl;have hr:Ieee.double.read (Op.negFloat .f64 b)=(Ieee.double.read b).opposite:=by
  rw[e];have h1:=(XM b 63).1;have h2:=(XM b 63).2;have hs:Ieee.double.signWeight=2 ^ 63:=rfl;unfold Ieee.Format.read;rw[hs,h1,h2];dsimp only;generalize b%2 ^ 63=r;generalize(b/2 ^ 63%2==1)=s;split
  .rfl
  .split
   .rfl
   .split<;>rfl
 unfold F;rw[hr];exact Flo.is_opposite h
end Go.Proofs.YtccjfanpjojbnaaGreatDoor
namespace Go.Proofs.YtccjfanpjojbnaaGreatDoor
structure St where
 k:Int
 x:Int
 y:Int
deriving DecidableEq
structure Mo where
 flip:Bool
 bx:Int
 bY:Int
 mx:Int
 my:Int
def iC (n far:Int):Bool:=decide (-far<=n)&&decide (n<=far)
def dT (s:St):Bool:=
 if s.k=1 then iC s.x 4096&&iC s.y 4096
 else if s.k=2 then iC s.x 1000&&decide (s.y=0)
 else if s.k=3 then decide (1<=s.x)&&decide (s.x<=8)&&decide (s.y=0)
 else if s.k=4 then decide (s.x=0)&&decide (s.y=0)
 else false
def gF (l:List St):Bool:=l.all dT&&decide (l.length<=8)
def oO (n:Int):Nat:=(n%4).toNat
def fA:Nat->Int × Int->Int × Int
 |0,p=>p
 |k+1,p=>fA k (-p.2,p.1)
def Mo.one:Mo:=⟨false,1,0,0,0⟩
def Mo.tu (m:Mo) (z:Int × Int):Int × Int:=
 let y:=if m.flip then-z.2 else z.2
 (m.bx*z.1-m.bY*y+m.mx,m.bx*y+m.bY*z.1+m.my)
def jR (s:St):Mo:=
 if s.k=1 then {Mo.one with mx:=s.x,my:=s.y}
 else if s.k=2 then {Mo.one with bx:=(fA (oO s.x) (1,0)).1,bY:=(fA (oO s.x) (1,0)).2}
 else if s.k=3 then {Mo.one with bx:=s.x}
 else if s.k=4 then {Mo.one with flip:=true}
 else Mo.one
def behind (m n:Mo):Mo:=
 let nY:=if m.flip then-n.bY else n.bY
 {flip:=m.flip !=n.flip,mx:=(m.tu (n.mx,n.my)).1,my:=(m.tu (n.mx,n.my)).2,bx:=m.bx*n.bx-m.bY*nY,bY:=m.bx*nY+m.bY*n.bx}
def gU (l:List St):Mo:=l.foldl (λm s=>behind m (jR s)) Mo.one
theorem Gb {n far:Int}:iC n far=true↔ -far<=n/\n<=far:=by simp[iC]
theorem Bc (k:Nat): ∀p:Int × Int,fA k (-p.2,p.1)=(-(fA k p).2,(fA k p).1):=by
 induction k with
 |zero=>intro p;rfl
 |succ k ih=>intro p;simp only[fA];rw[ih (-p.2,p.1)]
def Bd (c:Nat) (m:Mo):Prop:=m.bx.natAbs<=c/\m.bY.natAbs<=c/\m.mx.natAbs<=8192*c/\m.my.natAbs<=8192*c
def Ax (m:Mo):Prop:=(m.bx=0\/m.bY=0)/\(m.bx≠0\/m.bY≠0)
theorem mX {a b:Int} {A B:Nat} (ha:a.natAbs<=A) (hb:b.natAbs<=B):(a*b).natAbs<=A*B:=by
 rw[Int.natAbs_mul];exact Nat.mul_le_mul ha hb
theorem JV {a b:Int} {A B:Nat} (ha:a.natAbs<=A) (hb:b.natAbs<=B):(a-b).natAbs<=A+B:=by omega
theorem DA {a b:Int} {A B:Nat} (ha:a.natAbs<=A) (hb:b.natAbs<=B):(a+b).natAbs<=A+B:=by omega
theorem TA (k:Nat) (p:Int × Int) (h:p=(1,0)\/p=(0,1)\/p=(-1,0)\/p=(0,-1)):fA k p=(1,0)\/fA k p=(0,1)\/fA k p=(-1,0)\/fA k p=(0,-1):=by
 induction k generalizing p with
 |zero=>exact h
 |succ k ih=>simp only[fA];apply ih;rcases h with rfl|rfl|rfl|rfl<;>simp
theorem KG (s:St) (h:dT s=true):Ax (jR s)/\(jR s).bx.natAbs<=8/\(jR s).bY.natAbs<=8/\(jR s).mx.natAbs<=4096/\(jR s).my.natAbs<=4096:=by
 unfold dT iC at h;unfold jR Ax;split
 .rename_i h1;simp[h1]at h;simp[Mo.one];omega
 .split
  .rcases TA (oO s.x) (1,0) (by simp)with e|e|e|e<;>simp[e,Mo.one]
  .split
   .rename_i h1 h2 h3;simp[h3]at h;simp[Mo.one];omega
   .split<;>simp[Mo.one]
theorem Rh (m n:Mo) (hm:Ax m) (hn:Ax n):Ax (behind m n):=by
 obtain⟨f,a,b,c,d⟩:=m;obtain⟨g,a',b',c',d'⟩:=n;obtain⟨h1,h2⟩:=hm;obtain⟨h3,h4⟩:=hn;simp only at h1 h2 h3 h4;unfold Ax behind;rcases h1 with rfl|rfl<;>rcases h3 with rfl|rfl<;>simp at h2 h4<;>cases f<;>simp[h2,h4,Int.mul_eq_zero]
theorem Ih {a b u v:Int} {c:Nat} (h:u=0\/v=0) (ha:a.natAbs<=c) (hb:b.natAbs<=c) (hu:u.natAbs<=8) (hv:v.natAbs<=8):(a*u-b*v).natAbs<=8*c/\(a*v+b*u).natAbs<=8*c:=by
 have q1:=mX ha hu;have q2:=mX hb hv;have q3:=mX ha hv;have q4:=mX hb hu;rcases h with rfl|rfl
 .simp only[Int.mul_zero]at*;omega
 .simp only[Int.mul_zero]at*;omega
theorem Gt {a b x y e d:Int} {c:Nat} (ha:a.natAbs<=c) (hb:b.natAbs<=c) (hx:x.natAbs<=4096) (hy:y.natAbs<=4096) (he:e.natAbs<=8192*c) (hd:d.natAbs<=8192*c):(a*x-b*y+e).natAbs<=8192*(8*c)/\(a*y+b*x+d).natAbs<=8192*(8*c):=by
 have q1:=mX ha hx;have q2:=mX hb hy;have q3:=mX ha hy;have q4:=mX hb hx;omega
theorem Rg (c:Nat) (m n:Mo) (hm:Bd c m) (hax:Ax n) (h1:n.bx.natAbs<=8) (h2:n.bY.natAbs<=8) (h3:n.mx.natAbs<=4096) (h4:n.my.natAbs<=4096):Bd (8*c) (behind m n):=by
 obtain⟨p1,p2,p3,p4⟩:=hm;have hz:=hax.1;have hy:(if m.flip then-n.bY else n.bY).natAbs<=8:=by split<;>omega
 have hz':n.bx=0\/(if m.flip then-n.bY else n.bY)=0:=by rcases hz with h|h<;>simp[h]
 have hw:(if m.flip then-n.my else n.my).natAbs<=4096:=by split<;>omega
 have r1:=Ih hz' p1 p2 h1 hy;have r2:=Gt p1 p2 h3 hw p3 p4;exact⟨r1.1,r1.2,r2.1,r2.2⟩
theorem Sd (l:List St) (h: ∀s∈l,dT s=true) (c:Nat) (m:Mo) (hm:Bd c m) (ha:Ax m):Bd (8 ^ l.length*c) (l.foldl (λm s=>behind m (jR s)) m)/\Ax (l.foldl (λm s=>behind m (jR s)) m):=by
 induction l generalizing m c with
 |nil=>simpa using⟨hm,ha⟩
 |cons s l ih=>
  obtain⟨hx,b1,b2,b3,b4⟩:=KG s (h s (by simp));have:=ih (λt ht=>h t (by simp[ht])) (8*c) (behind m (jR s)) (Rg c m _ hm hx b1 b2 b3 b4) (Rh m _ ha hx);simp only[List.foldl_cons,List.length_cons];rw[show 8 ^ (l.length+1)*c=8 ^ l.length*(8*c) by rw[Nat.pow_succ];ac_rfl];exact this
theorem Bd.mono {c c':Nat} {m:Mo} (h:Bd c m) (hc:c<=c'):Bd c' m:=by
 obtain⟨a,b,d,e⟩:=h;exact⟨by omega,by omega,by omega,by omega⟩
theorem Rj:Bd 1 Mo.one:=by simp[Bd,Mo.one]
theorem Rl:Ax Mo.one:=by simp[Ax,Mo.one]
theorem GS (l:List St) (h:gF l=true) (k:Nat):Bd 16777216 (gU (l.take k))/\Ax (gU (l.take k)):=by
 unfold gF at h;simp only[bD,dO,decide_eq_true_eq]at h;have hh:=Sd (l.take k) (λs hs=>h.1 s (List.mem_of_mem_take hs)) 1 Mo.one Rj Rl;refine⟨hh.1.mono ?_,hh.2⟩;have:(l.take k).length<=8:=by rw[List.length_take];omega
 have:=Nat.pow_le_pow_right (n:=8) om this;omega
end Go.Proofs.YtccjfanpjojbnaaGreatDoor
namespace Go.Proofs.YtccjfanpjojbnaaGreatDoor
open Go.RowKit
theorem M6 {a b:Bool} (h:a=b):aL (aI a)=aL (aI b):=by rw[h]
theorem BT (n far:Int) (w:World) (h0:0<=far) (h1:far<=100000):
  Calls aE 236 #[aB aC n,aB aC far] w λe w'=>e=aL (aI (iC n far))/\w=w':=by
 go_enter Tryz.func236,Tryz.ntmps236;go_wp2
 all_goals go_ret
 all_goals exact⟨M6 (by unfold iC;simp<;>omega),rfl⟩
@[go_sem] theorem Tu {P:Program} {w:World} {a:Addr} {md:Mode} (k:FloatKind) (r s:Nat):(store a (.complex k r s) md).run P w=stored P w a (.complex k r s) md:=run_store P w a _ md rfl
@[go_sem] theorem Tv {P:Program} (b:Nat) (w:World):(Op.unary .neg (.float .f64 b)).run P w= .ok (.float .f64 (Op.negFloat .f64 b)) w:=rfl
theorem UL (x y:Int) (w:World):
  Calls aE 266 #[aB aC x,aB aC y] w λe w'=>e=aL (.complex .f64 (floatOfInt .f64 x) (floatOfInt .f64 y))/\w=w':=by
 go_enter Tryz.func266,Tryz.ntmps266;go_wp2
 go_ret;exact⟨rfl,rfl⟩
theorem WQ (r s:Nat) (x y:Int) (w:World) (hr:F r x) (hs:F s y) (hx:Sm x) (hy:Sm y):
  Calls aE 234 #[.complex .f64 r s] w λe w'=>e=aL (aN #[aB aC x,aB aC y])/\w=w':=by
 have e1:=λw:World=>run_convert_float_int (P:=aE) w 278 3 .f64 .i64 r x kr kr  (A7 hr hx);have e2:=λw:World=>run_convert_float_int (P:=aE) w 278 3 .f64 .i64 s y kr kr  (A7 hs hy);go_enter Tryz.func234,Tryz.ntmps234;go_wp2
 go_ret2;exact⟨rfl,rfl⟩
theorem NE (r s:Nat) (w:World):
  Calls aE 265 #[.complex .f64 r s] w λe w'=>e=aL (.complex .f64 r (Op.negFloat .f64 s))/\w=w':=by
 go_enter Tryz.func265,Tryz.ntmps265;go_wp2
 go_ret;exact⟨rfl,rfl⟩
structure MB where
 f:Bool
 b1:Nat
 b2:Nat
 m1:Nat
 m2:Nat
def MB.val (m:MB):Value:= aR #[aI m.f,.complex .f64 m.b1 m.b2,.complex .f64 m.m1 m.m2]
def MB.is (u:MB) (m:Mo):Prop:=u.f=m.flip/\F u.b1 m.bx/\F u.b2 m.bY/\F u.m1 m.mx/\F u.m2 m.my
def iR (a b c d:Nat):Nat × Nat:=(cMulBits a b c d).getD (0,0)
def wO (a b c d:Nat):Nat × Nat:=(cSumBits .add .f64 a b c d).getD (0,0)
theorem AB {P:Program} {a b c d:Nat} (t:TypeId) (h:(cMulBits a b c d).isSome=true) (w:World):(binOp .mul t (.complex .f64 a b) (.complex .f64 c d)).run P w= .ok (.complex .f64 (iR a b c d).1 (iR a b c d).2) w:=by
 obtain⟨⟨r,s⟩,e⟩:=Option.isSome_iff_exists.1 h;have:iR a b c d=(r,s):=by simp[iR,e]
 rw[this];exact run_complex_mul w t a b c d r s e
theorem Qq {P:Program} {a b c d:Nat} (t:TypeId) (h:(cSumBits .add .f64 a b c d).isSome=true) (w:World):(binOp .add t (.complex .f64 a b) (.complex .f64 c d)).run P w= .ok (.complex .f64 (wO a b c d).1 (wO a b c d).2) w:=by
 obtain⟨⟨r,s⟩,e⟩:=Option.isSome_iff_exists.1 h;have:wO a b c d=(r,s):=by simp[wO,e]
 rw[this];exact run_complex_sum w .add (Or.inl rfl) t .f64 a b c d r s e
theorem GG {a b c d:Nat} {x y u v:Int} (ha:F a x) (hb:F b y) (hc:F c u) (hd:F d v) (h1:Sm (x*u)) (h2:Sm (y*v)) (h3:Sm (x*v)) (h4:Sm (y*u)) (h5:Sm (x*u-y*v)) (h6:Sm (x*v+y*u)):
  (cMulBits a b c d).isSome=true/\F (iR a b c d).1 (x*u-y*v)/\F (iR a b c d).2 (x*v+y*u):=by
 obtain⟨r,s,e,f1,f2⟩:=Tj ha hb hc hd h1 h2 h3 h4 h5 h6;simp[iR,e,f1,f2]
theorem Qr {a b c d:Nat} {x y u v:Int} (ha:F a x) (hb:F b y) (hc:F c u) (hd:F d v) (h1:Sm (x+u)) (h2:Sm (y+v)):
  (cSumBits .add .f64 a b c d).isSome=true/\F (wO a b c d).1 (x+u)/\F (wO a b c d).2 (y+v):=by
 obtain⟨r,s,e,f1,f2⟩:=Tk ha hb hc hd h1 h2;simp[wO,e,f1,f2]
def MB.tu (u:MB) (z:Nat × Nat):Nat × Nat:=
 let s:=if u.f then Op.negFloat .f64 z.2 else z.2
 wO (iR u.b1 u.b2 z.1 s).1 (iR u.b1 u.b2 z.1 s).2 u.m1 u.m2
theorem iY {n:Int} (c:Nat) (h:n.natAbs<=c) (hc:c<=4503599627370495):Sm n:=by unfold Sm;omega
theorem QO (u:MB) (m:Mo) (r s:Nat) (x y:Int) (hv:u.is m) (hm:Bd 134217728 m) (hr:F r x) (hs:F s y) (hx:x.natAbs<=4096) (hy:y.natAbs<=4096):
  (cMulBits u.b1 u.b2 r (if u.f then Op.negFloat .f64 s else s)).isSome=true/\
  (cSumBits .add .f64 (iR u.b1 u.b2 r (if u.f then Op.negFloat .f64 s else s)).1 (iR u.b1 u.b2 r (if u.f then Op.negFloat .f64 s else s)).2 u.m1 u.m2).isSome=true/\
  F (u.tu (r,s)).1 (m.tu (x,y)).1/\F (u.tu (r,s)).2 (m.tu (x,y)).2:=by
 obtain⟨f0,f1,f2,f3,f4⟩:=hv;obtain⟨a1,a2,a3,a4⟩:=hm;have hs':F (if u.f then Op.negFloat .f64 s else s) (if m.flip then-y else y):=by
  rw[f0];cases m.flip
  .exact hs
  .exact B6 hs
 have hy':(if m.flip then-y else y).natAbs<=4096:=by split<;>omega
 unfold MB.tu Mo.tu;dsimp only;generalize(if u.f then Op.negFloat .f64 s else s)=s' at*;generalize(if m.flip then-y else y)=y' at*;have q1:=mX a1 hx;have q2:=mX a2 hy';have q3:=mX a1 hy';have q4:=mX a2 hx;obtain⟨e,g1,g2⟩:=GG f1 f2 hr hs' (iY _ q1 om) (iY _ q2 om) (iY _ q3 om) (iY _ q4 om) (iY _ (JV q1 q2) om) (iY _ (DA q3 q4) om);obtain⟨e',g1',g2'⟩:=Qr g1 g2 f3 f4 (iY _ (DA (JV q1 q2) a3) om) (iY _ (DA (DA q3 q4) a4) om);exact⟨e,e',g1',g2'⟩
theorem O0 (u:MB) (m:Mo) (r s:Nat) (x y:Int) (w:World) (hv:u.is m) (hm:Bd 134217728 m) (hr:F r x) (hs:F s y) (hx:x.natAbs<=4096) (hy:y.natAbs<=4096):
  Calls aE 264 #[u.val,.complex .f64 r s] w (aH (.complex .f64 (u.tu (r,s)).1 (u.tu (r,s)).2) w):=by
 obtain⟨k1,k2,_,_⟩:=QO u m r s x y hv hm hr hs hx hy;clear hv hm hr hs hx hy;obtain⟨f,b1,b2,m1,m2⟩:=u;unfold MB.val MB.tu;dsimp only at*;cases f;all_goals
  simp only[gW,reduceIte]at k1 k2 ⊢;have h1:=λw=>AB (P:=aE) 262 k1 w;have h2:=λw=>Qq (P:=aE) 262 k2 w;clear k1 k2;go_enter Tryz.func264,Tryz.ntmps264;go_wp2_with(go_at_call 265;refine(NE _ _ _).mono ?_;rintro e w' ⟨rfl,rfl⟩)
  go_ret;exact aH.of rfl ((Below.refl _ _).alloc (Nat.le_refl _) _)
end Go.Proofs.YtccjfanpjojbnaaGreatDoor
namespace Go.Proofs.YtccjfanpjojbnaaGreatDoor
open Go.RowKit
def MB.behind (u v:MB):MB:=
 {f:= !(u.f==v.f),m1:=(u.tu (v.m1,v.m2)).1,m2:=(u.tu (v.m1,v.m2)).2,
  b1:=(iR u.b1 u.b2 v.b1 (if u.f then Op.negFloat .f64 v.b2 else v.b2)).1,b2:=(iR u.b1 u.b2 v.b1 (if u.f then Op.negFloat .f64 v.b2 else v.b2)).2}
theorem ZL (u v:MB) (m n:Mo) (hu:u.is m) (hv:v.is n) (hm:Bd 16777216 m) (hn:n.bx.natAbs<=8/\n.bY.natAbs<=8) (hx:n.mx.natAbs<=4096) (hy:n.my.natAbs<=4096):
  (cMulBits u.b1 u.b2 v.b1 (if u.f then Op.negFloat .f64 v.b2 else v.b2)).isSome=true/\(u.behind v).is (behind m n):=by
 have ht:=QO u m v.m1 v.m2 n.mx n.my hu (hm.mono om) hv.2.2.2.1 hv.2.2.2.2 hx hy;obtain⟨f0,f1,f2,f3,f4⟩:=hu;obtain⟨g0,g1,g2,g3,g4⟩:=hv;obtain⟨a1,a2,a3,a4⟩:=hm;have hs':F (if u.f then Op.negFloat .f64 v.b2 else v.b2) (if m.flip then-n.bY else n.bY):=by
  rw[f0];cases m.flip
  .exact g2
  .exact B6 g2
 have hy':(if m.flip then-n.bY else n.bY).natAbs<=8:=by split<;>omega
 unfold MB.behind MB.is behind;dsimp only;generalize(if u.f then Op.negFloat .f64 v.b2 else v.b2)=s' at*;generalize(if m.flip then-n.bY else n.bY)=y' at*;have q1:=mX a1 hn.1;have q2:=mX a2 hy';have q3:=mX a1 hy';have q4:=mX a2 hn.1;obtain⟨e,k1,k2⟩:=GG f1 f2 g1 hs' (iY _ q1 om) (iY _ q2 om) (iY _ q3 om) (iY _ q4 om) (iY _ (JV q1 q2) om) (iY _ (DA q3 q4) om);exact⟨e,by rw[f0,g0];rfl,k1,k2,ht.2.2.1,ht.2.2.2⟩
theorem Ri (u v:MB) (m n:Mo) (w:World) (hu:u.is m) (hv:v.is n) (hm:Bd 16777216 m) (hn:n.bx.natAbs<=8/\n.bY.natAbs<=8) (hx:n.mx.natAbs<=4096) (hy:n.my.natAbs<=4096):
  Calls aE 254 #[u.val,v.val] w (aH (u.behind v).val w):=by
 have hto:=λ(w:World)=>O0 u m v.m1 v.m2 n.mx n.my w hu (hm.mono om) hv.2.2.2.1 hv.2.2.2.2 hx hy;have k1:=(ZL u v m n hu hv hm hn hx hy).1;clear hu hv hm hn hx hy;generalize hp:u.tu (v.m1,v.m2)=p at*;have HB:Hid ((u.behind v)={f:= !(u.f==v.f),m1:=p.1,m2:=p.2,b1:=(iR u.b1 u.b2 v.b1 (if u.f then Op.negFloat .f64 v.b2 else v.b2)).1,b2:=(iR u.b1 u.b2 v.b1 (if u.f then Op.negFloat .f64 v.b2 else v.b2)).2}):=by
  unfold MB.behind;rw[hp];exact rfl
 clear hp;rw[HB.out];clear HB;obtain⟨uf,b1,b2,m1,m2⟩:=u;obtain⟨vf,c1,c2,n1,n2⟩:=v;obtain⟨p1,p2⟩:=p;have HT:=aA hto;clear hto;unfold MB.val at*;dsimp only at*;cases uf
 .rw[show(!(false==vf))=vf from by cases vf<;>rfl];simp only[gW,reduceIte]at k1 ⊢;have h1:=λw=>AB (P:=aE) 262 k1 w;clear k1;go_enter Tryz.func254,Tryz.ntmps254;go_upto_region 1 with fail
  go_cut [5] (λs5 wx=> ∃g,s5=Value.pointer (some ⟨g,0,none⟩)/\w.heap.size+1+1+1<=g/\(∃X,wx=(((w.alloc (.cells #[aI false,.complex .f64 b1 b2,.complex .f64 m1 m2] 264)).alloc (.cells #[aI vf,.complex .f64 c1 c2,.complex .f64 n1 n2] 264)).alloc (.cells #[aI false,.complex .f64 0 0,.complex .f64 0 0] 264)).grow X)/\wx.cell? ⟨g,0,none⟩=some (aI (vf))/\wx.cell? ⟨g,1,none⟩=some (.complex .f64 0 0)/\wx.cell? ⟨g,2,none⟩=some (.complex .f64 p1 p2)/\wx.frozen? ⟨g,1,none⟩=false)
  case first=>
   go_region_held3 (λw'=>(w'.cell? ⟨w.heap.size,0,none⟩=some (aI false)/\w'.cell? ⟨w.heap.size,1,none⟩=some (.complex .f64 b1 b2)/\w'.cell? ⟨w.heap.size,2,none⟩=some (.complex .f64 m1 m2))/\w'.cell? ⟨w.heap.size+1,0,none⟩=some (aI vf)/\w'.cell? ⟨w.heap.size+1,2,none⟩=some (.complex .f64 n1 n2)) (first|(go_simp;done)|(simp[go_sem,↓IntWalk.iteOmega];done))
    (first|(go_at_call 264;refine(HT.out _).mono ?_;rintro e w1 ⟨rfl,X,rfl⟩))
   all_goals
    go_wp2_with fail
    go_meet
    refine⟨_,rfl, ?_,cV aG, ?_, ?_, ?_, ?_⟩;all_goals(simp[go_sem])
  case rest=>
   obtain⟨g,rfl,hg,⟨X,rfl⟩,g0,g1,g2,gf⟩:=hcut;have hg':((((w.alloc (.cells #[aI false,.complex .f64 b1 b2,.complex .f64 m1 m2] 264)).alloc (.cells #[aI vf,.complex .f64 c1 c2,.complex .f64 n1 n2] 264)).alloc (.cells #[aI false,.complex .f64 0 0,.complex .f64 0 0] 264)).heap.size<=g):=by simpa[go_sem]using hg
   have g0':=vY hg' g0;have g1':=vY hg' g1;have g2':=vY hg' g2;have gf':=UW hg' gf;clear g0 g1 g2 gf hg';simp only[World.size_alloc]at g0' g1' g2' gf';have hg0: ¬g<w.heap.size+1+1+1:=by omega
   have hg1: ¬g=w.heap.size:=by omega
   have hg2: ¬g=w.heap.size+1:=by omega
   have hg3: ¬g=w.heap.size+1+1:=by omega
   have hg4: ¬w.heap.size=g:=by omega
   have hg5: ¬w.heap.size+1=g:=by omega
   have hg6: ¬w.heap.size+1+1=g:=by omega
   clear HT;go_wp2_with(go_at_call 265;refine(NE _ _ _).mono ?_;rintro e w' ⟨rfl,rfl⟩)
   refine bodyPost_ret (v:= aR #[aI (vf),.complex .f64 (iR b1 b2 c1 c2).1 (iR b1 b2 c1 c2).2,.complex .f64 p1 p2]) ?_ rfl (aH.of rfl aG);simp[results,Tryz.results254,go_sem]
 .rw[show(!(true==vf))= !vf from by cases vf<;>rfl];simp only[reduceIte]at k1 ⊢;have h1:=λw=>AB (P:=aE) 262 k1 w;clear k1;go_enter Tryz.func254,Tryz.ntmps254;go_upto_region 1 with fail
  go_cut [5] (λs5 wx=> ∃g,s5=Value.pointer (some ⟨g,0,none⟩)/\w.heap.size+1+1+1<=g/\(∃X,wx=(((w.alloc (.cells #[aI true,.complex .f64 b1 b2,.complex .f64 m1 m2] 264)).alloc (.cells #[aI vf,.complex .f64 c1 c2,.complex .f64 n1 n2] 264)).alloc (.cells #[aI false,.complex .f64 0 0,.complex .f64 0 0] 264)).grow X)/\wx.cell? ⟨g,0,none⟩=some (aI (!vf))/\wx.cell? ⟨g,1,none⟩=some (.complex .f64 0 0)/\wx.cell? ⟨g,2,none⟩=some (.complex .f64 p1 p2)/\wx.frozen? ⟨g,1,none⟩=false)
  case first=>
   go_region_held3 (λw'=>(w'.cell? ⟨w.heap.size,0,none⟩=some (aI true)/\w'.cell? ⟨w.heap.size,1,none⟩=some (.complex .f64 b1 b2)/\w'.cell? ⟨w.heap.size,2,none⟩=some (.complex .f64 m1 m2))/\w'.cell? ⟨w.heap.size+1,0,none⟩=some (aI vf)/\w'.cell? ⟨w.heap.size+1,2,none⟩=some (.complex .f64 n1 n2)) (first|(go_simp;done)|(simp[go_sem,↓IntWalk.iteOmega];done))
    (first|(go_at_call 264;refine(HT.out _).mono ?_;rintro e w1 ⟨rfl,X,rfl⟩))
   all_goals
    go_wp2_with fail
    go_meet
    refine⟨_,rfl, ?_,cV aG, ?_, ?_, ?_, ?_⟩;all_goals(simp[go_sem])
  case rest=>
   obtain⟨g,rfl,hg,⟨X,rfl⟩,g0,g1,g2,gf⟩:=hcut;have hg':((((w.alloc (.cells #[aI true,.complex .f64 b1 b2,.complex .f64 m1 m2] 264)).alloc (.cells #[aI vf,.complex .f64 c1 c2,.complex .f64 n1 n2] 264)).alloc (.cells #[aI false,.complex .f64 0 0,.complex .f64 0 0] 264)).heap.size<=g):=by simpa[go_sem]using hg
   have g0':=vY hg' g0;have g1':=vY hg' g1;have g2':=vY hg' g2;have gf':=UW hg' gf;clear g0 g1 g2 gf hg';simp only[World.size_alloc]at g0' g1' g2' gf';have hg0: ¬g<w.heap.size+1+1+1:=by omega
   have hg1: ¬g=w.heap.size:=by omega
   have hg2: ¬g=w.heap.size+1:=by omega
   have hg3: ¬g=w.heap.size+1+1:=by omega
   have hg4: ¬w.heap.size=g:=by omega
   have hg5: ¬w.heap.size+1=g:=by omega
   have hg6: ¬w.heap.size+1+1=g:=by omega
   clear HT;go_wp2_with(go_at_call 265;refine(NE _ _ _).mono ?_;rintro e w' ⟨rfl,rfl⟩)
   refine bodyPost_ret (v:= aR #[aI (!vf),.complex .f64 (iR b1 b2 c1 (Op.negFloat .f64 c2)).1 (iR b1 b2 c1 (Op.negFloat .f64 c2)).2,.complex .f64 p1 p2]) ?_ rfl (aH.of rfl aG);simp[results,Tryz.results254,go_sem]
end Go.Proofs.YtccjfanpjojbnaaGreatDoor
namespace Go.Proofs.YtccjfanpjojbnaaGreatDoor
open Go.RowKit
def St.val (s:St):Value:= aR #[aB aC s.k,aB aC s.x,aB aC s.y]
def iZ:Nat:=4607182418800017408
def kE:Nat->Nat × Nat
 |0=>(iZ,0)
 |j+1=>iR (kE j).1 (kE j).2 0 iZ
theorem KQ (j:Nat):F (kE j).1 (fA j (1,0)).1/\F (kE j).2 (fA j (1,0)).2/\(cMulBits (kE j).1 (kE j).2 0 iZ).isSome=true:=by
 have key: ∀(p:Nat × Nat) (q:Int × Int),(q=(1,0)\/q=(0,1)\/q=(-1,0)\/q=(0,-1))->F p.1 q.1->F p.2 q.2->(cMulBits p.1 p.2 0 iZ).isSome=true/\F (iR p.1 p.2 0 iZ).1 (-q.2)/\F (iR p.1 p.2 0 iZ).2 q.1:=by
  intro p q hq h1 h2;have hs: ∀z:Int,z.natAbs<=2->Sm z:=λz hz=>iY 2 hz om;have:=GG h1 h2 lD yN (by rcases hq with rfl|rfl|rfl|rfl<;>exact hs _ dc) (by rcases hq with rfl|rfl|rfl|rfl<;>exact hs _ dc) (by rcases hq with rfl|rfl|rfl|rfl<;>exact hs _ dc) (by rcases hq with rfl|rfl|rfl|rfl<;>exact hs _ dc) (by rcases hq with rfl|rfl|rfl|rfl<;>exact hs _ dc) (by rcases hq with rfl|rfl|rfl|rfl<;>exact hs _ dc);simpa[iZ]using this
 have hu: ∀j,fA j (1,0)=(1,0)\/fA j (1,0)=(0,1)\/fA j (1,0)=(-1,0)\/fA j (1,0)=(0,-1):=λj=>TA j (1,0) (by simp);induction j with
 |zero=>
  have:=key (iZ,0) (1,0) (by simp) yN lD;exact⟨yN,lD,this.1⟩
 |succ j ih=>
  have k1:=key (kE j) (fA j (1,0)) (hu j) ih.1 ih.2.1;have e:fA (j+1) (1,0)=(-(fA j (1,0)).2,(fA j (1,0)).1):=by simp only[fA];exact Bc j (1,0)
  have f1:F (kE (j+1)).1 (fA (j+1) (1,0)).1:=by rw[e];exact k1.2.1
  have f2:F (kE (j+1)).2 (fA (j+1) (1,0)).2:=by rw[e];exact k1.2.2
  exact⟨f1,f2,(key (kE (j+1)) _ (hu (j+1)) f1 f2).1⟩
def kQ (s:St):MB:=
 if s.k=1 then⟨false,iZ,0,floatOfInt .f64 s.x,floatOfInt .f64 s.y⟩
 else if s.k=2 then⟨false,(kE (oO s.x)).1,(kE (oO s.x)).2,0,0⟩
 else if s.k=3 then⟨false,floatOfInt .f64 s.x,floatOfInt .f64 0,0,0⟩
 else if s.k=4 then⟨true,iZ,0,0,0⟩
 else⟨false,iZ,0,0,0⟩
theorem RN (s:St) (h:dT s=true):(kQ s).is (jR s):=by
 unfold dT iC at h;unfold kQ jR MB.is;split
 .rename_i h1;simp[h1]at h;exact⟨rfl,yN,lD,IE (iY 4096 om om),IE (iY 4096 om om)⟩
 .split
  .exact⟨rfl,(KQ _).1,(KQ _).2.1,lD,lD⟩
  .split
   .rename_i h1 h2 h3;simp[h3]at h;exact⟨rfl,IE (iY 8 om om),IE (iY (n:=0) 8 dc om),lD,lD⟩
   .split
    .exact⟨rfl,yN,lD,lD,lD⟩
    .exact⟨rfl,yN,lD,lD,lD⟩
theorem O3 (x:Int): -3<=x.tmod 4/\x.tmod 4<=3/\(x.tmod 4+4)%4=((oO x:Nat):Int):=by
 have h:=Int.tmod_eq_emod (a:=x) (b:=4);unfold oO;split at h<;>simp at h<;>omega
theorem T3 (s:St) (w:World) (h:dT s=true):
  Calls aE 255 #[s.val] w (aH (kQ s).val w):=by
 have hx: -4096<=s.x/\s.x<=4096:=by
  unfold dT iC at h;split at h
  .simp at h;omega
  .split at h
   .simp at h;omega
   .split at h
    .simp at h;omega
    .split at h
     .simp at h;omega
     .simp at h
 clear h;obtain⟨k,x,y⟩:=s;unfold St.val;dsimp only at*;obtain⟨hx1,hx2⟩:=hx;by_cases e1:k=1
 .have:kQ ⟨k,x,y⟩=⟨false,iZ,0,floatOfInt .f64 x,floatOfInt .f64 y⟩:=by simp[kQ,e1]
  rw[this];clear this;have b1:(k==1)=true:=by simp[e1]
  clear e1;go_enter qw,qe;go_wp2_with(go_at_call 266;refine(UL _ _ _).mono ?_;rintro e w' ⟨rfl,rfl⟩)
  refine bodyPost_ret (v:=(MB.mk false iZ 0 (floatOfInt .f64 x) (floatOfInt .f64 y)).val) ?_ rfl (aH.of rfl aG);simp[results,jf,go_sem,MB.val,iZ]
 .by_cases e2:k=2
  .have:kQ ⟨k,x,y⟩=⟨false,(kE (oO x)).1,(kE (oO x)).2,0,0⟩:=by simp[kQ,e2]
   rw[this];clear this;have b1:(k==1)=false:=by simp[e2]
   have b2:(k==2)=true:=by simp[e2]
   obtain⟨t1,t2,hq⟩:=O3 x;have hq2:oO x<=3:=by unfold oO;omega
   clear e1 e2;generalize oO x=q at*;go_enter qw,qe;go_wp2_with fail
   go_loopw [22] (λi wr=> ∃j:Nat,j<=q/\i=aB aC j/\wr=((w.alloc (.cells #[aB aC k,aB aC x,aB aC y] 260)).alloc (.cells #[aI false,.complex .f64 0 0,.complex .f64 0 0] 264)).alloc (.cells #[aI false,.complex .f64 (kE j).1 (kE j).2,.complex .f64 0 0] 264)) (λi _=>q-(intOf i).toNat)
   case atStart=>exact⟨0,by omega,rfl,rfl⟩
   case round=>
    obtain⟨j,hj,rfl,rfl⟩:=hrel;by_cases hlt:j<q
    .have h1:=λw=>AB (P:=aE) 262 (KQ j).2.2 w;have h2:iR (kE j).1 (kE j).2 0 iZ=kE (j+1):=rfl;rw[h2]at h1;clear h2;simp only[iZ]at h1;go_wp2
     go_roundw
     case rel=>exact⟨j+1,by omega,by go_num,rfl⟩
     case measure=>simp[intOf];omega
    .have:j=q:=by omega
     subst this;go_wp2
     refine bodyPost_ret (v:=(MB.mk false (kE j).1 (kE j).2 0 0).val) ?_ rfl (aH.of rfl aG);simp[results,jf,go_sem,MB.val]
  .by_cases e3:k=3
   .have:kQ ⟨k,x,y⟩=⟨false,floatOfInt .f64 x,floatOfInt .f64 0,0,0⟩:=by simp[kQ,e3]
    rw[this];clear this;have b1:(k==1)=false:=by simp[e3]
    have b2:(k==2)=false:=by simp[e3]
    have b3:(k==3)=true:=by simp[e3]
    clear e1 e2 e3;go_enter qw,qe;go_wp2_with(go_at_call 266;refine(UL _ _ _).mono ?_;rintro e w' ⟨rfl,rfl⟩)
    refine bodyPost_ret (v:=(MB.mk false (floatOfInt .f64 x) (floatOfInt .f64 0) 0 0).val) ?_ rfl (aH.of rfl aG);simp[results,jf,go_sem,MB.val]
   .have b1:(k==1)=false:=by simp[e1]
    have b2:(k==2)=false:=by simp[e2]
    have b3:(k==3)=false:=by simp[e3]
    by_cases e4:k=4
    .have:kQ ⟨k,x,y⟩=⟨true,iZ,0,0,0⟩:=by simp[kQ,e4]
     rw[this];clear this;have b4:(k==4)=true:=by simp[e4]
     clear e1 e2 e3 e4;go_enter qw,qe;go_wp2
     refine bodyPost_ret (v:=(MB.mk true iZ 0 0 0).val) ?_ rfl (aH.of rfl aG);simp[results,jf,go_sem,MB.val,iZ]
    .have:kQ ⟨k,x,y⟩=⟨false,iZ,0,0,0⟩:=by simp[kQ,e1,e2,e3,e4]
     rw[this];clear this;have b4:(k==4)=false:=by simp[e4]
     clear e1 e2 e3 e4;go_enter qw,qe;go_wp2
     refine bodyPost_ret (v:=(MB.mk false iZ 0 0 0).val) ?_ rfl (aH.of rfl aG);simp[results,jf,go_sem,MB.val,iZ]
def kq (x y:Int):Nat:=if y=0 then(if 0<=x then 0 else 2)else if 0<y then 1 else 3
theorem Bw (r s:Nat) (x y:Int) (w:World) (hr:F r x) (hs:F s y) (hax:x=0\/y=0) (hx:x.natAbs<=16777216) (hy:y.natAbs<=16777216):
  Calls aE 235 #[.complex .f64 r s] w λe w'=>e=aL (aN #[aB aC (kq x y:Nat),aB aC ((x.natAbs+y.natAbs:Nat):Int)])/\w=w':=by
 have HH:Hid (F r x/\F s y):=⟨hr,hs⟩;clear hr hs;have HX:Hid ((x=0\/y=0)/\x.natAbs<=16777216/\y.natAbs<=16777216):=⟨hax,hx,hy⟩;clear hax hx hy;go_enter Tryz.func235,Tryz.ntmps235;go_wp2_with fail
 go_loop [0,4] (λz i=> ∃(r' s':Nat) (x' y':Int) (j:Nat),z= .complex .f64 r' s'/\i=aB aC j/\Hid (F r' x'/\F s' y'/\(x'=0\/y'=0)/\j+kq x' y'=kq x y/\x'.natAbs+y'.natAbs=x.natAbs+y.natAbs)) (λ_ i=>4-(intOf i).toNat)
 case atStart=>exact⟨r,s,x,y,0,rfl,rfl,HH.out.1,HH.out.2,HX.out.1,by omega,rfl⟩
 case round=>
  obtain⟨r',s',x',y',j,rfl,rfl,HR⟩:=hrel;have hk3:kq x y<=3:=by unfold kq;split<;>split<;>omega
  have hj3:(j:Int)<=3:=by have:=HR.out.2.2.2.1;omega
  clear hk3;have oy:=A8 HR.out.2.1 lD;have ox:=A8 HR.out.1 lD;have q1:x'.natAbs<=33554432:=by have:=HR.out.2.2.2.2;have:=HX.out.2;omega
  have q2:y'.natAbs<=33554432:=by have:=HR.out.2.2.2.2;have:=HX.out.2;omega
  have mul:(cMulBits r' s' 0 13830554455654793216).isSome=true/\F (iR r' s' 0 13830554455654793216).1 y'/\F (iR r' s' 0 13830554455654793216).2 (-x'):=by
   have hz: ∀z:Int,z.natAbs<=33554432->Sm z:=λz hz=>iY _ hz om;have:=GG HR.out.1 HR.out.2.1 lD Ti (hz _ (by simp)) (hz _ (by simp;exact q2)) (hz _ (by simp;exact q1)) (hz _ (by simp)) (hz _ (by simp;exact q2)) (hz _ (by simp;exact q1));simpa using this
  by_cases hy0:y'=0
  .have oy':FloatKind.f64.format.order s' 0=some .eq:=by rw[oy,hy0];rfl
   clear oy;by_cases hx0:0<=x'
   .have ox':(FloatKind.f64.format.order r' 0==some .lt)=false:=by
     rw[ox];rcases Int.lt_or_eq_of_le hx0 with h|h
     .rw[Int.compare_eq_gt.2 h];rfl
     .rw[Int.compare_eq_eq.2 h.symm];rfl
    have HI:=WQ r' s' x' y' w HR.out.1 HR.out.2.1 (iY _ q1 om) (iY _ q2 om);have HI':=aA HI;have hfin:Hid (kq x' y'=0/\(x'.natAbs:Int)=x'):=⟨by unfold kq;rw[if_pos hy0,if_pos hx0],by omega⟩;have HY:Hid (y'=0):=hy0;clear ox mul HI hy0 hx0 q1 q2;go_wp2_with(go_at_call 234;refine HI'.out.mono ?_;rintro e w' ⟨rfl,rfl⟩)
    go_ret2;have a1:=HR.out.2.2.2.1;have a2:=HR.out.2.2.2.2;rw[hfin.out.1]at a1;rw[HY.out]at a2;have e1:kq x y=j:=by omega
    have e2:((x.natAbs+y.natAbs:Nat):Int)=x':=by have:=hfin.out.2;omega
    rw[e1,e2];exact⟨rfl,rfl⟩
   .have ox':(FloatKind.f64.format.order r' 0==some .lt)=true:=by
     rw[ox,Int.compare_eq_lt.2 om];rfl
    have h1:=λw=>AB (P:=aE) 262 mul.1 w;have HM:=aA mul;have hfin:Hid (kq x' y'=2/\kq y' (-x')=1):=⟨by unfold kq;rw[if_pos hy0,if_neg hx0],by unfold kq;rw[if_neg om,if_pos om]⟩;clear ox mul;have HY:Hid (y'=0/\ ¬0<=x'):=⟨hy0,hx0⟩;clear hy0 hx0 q1 q2;go_wp2
    go_round
    case rel=>
     refine⟨_,_,y',-x',j+1,rfl,by go_num,HM.out.2.1,HM.out.2.2,Or.inl HY.out.1, ?_, ?_⟩
     .have:=HR.out.2.2.2.1;have:=hfin.out;omega
     .have:=HR.out.2.2.2.2;omega
    case measure=>simp[intOf];omega
  .have oy':FloatKind.f64.format.order s' 0=some (if 0<y' then .gt else .lt):=by
    rw[oy];split
    .rename_i h;rw[Int.compare_eq_gt.2 h]
    .rw[Int.compare_eq_lt.2 om]
   have oy2:(FloatKind.f64.format.order s' 0 !=some .eq)=true:=by rw[oy'];split<;>rfl
   have hx0:x'=0:=by have:=HR.out.2.2.1;omega
   have h1:=λw=>AB (P:=aE) 262 mul.1 w;have HM:=aA mul;have hfin:Hid (kq x' y'=kq y' (-x')+1):=by
    show kq x' y'=kq y' (-x')+1;unfold kq;rw[if_neg hy0,if_pos (show-x'=0 by omega)];by_cases h:0<y'
    .rw[if_pos h,if_pos (show 0<=y' by omega)]
    .rw[if_neg h,if_neg (show ¬0<=y' by omega)]
   clear ox mul oy oy';have HY:Hid (x'=0):=hx0;clear hy0 hx0 q1 q2;go_wp2
   go_round
   case rel=>
    refine⟨_,_,y',-x',j+1,rfl,by go_num,HM.out.2.1,HM.out.2.2,Or.inr (by rw[HY.out];rfl), ?_, ?_⟩
    .have:=HR.out.2.2.2.1;have:=hfin.out;omega
    .have:=HR.out.2.2.2.2;omega
   case measure=>simp[intOf];omega
end Go.Proofs.YtccjfanpjojbnaaGreatDoor
namespace Go.Proofs.YtccjfanpjojbnaaGreatDoor
open Go.RowKit
def IH (w:World) (b off:Nat) (l:List St):Prop:=b<w.heap.size/\
  ∀(i:Nat) (s:St),l[i]? =some s->w.cell? ⟨b,off+i*3,none⟩=some (aB aC s.k)/\w.cell? ⟨b,off+i*3+1,none⟩=some (aB aC s.x)/\w.cell? ⟨b,off+i*3+2,none⟩=some (aB aC s.y)
def Sl (w:World) (v:Value) (l:List St):Prop:=
 ∃a cap,v=Value.slice a l.length cap/\l.length<=9223372036854775807/\(l=[]\/ ∃b off,a=some ⟨b,off,none⟩/\IH w b off l)
theorem IH.grow {w:World} {b off:Nat} {l:List St} (h:IH w b off l) (X:Gr):IH (w.grow X) b off l:=
 ⟨by rw[nR];have:=h.1;omega,λi s hs=>by obtain⟨a,b,c⟩:=h.2 i s hs;exact⟨xV a,xV b,xV c⟩⟩
theorem Sl.grow {w:World} {v:Value} {l:List St} (h:Sl w v l) (X:Gr):Sl (w.grow X) v l:=by
 obtain⟨a,cap,h1,h2,h3⟩:=h;exact⟨a,cap,h1,h2,h3.imp id λ⟨b,off,e,hc⟩=>⟨b,off,e,hc.grow X⟩⟩
theorem CF {w w':World} (h:Below w.heap.size w w'): ∃X,w'=w.grow X:=cV h
theorem O6 {l:List St} (h: ∀j s,j<l.length->l[j]? =some s->dT s=true):l.all dT=true:=by
 rw[dO];intro s hs;obtain⟨j,hj,rfl⟩:=List.getElem_of_mem hs;exact h j _ hj (eV hj)
theorem O5 {l:List St} {k:Nat} (hk:k<l.length) (h: ∀j s,j<k->l[j]? =some s->dT s=true) (hm:dT l[k]=true): ∀j s,j<k+1->l[j]? =some s->dT s=true:=by
 intro j s hj hs;by_cases e:j=k
 .subst e;rw[eV hk]at hs;simp at hs;rw[<-hs];exact hm
 .exact h j s om hs
theorem O4 {l:List St} {k:Nat} (hk:k<l.length) (hm:dT l[k]=false):gF l=false:=by
 unfold gF;rw[Bool.and_eq_false_iff];exact Or.inl (by rw[List.all_eq_false];exact⟨l[k],List.getElem_mem hk,by simp[hm]⟩)
theorem DM (v:Value) (l:List St) (w:World) (h:Sl w v l):Calls aE 232 #[v] w (aH (aI (gF l)) w):=by
 obtain⟨a,cap,rfl,hl,hc⟩:=h;go_enter Tryz.func232,Tryz.ntmps232;go_wp2_with fail
 go_loopw [8] (λi wr=> ∃k:Nat,k<=l.length/\i=aB aC k/\(∃X,wr=w.grow X)/\Hid (∀j s,j<k->l[j]? =some s->dT s=true)) (λi _=>l.length-(intOf i).toNat)
 case atStart=>exact⟨0,by omega,rfl,⟨_,(kW w).symm⟩,λj s hj=>by omega⟩
 case round=>
  obtain⟨k,hk,rfl,⟨X,rfl⟩,HK⟩:=hrel;by_cases hlt:k<l.length
  .rcases hc with rfl|⟨b,off,rfl,hb,hc⟩
   .exact absurd hlt (by simp)
   obtain⟨c0,c1,c2⟩:=hc k (l[k]) (eV hlt);clear hc;have HM:Hid (dT l[k]=dT ⟨l[k].k,l[k].x,l[k].y⟩):=rfl;have HL:Hid (dT l[k]=false->gF l=false):=O4 hlt;have HR:Hid (dT l[k]=true-> ∀j s,j<k+1->l[j]? =some s->dT s=true):=O5 hlt HK.out;generalize l[k].k=sk at*;generalize l[k].x=sx at*;generalize l[k].y=sy at*;go_wp2_with(go_at_call 236;refine(BT _ _ _ om om).mono ?_;rintro e w' ⟨rfl,rfl⟩)
   all_goals first
    |(go_ret;refine aH.of (congrArg aI (HL.out (HM.out.trans ?_)).symm) aG;clear HM HL HR HK;simp_all [dT,iC];done)
    |(go_ret;refine aH.of (congrArg aI (HL.out (HM.out.trans ?_)).symm) aG;clear HM HL HR HK;simp_all [dT,iC];omega)
    |(go_roundw
      case rel=>exact⟨k+1,by omega,by go_num,CF aG,HR.out (HM.out.trans (by clear HM HL HR HK;simp_all [dT,iC]))⟩
      case measure=>simp[intOf];omega)
  .have:k=l.length:=by omega
   subst this;go_wp2
   go_ret;refine aH.of (congrArg aI ?_) aG;simp[gF,O6 HK.out];omega
end Go.Proofs.YtccjfanpjojbnaaGreatDoor
namespace Go.Proofs.YtccjfanpjojbnaaGreatDoor
open Go.RowKit
end Go.Proofs.YtccjfanpjojbnaaGreatDoor
namespace Go.Proofs.YtccjfanpjojbnaaGreatDoor
open Go.RowKit
theorem KU {l:List St} (h:gF l=true) {k:Nat} (hk:k<l.length):dT l[k]=true:=by
 unfold gF at h;simp only[bD,dO]at h;exact h.1 _ (List.getElem_mem hk)
def tP (l:List St):MB:=l.foldl (λu s=>u.behind (kQ s)) ⟨false,iZ,0,0,0⟩
theorem ZT (l:List St) (h:gF l=true) (k:Nat) (hk:k<=l.length):(tP (l.take k)).is (gU (l.take k)):=by
 induction k with
 |zero=>simp only[List.take_zero];exact⟨rfl,yN,lD,lD,lD⟩
 |succ k ih=>
  have hlt:k<l.length:=hk;have e:l.take (k+1)=l.take k++[l[k]]:=by rw[jG hlt]
  have hm:=KU h hlt;obtain⟨_,s1,s2,s3,s4⟩:=KG l[k] hm;rw[e];unfold tP gU;rw[jz,jz];exact(ZL _ _ _ _ (ih om) (RN l[k] hm) (GS l h k).1 ⟨s1,s2⟩ s3 s4).2
theorem Sh (l:List St) (k:Nat) (hk:k<l.length):(tP (l.take k)).behind (kQ l[k])=tP (l.take (k+1)):=by
 rw[jG hk];unfold tP;rw[jz];rfl
theorem Se (v:Value) (l:List St) (w:World) (h:Sl w v l) (hr:gF l=true):
  Calls aE 233 #[v] w (aH (tP l).val w):=by
 have HH:Hid (gF l=true):=hr;clear hr;obtain⟨a,cap,rfl,hl,hc⟩:=h;go_enter Tryz.func233,Tryz.ntmps233;go_wp2_with fail
 go_loopw [9] (λi wr=> ∃(k:Nat) (u:MB),k<=l.length/\i=aB aC k/\Hid (u=tP (l.take k))/\ ∃X,wr=((w.alloc (.cells #[aI false,.complex .f64 0 0,.complex .f64 0 0] 264)).alloc (.cells #[aI u.f,.complex .f64 u.b1 u.b2,.complex .f64 u.m1 u.m2] 264)).grow X) (λi _=>l.length-(intOf i).toNat)
 case atStart=>exact⟨0,⟨false,iZ,0,0,0⟩,by omega,rfl,rfl,_,(kW _).symm⟩
 case round=>
  obtain⟨k,u,hk,rfl,HU,X,rfl⟩:=hrel;by_cases hlt:k<l.length
  .rcases hc with rfl|⟨b,off,rfl,hb,hc⟩
   .exact absurd hlt (by simp)
   obtain⟨c0,c1,c2⟩:=hc k (l[k]) (eV hlt);clear hc;have HS:=λw'=>aA (T3 l[k] w' (KU HH.out hlt));have HB: ∀w',Hid (Calls aE 254 #[u.val,(kQ l[k]).val] w' (aH (u.behind (kQ l[k])).val w')):=by
    intro w';show Calls _ _ _ _ _;have hm:=KU HH.out hlt;obtain⟨_,s1,s2,s3,s4⟩:=KG l[k] hm;rw[HU.out];exact Ri _ _ _ _ w' (ZT l HH.out k om) (RN l[k] hm) (GS l HH.out k).1 ⟨s1,s2⟩ s3 s4
   have HN:Hid (u.behind (kQ l[k])=tP (l.take (k+1))):=by
    show _=_;rw[HU.out];exact Sh l k hlt
   generalize u.behind (kQ l[k])=u' at*;generalize kQ l[k]=sb at*;have HS':=aA HS;have HB':=aA HB;clear HS HB;unfold St.val MB.val at HS' HB';go_wp2_with fail
   refine AL 4 kr kr  ?_;dsimp only[List.take,List.drop];repeat(go_big_quiet_step(first|(go_at_call 255;with_reducible exact Calls.grow_of (HS'.out _).out)|(go_at_call 254;with_reducible exact Calls.grow_of (HB'.out _).out)))
   refine wpQuiet_nil ?_;rintro _ ⟨nq,rfl⟩;go_wp2
   go_roundw
   case rel=>exact⟨k+1,u',by omega,by go_num,HN.out,cV aG⟩
   case measure=>simp[intOf];omega
  .have:k=l.length:=by omega
   subst this;have HU':Hid (u=tP l):=by have:=HU.out;rwa[kJ]at this
   clear HU;go_wp2
   refine bodyPost_ret (v:=u.val) ?_ rfl (aH.of (by rw[HU'.out]) aG);simp[results,Tryz.results233,go_sem,MB.val]
end Go.Proofs.YtccjfanpjojbnaaGreatDoor
namespace Go.Proofs.YtccjfanpjojbnaaGreatDoor
open Go.RowKit
theorem AZ:jX aE 242 260 (aR #[aB aC 0,aB aC 0,aB aC 0]) 3 24:=⟨by kernel_rfl,by kernel_rfl,by kernel_rfl,by decide⟩
def nC (l:List St):List Value:=l.flatMap λs=>[aB aC s.k,aB aC s.x,aB aC s.y]
theorem Ql (l:List St) (i:Nat) (s:St) (h:l[i]? =some s):(nC l)[i*3]? =some (aB aC s.k)/\(nC l)[i*3+1]? =some (aB aC s.x)/\(nC l)[i*3+2]? =some (aB aC s.y):=by
 induction l generalizing i with
 |nil=>simp at h
 |cons t l ih=>
  cases i with
  |zero=>simp at h;subst h;simp[nC]
  |succ i=>
   have:=ih i (by simpa using h);have e:nC (t::l)=aB aC t.k:: .int .i64 t.x:: .int .i64 t.y::nC l:=rfl;rw[e,show(i+1)*3=i*3+1+1+1 by omega];simpa using this
theorem KL {w:World} {B:Nat} {e:TypeId} {v:Value} {l:List St} (hl:l.length<=9223372036854775807) (h:w.ownsRow B e 3 v l.length (nC l)):Sl w v l:=by
 obtain⟨_,a,cap,rfl,_,hc⟩:=LH h;refine⟨a,cap,rfl,hl, ?_⟩;rcases hc with hc|⟨b,rfl,_,hb,hc⟩
 .exact Or.inl (List.eq_nil_of_length_eq_zero hc)
 .refine Or.inr ⟨b,0,rfl,hb,λi s hs=> ?_⟩;obtain⟨h1,h2,h3⟩:=Ql l i s hs;simp only[Nat.zero_add];exact⟨hc _ _ h1,hc _ _ h2,hc _ _ h3⟩
theorem GI (l:List St) (s:St):nC (l++[s])=nC l++[aB aC s.k,aB aC s.x,aB aC s.y]:=by simp[nC]
def DB (l:List St) (er:Int) (w:World) (e:Ending) (w':World):Prop:= ∃v X,e=aL (aN #[v,aB aC er])/\w'=w.grow X/\Sl w' v l
def L1 (x y:Int):List St:=if x≠0\/y≠0 then [⟨1,x,y⟩]else []
def L2 (k:Nat):List St:=if 0<k then [⟨2,k,0⟩]else []
def L3 (n:Nat):List St:=if 1<n then [⟨3,n,0⟩]else []
def L4 (f:Bool):List St:=if f then [⟨4,0,0⟩]else []
def rC (m:Mo):List St:=L1 m.mx m.my++L2 (kq m.bx m.bY)++L3 (m.bx.natAbs+m.bY.natAbs)++L4 m.flip
def jU (l:List St):Int:=
 if gF l=false then 1 else if iC (gU l).mx 4096&&iC (gU l).my 4096&&decide ((gU l).bx.natAbs+(gU l).bY.natAbs<=8)then 0 else 3
def fZ (l:List St):List St:=if jU l=0 then rC (gU l)else []
theorem UX (v:Value) (l:List St) (w:World) (h:Sl w v l):Calls aE 215 #[v] w (DB (fZ l) (jU l) w):=by
 have H0:=aA (DM v l w h);have HA:=aA (λ(hr:gF l=true) X=>aA (Se v l (w.grow X) (h.grow X) hr));clear h;cases h1:gF l
 .have HN:Hid (jU l=1/\fZ l=[]):=by
   have:jU l=1:=by simp[jU,h1]
   exact⟨this,by simp[fZ,this]⟩
  rw[HN.out.1,HN.out.2];go_enter qx,qf;go_wp2_with(go_at_call 232;refine H0.out.mono ?_;rintro e w' ⟨rfl,X,rfl⟩)
  go_ret2;exact⟨_,_,rfl,rfl,none,0,rfl,by simp,Or.inl rfl⟩
 .have HA':=aA (HA.out h1);have hm:=(GS l h1 l.length);have hi:=ZT l h1 l.length (Nat.le_refl _);rw[kJ]at hm hi;have HN:Hid ((jU l=if iC (gU l).mx 4096&&iC (gU l).my 4096&&decide ((gU l).bx.natAbs+(gU l).bY.natAbs<=8)then 0 else 3)/\fZ l=if jU l=0 then rC (gU l)else []):=⟨by simp[jU,h1],rfl⟩;clear HA;generalize gU l=m at*;generalize tP l=u at*;generalize jU l=er at*;generalize fZ l=L at*;have HI1:=aA (λW=>WQ u.m1 u.m2 m.mx m.my W hi.2.2.2.1 hi.2.2.2.2 (iY _ hm.1.2.2.1 om) (iY _ hm.1.2.2.2 om));have HQ:=aA (λW=>Bw u.b1 u.b2 m.bx m.bY W hi.2.1 hi.2.2.1 hm.2.1 hm.1.1 hm.1.2.1);have HF:Hid (u.f=m.flip):=hi.1;have hx1: -137438953472<=m.mx:=by have:=hm.1.2.2.1;omega
  have hx2:m.mx<=137438953472:=by have:=hm.1.2.2.1;omega
  have hy1: -137438953472<=m.my:=by have:=hm.1.2.2.2;omega
  have hy2:m.my<=137438953472:=by have:=hm.1.2.2.2;omega
  have hn:m.bx.natAbs+m.bY.natAbs<=33554432:=by have:=hm.1;unfold Bd at this;omega
  have hk:kq m.bx m.bY<=3:=by unfold kq;split<;>split<;>omega
  clear hm hi;generalize hkq:kq m.bx m.bY=k at*;generalize hnn:m.bx.natAbs+m.bY.natAbs=n at*;have HKN:Hid (kq m.bx m.bY=k/\m.bx.natAbs+m.bY.natAbs=n):=⟨hkq,hnn⟩;clear hkq hnn;generalize hmx:m.mx=x at*;generalize hmy:m.my=y at*;have HXY:Hid (m.mx=x/\m.my=y):=⟨hmx,hmy⟩;clear hmx hmy;obtain⟨uf,b1,b2,m1,m2⟩:=u;unfold MB.val at HA';dsimp only at*;cases h2:iC x 4096&&iC y 4096&&decide (n<=8)
  .have HR:Hid (er=3/\L=[]):=by
    have e0:er=3:=by rw[HN.out.1];simp[h2]
    exact⟨e0,by rw[HN.out.2,e0];rfl⟩
   rw[HR.out.1,HR.out.2];clear HN HR;cases h3:iC x 4096
   .clear h2;go_enter qx,qf;go_wp2_with(first|(go_at_call 232;refine H0.out.mono ?_;rintro e w' ⟨rfl,X,rfl⟩)|(go_at_call 236;refine(BT _ _ _ om om).mono ?_;rintro e w' ⟨rfl,rfl⟩)|(go_at_call 233;refine(HA'.out _).out.mono ?_;rintro e w' ⟨rfl,Y,rfl⟩)|(go_at_call 234;refine(HI1.out _).mono ?_;rintro e w' ⟨rfl,rfl⟩)|(go_at_call 235;refine(HQ.out _).mono ?_;rintro e w' ⟨rfl,rfl⟩))
    go_ret2;obtain⟨Z5,e5⟩:=CF (w:=w) (w':=(((w.grow X).grow Y).alloc (.cells #[aI uf,.complex .f64 b1 b2,.complex .f64 m1 m2] 264))) aG;exact⟨_,Z5,rfl,e5,none,0,rfl,by simp,Or.inl rfl⟩
   .cases h4:iC y 4096
    .clear h2;go_enter qx,qf;go_wp2_with(first|(go_at_call 232;refine H0.out.mono ?_;rintro e w' ⟨rfl,X,rfl⟩)|(go_at_call 236;refine(BT _ _ _ om om).mono ?_;rintro e w' ⟨rfl,rfl⟩)|(go_at_call 233;refine(HA'.out _).out.mono ?_;rintro e w' ⟨rfl,Y,rfl⟩)|(go_at_call 234;refine(HI1.out _).mono ?_;rintro e w' ⟨rfl,rfl⟩)|(go_at_call 235;refine(HQ.out _).mono ?_;rintro e w' ⟨rfl,rfl⟩))
     go_ret2;obtain⟨Z5,e5⟩:=CF (w:=w) (w':=(((w.grow X).grow Y).alloc (.cells #[aI uf,.complex .f64 b1 b2,.complex .f64 m1 m2] 264))) aG;exact⟨_,Z5,rfl,e5,none,0,rfl,by simp,Or.inl rfl⟩
    .have h5: ¬n<=8:=by rw[h3,h4]at h2;simpa using h2
     clear h2;go_enter qx,qf;go_wp2_with(first|(go_at_call 232;refine H0.out.mono ?_;rintro e w' ⟨rfl,X,rfl⟩)|(go_at_call 236;refine(BT _ _ _ om om).mono ?_;rintro e w' ⟨rfl,rfl⟩)|(go_at_call 233;refine(HA'.out _).out.mono ?_;rintro e w' ⟨rfl,Y,rfl⟩)|(go_at_call 234;refine(HI1.out _).mono ?_;rintro e w' ⟨rfl,rfl⟩)|(go_at_call 235;refine(HQ.out _).mono ?_;rintro e w' ⟨rfl,rfl⟩))
     go_ret2;obtain⟨Z5,e5⟩:=CF (w:=w) (w':=(((w.grow X).grow Y).alloc (.cells #[aI uf,.complex .f64 b1 b2,.complex .f64 m1 m2] 264))) aG;exact⟨_,Z5,rfl,e5,none,0,rfl,by simp,Or.inl rfl⟩
  .simp only[bD,decide_eq_true_eq]at h2;obtain⟨⟨h2,h3⟩,h4⟩:=h2;have HR:Hid (er=0/\L=rC m):=by
    have e0:er=0:=by rw[HN.out.1,h2,h3,decide_eq_true h4];rfl
    exact⟨e0,by rw[HN.out.2,if_pos e0]⟩
   rw[HR.out.1,HR.out.2];clear HN HR;go_enter qx,qf;go_upto_region 9 with(first|(go_at_call 232;refine H0.out.mono ?_;rintro e w' ⟨rfl,X,rfl⟩)|(go_at_call 236;refine(BT _ _ _ om om).mono ?_;rintro e w' ⟨rfl,rfl⟩)|(go_at_call 233;refine(HA'.out _).out.mono ?_;rintro e w' ⟨rfl,Y,rfl⟩)|(go_at_call 234;refine(HI1.out _).mono ?_;rintro e w' ⟨rfl,rfl⟩)|(go_at_call 235;refine(HQ.out _).mono ?_;rintro e w' ⟨rfl,rfl⟩))
   have o0:((((w.grow X).grow Y).alloc (.cells #[aI uf,.complex .f64 b1 b2,.complex .f64 m1 m2] 264))).ownsRow (((w.grow X).grow Y).alloc (.cells #[aI uf,.complex .f64 b1 b2,.complex .f64 m1 m2] 264)).heap.size 260 3 (Value.slice none 0 0) ([]:List St).length (nC []):=World.ownsRow_nil _ _ _ _;have l0:([]:List St).length<=0:=by simp
   go_cut [44] (λs44 wx=>s44=aI (decide (x≠0\/y≠0))/\wx=(((w.grow X).grow Y).alloc (.cells #[aI uf,.complex .f64 b1 b2,.complex .f64 m1 m2] 264)))
   case first=>
    by_cases hx0:x=0
    .have b1:(x !=0)=false:=by simp[hx0]
     have HX:=aA hx0;clear hx0;go_wp2
     go_meet
     refine⟨?_,rfl⟩;have:=HX.out;by_cases h:y=0<;>simp[this,h]
    .have b1:(x !=0)=true:=by simp[hx0]
     have HX:=aA hx0;clear hx0;go_wp2
     go_meet
     refine⟨?_,rfl⟩;have:=HX.out;simp[this]
   case rest=>
    obtain⟨rfl,rfl⟩:=hcut;go_upto_if 44 with fail
    go_cut [9] (λv wx=> ∃Z,wx=(((w.grow X).grow Y).alloc (.cells #[aI uf,.complex .f64 b1 b2,.complex .f64 m1 m2] 264)).grow Z/\((((w.grow X).grow Y).alloc (.cells #[aI uf,.complex .f64 b1 b2,.complex .f64 m1 m2] 264)).grow Z).ownsRow (((w.grow X).grow Y).alloc (.cells #[aI uf,.complex .f64 b1 b2,.complex .f64 m1 m2] 264)).heap.size 260 3 v (L1 x y).length (nC (L1 x y)))
    case first=>
     by_cases h5:x≠0\/y≠0
     .have HL:Hid (L1 x y=[⟨1,x,y⟩]):=by show _=_;simp[L1,h5]
      have b5:decide (x≠0\/y≠0)=true:=by simp[h5]
      rw[b5];clear h5 b5;go_wp2_with(at_builtin;refine rK rfl _ _ 242 rfl AZ (((w.grow X).grow Y).alloc (.cells #[aI uf,.complex .f64 b1 b2,.complex .f64 m1 m2] 264)) rfl (o0.alloc _) aG ⟨_,0,none⟩ 1 1 [aB aC 1,aB aC x,aB aC y] rfl rfl (eR (c:= #[aB aC 1,aB aC x,aB aC y]) (by simp[go_sem])) (by intro u hu;simp at hu;rcases hu with rfl|rfl|rfl<;>rfl) (by have:=l0;unfold maxLen;omega) (by have:=l0;omega) ?_;intro v' Z' hown' _)
      go_meet
      refine⟨Z',rfl, ?_⟩;rw[HL.out];exact hown'
     .have HL:Hid (L1 x y=[]):=by show _=_;simp[L1,h5]
      have b5:decide (x≠0\/y≠0)=false:=by simp[h5]
      rw[b5];clear h5 b5;go_wp2
      go_meet
      refine⟨_,(kW _).symm, ?_⟩;rw[HL.out,kW];exact o0
    case rest=>
     obtain⟨Z,rfl,o1⟩:=hcut;have l1:(L1 x y).length<=1:=by unfold L1;split<;>simp
     have HO:=aA o0;clear o0;go_upto_if 52 with fail
     go_cut [9] (λv wx=> ∃Z,wx=(((w.grow X).grow Y).alloc (.cells #[aI uf,.complex .f64 b1 b2,.complex .f64 m1 m2] 264)).grow Z/\((((w.grow X).grow Y).alloc (.cells #[aI uf,.complex .f64 b1 b2,.complex .f64 m1 m2] 264)).grow Z).ownsRow (((w.grow X).grow Y).alloc (.cells #[aI uf,.complex .f64 b1 b2,.complex .f64 m1 m2] 264)).heap.size 260 3 v (L1 x y++L2 k).length (nC (L1 x y++L2 k)))
     case first=>
      by_cases h5:0<k
      .have HL:Hid (L2 k=[⟨2,k,0⟩]):=by show _=_;simp[L2,h5]
       have b5:(0:Int)<k:=by omega
       clear h5;go_wp2_with(at_builtin;refine rK rfl _ _ 242 rfl AZ (((w.grow X).grow Y).alloc (.cells #[aI uf,.complex .f64 b1 b2,.complex .f64 m1 m2] 264)) rfl (o1.alloc _) aG ⟨_,0,none⟩ 1 1 [aB aC 2,aB aC k,aB aC 0] rfl rfl (eR (c:= #[aB aC 2,aB aC k,aB aC 0]) (by simp[go_sem])) (by intro u hu;simp at hu;rcases hu with rfl|rfl|rfl<;>rfl) (by have:=l1;unfold maxLen;omega) (by have:=l1;omega) ?_;intro v' Z' hown' _)
       go_meet
       refine⟨Z',rfl, ?_⟩;rw[HL.out,GI,aZ];exact hown'
      .have HL:Hid (L2 k=[]):=by show _=_;simp[L2,h5]
       have b5: ¬(0:Int)<k:=by omega
       clear h5;go_wp2
       go_meet
       refine⟨_,rfl, ?_⟩;rw[HL.out,bV];exact o1
     case rest=>
      obtain⟨Z2,rfl,o2⟩:=hcut;have l2:(L1 x y++L2 k).length<=2:=by have:(L2 k).length<=1:=by {unfold L2;split<;>simp};rw[aZ];omega
      clear o1;go_upto_if 59 with fail
      go_cut [9] (λv wx=> ∃Z,wx=(((w.grow X).grow Y).alloc (.cells #[aI uf,.complex .f64 b1 b2,.complex .f64 m1 m2] 264)).grow Z/\((((w.grow X).grow Y).alloc (.cells #[aI uf,.complex .f64 b1 b2,.complex .f64 m1 m2] 264)).grow Z).ownsRow (((w.grow X).grow Y).alloc (.cells #[aI uf,.complex .f64 b1 b2,.complex .f64 m1 m2] 264)).heap.size 260 3 v (L1 x y++L2 k++L3 n).length (nC (L1 x y++L2 k++L3 n)))
      case first=>
       by_cases h5:1<n
       .have HL:Hid (L3 n=[⟨3,n,0⟩]):=by show _=_;simp[L3,h5]
        have b5:(1:Int)<n:=by omega
        clear h5;go_wp2_with(at_builtin;refine rK rfl _ _ 242 rfl AZ (((w.grow X).grow Y).alloc (.cells #[aI uf,.complex .f64 b1 b2,.complex .f64 m1 m2] 264)) rfl (o2.alloc _) aG ⟨_,0,none⟩ 1 1 [aB aC 3,aB aC n,aB aC 0] rfl rfl (eR (c:= #[aB aC 3,aB aC n,aB aC 0]) (by simp[go_sem])) (by intro u hu;simp at hu;rcases hu with rfl|rfl|rfl<;>rfl) (by have:=l2;unfold maxLen;omega) (by have:=l2;omega) ?_;intro v' Z' hown' _)
        go_meet
        refine⟨Z',rfl, ?_⟩;rw[HL.out,GI,aZ];exact hown'
       .have HL:Hid (L3 n=[]):=by show _=_;simp[L3,h5]
        have b5: ¬(1:Int)<n:=by omega
        clear h5;go_wp2
        go_meet
        refine⟨_,rfl, ?_⟩;rw[HL.out,bV];exact o2
      case rest=>
       obtain⟨Z3,rfl,o3⟩:=hcut;have l3:(L1 x y++L2 k++L3 n).length<=3:=by have:(L3 n).length<=1:=by {unfold L3;split<;>simp};rw[aZ];omega
       clear o2;go_upto_if 66 with fail
       go_cut [9] (λv wx=> ∃Z,wx=(((w.grow X).grow Y).alloc (.cells #[aI uf,.complex .f64 b1 b2,.complex .f64 m1 m2] 264)).grow Z/\((((w.grow X).grow Y).alloc (.cells #[aI uf,.complex .f64 b1 b2,.complex .f64 m1 m2] 264)).grow Z).ownsRow (((w.grow X).grow Y).alloc (.cells #[aI uf,.complex .f64 b1 b2,.complex .f64 m1 m2] 264)).heap.size 260 3 v (L1 x y++L2 k++L3 n++L4 uf).length (nC (L1 x y++L2 k++L3 n++L4 uf)))
       case first=>
        by_cases h5:uf=true
        .have HL:Hid (L4 uf=[⟨4,0,0⟩]):=by show _=_;simp[L4,h5]
         subst h5;go_wp2_with(at_builtin;refine rK rfl _ _ 242 rfl AZ (((w.grow X).grow Y).alloc (.cells #[aI true,.complex .f64 b1 b2,.complex .f64 m1 m2] 264)) rfl (o3.alloc _) aG ⟨_,0,none⟩ 1 1 [aB aC 4,aB aC 0,aB aC 0] rfl rfl (eR (c:= #[aB aC 4,aB aC 0,aB aC 0]) (by simp[go_sem])) (by intro u hu;simp at hu;rcases hu with rfl|rfl|rfl<;>rfl) (by have:=l3;unfold maxLen;omega) (by have:=l3;omega) ?_;intro v' Z' hown' _)
         go_meet
         refine⟨Z',rfl, ?_⟩;rw[HL.out,GI,aZ];exact hown'
        .have HL:Hid (L4 uf=[]):=by show _=_;simp[L4,h5]
         have h5:uf=false:=by simpa using h5
         subst h5;go_wp2
         go_meet
         refine⟨_,rfl, ?_⟩;rw[HL.out,bV];exact o3
       case rest=>
        obtain⟨Z4,rfl,o4⟩:=hcut;have l4:(L1 x y++L2 k++L3 n++L4 uf).length<=4:=by have:(L4 uf).length<=1:=by {unfold L4;split<;>simp};rw[aZ];omega
        clear o3;have HN:Hid (rC m=L1 x y++L2 k++L3 n++L4 uf):=by
         show _=_;unfold rC;rw[HKN.out.1,HKN.out.2,HXY.out.1,HXY.out.2,HF.out]
        have o5:=aA (KL om o4);clear o4;go_wp2
        go_ret2;rw[HN.out];obtain⟨Z5,e5⟩:=CF (w:=w) (w':=((((w.grow X).grow Y).alloc (.cells #[aI uf,.complex .f64 b1 b2,.complex .f64 m1 m2] 264)).grow Z4)) aG;exact⟨_,Z5,rfl,e5,o5.out⟩
end Go.Proofs.YtccjfanpjojbnaaGreatDoor
namespace Go.Proofs.YtccjfanpjojbnaaGreatDoor
open Go.RowKit
end Go.Proofs.YtccjfanpjojbnaaGreatDoor
namespace Go.Proofs.YtccjfanpjojbnaaGreatDoor
open Go.RowKit
theorem My (a b c d e f:Int) (w:World):(Op.equalIn 10000 260 (aR #[aB aC a,aB aC b,aB aC c]) (aR #[aB aC d,aB aC e,aB aC f])).run aE w= .ok (a==d&&(b==e&&c==f)) w:=by
 have h2:aE.underlying 260=some (.struct (aE.fieldsOf 260)):=by kernel_rfl
 have h3:aE.stoodInHeld 260=false:=by kernel_rfl
 rw[run_equalIn_agg _ _ _ _ _ h2 h3];simp only[Program.fieldsOf,Tryz.underlying260];by_cases h1:a=d<;>by_cases h4:b=e<;>by_cases h5:c=f<;>simp[go_sem,Tryz.underlying3,h1,h4,h5]
@[go_sem high] theorem Um (a b c d e f:Int) (w:World):(binOp .neq 260 (aR #[aB aC a,aB aC b,aB aC c]) (aR #[aB aC d,aB aC e,aB aC f])).run aE w= .ok (aI (!(a==d&&(b==e&&c==f)))) w:=by
 rw[run_neq_struct,My];rfl
@[go_sem] theorem Vs:aE.eqGuardType aE.depth 260=false:=by kernel_rfl
theorem DB.abs {l:List St} {er:Int} {w w':World} {e:Ending} (h:DB l er w e w'): ∃v,e=aL (aN #[v,aB aC er])/\Below w.heap.size w w'/\Sl w' v l:=by
 obtain⟨v,X,h1,rfl,h2⟩:=h;exact⟨v,h1,dG w X,h2⟩
end Go.Proofs.YtccjfanpjojbnaaGreatDoor
namespace Go.Proofs.YtccjfanpjojbnaaGreatDoor
theorem NC (A B:List St) (m:Mo):(A++B).foldl (λm s=>behind m (jR s)) m=B.foldl (λm s=>behind m (jR s)) (A.foldl (λm s=>behind m (jR s)) m):=jz
theorem Bx (k:Nat) (h:k<=3):oO (k:Int)=k:=by unfold oO;omega
theorem Iv (bx bY:Int) (h:(bx=0\/bY=0)/\(bx≠0\/bY≠0)):(fA (kq bx bY) (1,0)).1*((bx.natAbs+bY.natAbs:Nat):Int)=bx/\(fA (kq bx bY) (1,0)).2*((bx.natAbs+bY.natAbs:Nat):Int)=bY:=by
 unfold kq;by_cases h0:bY=0
 .rw[if_pos h0];by_cases h1:0<=bx
  .rw[if_pos h1];simp[fA];omega
  .rw[if_neg h1];simp[fA];omega
 .rw[if_neg h0];by_cases h1:0<bY
  .rw[if_pos h1];simp[fA];omega
  .rw[if_neg h1];simp[fA];omega
theorem Ft (m:Mo) (hax:Ax m) (hk:kq m.bx m.bY<=3):gU (rC m)=m:=by
 obtain⟨f,bx,bY,x,y⟩:=m;obtain⟨r1,r2⟩:=Iv bx bY hax;unfold rC gU;dsimp only at*;have hn:1<=bx.natAbs+bY.natAbs:=by rcases hax.2 with h|h<;>(simp only at h;omega)
 generalize kq bx bY=k at*;generalize bx.natAbs+bY.natAbs=n at*;rw[NC,NC,NC];have e1:(L1 x y).foldl (λm s=>behind m (jR s)) Mo.one=⟨false,1,0,x,y⟩:=by
  unfold L1;split
  .simp[behind,jR,Mo.one,Mo.tu]
  .rename_i h;have h1:x=0:=by omega
   have h2:y=0:=by omega
   subst h1;subst h2;rfl
 have e2:(L2 k).foldl (λm s=>behind m (jR s)) ⟨false,1,0,x,y⟩=⟨false,(fA k (1,0)).1,(fA k (1,0)).2,x,y⟩:=by
  unfold L2;split
  .simp[behind,jR,Mo.one,Mo.tu,Bx k hk]
  .have:k=0:=by omega
   subst this;rfl
 have e3:(L3 n).foldl (λm s=>behind m (jR s)) ⟨false,(fA k (1,0)).1,(fA k (1,0)).2,x,y⟩=⟨false,bx,bY,x,y⟩:=by
  unfold L3;split
  .simp[behind,jR,Mo.one,Mo.tu,r1,r2]
  .have:n=1:=by omega
   subst this;simp at r1 r2;rw[r1,r2];rfl
 rw[e1,e2,e3];unfold L4;cases f
 .simp
 .simp[behind,jR,Mo.one,Mo.tu]
theorem Ga {l:List St} (h:jU l=0):gF l=true/\iC (gU l).mx 4096=true/\iC (gU l).my 4096=true/\(gU l).bx.natAbs+(gU l).bY.natAbs<=8:=by
 unfold jU at h;cases h1:gF l
 .simp[h1]at h
 .rw[if_neg (by simp[h1])]at h;split at h
  .rename_i h2;simp only[bD,decide_eq_true_eq]at h2;exact⟨rfl,h2.1.1,h2.1.2,h2.2⟩
  .omega
theorem WA (x y:Int):kq x y<=3:=by unfold kq;split<;>split<;>omega
theorem Sf {l:List St} (h:gF l=true):Ax (gU l):=by
 have:=(GS l h l.length).2;rwa[kJ]at this
theorem Fu (m:Mo) (hx:iC m.mx 4096=true) (hy:iC m.my 4096=true) (hn:m.bx.natAbs+m.bY.natAbs<=8):gF (rC m)=true/\(rC m).length<=4:=by
 have hk:=WA m.bx m.bY;unfold rC;generalize kq m.bx m.bY=k at*;generalize m.bx.natAbs+m.bY.natAbs=n at*;have a1:(L1 m.mx m.my).all dT=true/\(L1 m.mx m.my).length<=1:=by unfold L1;split<;>simp[dT,hx,hy]
 have a2:(L2 k).all dT=true/\(L2 k).length<=1:=by
  unfold L2;split
  .simp[dT,iC];omega
  .simp
 have a3:(L3 n).all dT=true/\(L3 n).length<=1:=by
  unfold L3;split
  .simp[dT];omega
  .simp
 have a4:(L4 m.flip).all dT=true/\(L4 m.flip).length<=1:=by unfold L4;split<;>simp[dT]
 constructor
 .unfold gF;simp only[List.all_append,a1.1,a2.1,a3.1,a4.1,Bool.and_true,Bool.true_and,aZ,decide_eq_true_eq];omega
 .simp only[aZ];omega
theorem LT (l:List St) (h:jU l=0):gF (fZ l)=true/\gU (fZ l)=gU l/\jU (fZ l)=0/\fZ (fZ l)=fZ l/\(fZ l).length<=4:=by
 obtain⟨h1,h2,h3,h4⟩:=Ga h;have e:fZ l=rC (gU l):=by unfold fZ;rw[if_pos h]
 have hs:=Ft (gU l) (Sf h1) (WA _ _);obtain⟨r1,r2⟩:=Fu (gU l) h2 h3 h4;rw[e];have z:jU (rC (gU l))=0:=by
  unfold jU;rw[if_neg (by rw[r1];simp),hs,h2,h3,decide_eq_true h4];rfl
 refine⟨r1,hs,z, ?_,r2⟩;unfold fZ;rw[if_pos z,hs]
end Go.Proofs.YtccjfanpjojbnaaGreatDoor
namespace Go.Proofs.YtccjfanpjojbnaaGreatDoor
open Go.ChangeShapes Go.WideShapes Go.Deep
instance:Inhabited St:=⟨⟨0,0,0⟩⟩
section
variable {H:Type} {enc:TypeId × Value->H} {w:World} {base:Nat} {spare:Nat->Bool} {held:Bool}
end
