/- The walks of the turns: the reference; the plain law; how steps are opened. -/
import Derived.Deep.CutBlock
import Derived.ProofKit
import Derived.Deep.Slices
import Derived.Deep.Fields
import Derived.ChangeSame
import Derived.Laws.ComplexArith
import Derived.Below
import Derived.Deep.RegionHeld3
import Derived.Deep.DeepCutAuto
import Derived.Test.YtiikamobcmgekaaGreatDoorProg
import Derived.Test.YtiikamobcmgekaaGreatDoorKA
set_option maxHeartbeats 4000000
namespace Flo
open Ieee
def Is (d:Datum) (n:Int):Prop:=
 ∃s m p,∃e q:Nat,d= .number s m p/\p+(q:Int)=(e:Int)/\m*2 ^ e=n.natAbs*2 ^ q/\(n≠0->s=decide (n<0))
theorem log2_mul_pow (N k:Nat) (h:N≠0):(N*2 ^ k).log2=N.log2+k:=by
 have h2:0<2 ^ k:=Nat.two_pow_pos k
 have hN:N*2 ^ k≠0:=Nat.mul_ne_zero h (by omega)
 rw[Nat.log2_eq_iff hN]
 have a:=Nat.log2_self_le h
 have b:= @Nat.lt_log2_self N
 constructor
 ·rw[Nat.pow_add];exact Nat.mul_le_mul_right _ a
 ·rw[show N.log2+k+1=(N.log2+1)+k by omega,Nat.pow_add]
  exact Nat.mul_lt_mul_of_pos_right b h2
theorem cut_exact (way:Toward) (neg:Bool) (K d:Nat):way.cut neg (K*2 ^ d) d=K:=by
 by_cases hK:K=0
 ·subst hK
  unfold Toward.cut
  simp only[Nat.zero_mul,Nat.zero_div,Nat.zero_mod,Nat.shiftLeft_eq,Nat.one_mul]
  have:0<2 ^ min d (Nat.log2 0+2):=Nat.two_pow_pos _
  cases way<;>simp<;>omega
 ·have hl:=log2_mul_pow K d hK
  unfold Toward.cut
  have hm:min d ((K*2 ^ d).log2+2)=d:=by omega
  simp only[hm,Nat.shiftLeft_eq,Nat.one_mul]
  have hp:0<2 ^ d:=Nat.two_pow_pos d
  rw[Nat.mul_div_cancel _ hp,Nat.mul_mod_left]
  have h2:((2 ^ d:Nat)==0)=false:=by simp
  cases way<;>simp[h2]
theorem cut_zero (way:Toward) (neg:Bool) (m:Nat):way.cut neg m 0=m:=by
 have:=cut_exact way neg m 0
 simpa using this
theorem read_word (neg:Bool) (r:Nat) (h1:double.binade<=r) (h2:r<double.infRung):
  double.read (double.word neg r)= .number neg (double.binade+r%double.binade) (double.leastPlace+(r/double.binade-1:Nat)):=by
 have hs:double.infRung<double.signWeight:=by decide
 unfold Format.read Format.word
 have hr:r<double.signWeight:=by omega
 have e1:(if neg then double.signWeight+r else r)%double.signWeight=r:=by
  cases neg
  ·exact Nat.mod_eq_of_lt hr
  ·simp[Nat.mod_eq_of_lt hr]
 have e2:((if neg then double.signWeight+r else r)/double.signWeight%2==1)=neg:=by
  cases neg
  ·simp[Nat.div_eq_of_lt hr]
  ·have hp:0<double.signWeight:=by omega
   simp[Nat.add_div_left r hp,Nat.div_eq_of_lt hr]
 simp only[e1,e2]
 rw[if_neg (by omega),if_pos h2]
theorem read_zero (neg:Bool):double.read (double.word neg 0)= .number neg 0 double.leastPlace:=by
 cases neg<;>decide
theorem infRung_eq:double.infRung=2047*double.binade:=rfl
theorem word_of (neg:Bool) (L K:Nat) (hL:L<=52) (h1:double.binade<=K) (h2:K<2*double.binade):
  double.read (double.word neg (min ((L+1022)*double.binade+K) double.infRung))= .number neg K (double.leastPlace+(L+1022:Nat)):=by
 have hm:(L+1022)*double.binade<=1074*double.binade:=Nat.mul_le_mul_right _ (by omega)
 have hinf:=infRung_eq
 have hpos:0<double.binade:=Nat.two_pow_pos 52
 have hmin:min ((L+1022)*double.binade+K) double.infRung=(L+1022)*double.binade+K:=by
  generalize double.binade=B at*
  omega
 rw[hmin,read_word neg _ (by omega) (by generalize double.binade=B at*;omega)]
 have e1:((L+1022)*double.binade+K)/double.binade=L+1022+1:=by
  rw[Nat.mul_comm,Nat.mul_add_div hpos]
  have:K/double.binade=1:=by
   rw[Nat.div_eq_iff hpos];generalize double.binade=B at*;omega
  omega
 have e2:((L+1022)*double.binade+K)%double.binade=K-double.binade:=by
  rw[Nat.mul_comm,Nat.mul_add_mod,Nat.mod_eq_sub_mod h1,Nat.mod_eq_of_lt (by omega)]
 rw[e1,e2]
 have e3:double.binade+(K-double.binade)=K:=by omega
 rw[e3]
 rfl
theorem read_nearest (neg:Bool) (mag:Nat) (place:Int) (N e q:Nat) (hp:place+(q:Int)=e) (hv:mag*2 ^ e=N*2 ^ q) (hN:N<2 ^ 53):
  ∃m p,∃e' q':Nat,double.read (double.nearest neg mag place)= .number neg m p/\p+(q':Int)=e'/\m*2 ^ e'=N*2 ^ q':=by
 by_cases h0:mag=0
 ·subst h0
  have hN0:N=0:=by
   have:0<2 ^ q:=Nat.two_pow_pos q
   rcases Nat.mul_eq_zero.1 (by simpa using hv.symm:N*2 ^ q=0)with h|h
   ·exact h
   ·omega
  subst hN0
  refine⟨0,double.leastPlace,0,1074, ?_,by decide,by simp only[Nat.zero_mul]⟩
  unfold Format.nearest
  rw[if_pos rfl]
  exact read_zero neg
 ·have hN0:N≠0:=by
   intro h;subst h
   have:0<2 ^ e:=Nat.two_pow_pos e
   rcases Nat.mul_eq_zero.1 (by simpa using hv:mag*2 ^ e=0)with h|h
   ·exact h0 h
   ·omega
  have l1:=log2_mul_pow mag e h0
  have l2:=log2_mul_pow N q hN0
  have hl:mag.log2+e=N.log2+q:=by rw[<-l1,<-l2,hv]
  have hN53:N.log2<=52:=by
   have:=(Nat.log2_lt hN0 (k:=53)).2 hN
   omega
  have hlp:double.leastPlace= -1074:=by decide
  have hfb:double.fractionBits=52:=rfl
  --what is kept is N*2 ^ (52-log2 N)
  let L:=N.log2
  have hlast:max (place+mag.log2-double.fractionBits) double.leastPlace=(L:Int)-52:=by
   rw[hlp,hfb];show _=(N.log2:Int)-52;omega
  have hkept:Toward.even.cut neg (mag<<<(place-((L:Int)-52)).toNat) (((L:Int)-52)-place).toNat=N*2 ^ (52-L):=by
   by_cases hc:((L:Int)-52)<=place
   ·have e1:(((L:Int)-52)-place).toNat=0:=by omega
    rw[e1,cut_zero,Nat.shiftLeft_eq]
    --mag*2^(place-L+52)=N*2^(52-L)
    have hp2:0<2 ^ e:=Nat.two_pow_pos e
    refine Nat.eq_of_mul_eq_mul_right (Nat.two_pow_pos (e)) ?_
    rw[Nat.mul_assoc,Nat.mul_comm (2 ^ _) (2 ^ e),<-Nat.mul_assoc,hv,Nat.mul_assoc,Nat.mul_assoc,<-Nat.pow_add,<-Nat.pow_add]
    congr 2
    omega
   ·have e1:(place-((L:Int)-52)).toNat=0:=by omega
    rw[e1,Nat.shiftLeft_zero]
    have hm:mag=(N*2 ^ (52-L))*2 ^ (((L:Int)-52)-place).toNat:=by
     refine Nat.eq_of_mul_eq_mul_right (Nat.two_pow_pos (e)) ?_
     rw[hv,Nat.mul_assoc,Nat.mul_assoc,<-Nat.pow_add,<-Nat.pow_add]
     congr 2
     omega
    rw[hm,cut_exact]
  have hb1:2 ^ 52<=N*2 ^ (52-L):=by
   have:=Nat.log2_self_le hN0
   calc 2 ^ 52=2 ^ L*2 ^ (52-L):=by rw[<-Nat.pow_add];congr 1;omega
    _<=N*2 ^ (52-L):=Nat.mul_le_mul_right _ this
  have hb2:N*2 ^ (52-L)<2 ^ 53:=by
   have:= @Nat.lt_log2_self N
   calc N*2 ^ (52-L)<2 ^ (L+1)*2 ^ (52-L):=Nat.mul_lt_mul_of_pos_right this (Nat.two_pow_pos _)
    _=2 ^ 53:=by rw[<-Nat.pow_add];congr 1;omega
  have hb2':N*2 ^ (52-L)<2*double.binade:=hb2
  have hw:=word_of neg L (N*2 ^ (52-L)) hN53 hb1 hb2'
  have hr:((L:Int)-52-double.leastPlace).toNat=L+1022:=by rw[hlp];omega
  refine⟨N*2 ^ (52-L),double.leastPlace+(L+1022:Nat),0,52-L, ?_, ?_, ?_⟩
  ·unfold Format.nearest
   rw[if_neg h0]
   simp only[hlast,hkept,hr]
   exact hw
  ·rw[hlp];omega
  ·rw[Nat.pow_zero,Nat.mul_one]
theorem is_write (d:Datum) (n:Int) (h:Is d n) (hb:n.natAbs<2 ^ 53):Is (double.read (double.write d)) n:=by
 obtain⟨s,m,p,e,q,rfl,hp,hv,hs⟩:=h
 obtain⟨m',p',e',q',hr,hp',hv'⟩:=read_nearest s m p n.natAbs e q hp hv hb
 exact⟨s,m',p',e',q',hr,hp',hv',hs⟩
theorem is_int (n:Int):Is (.number (n<0) n.natAbs 0) n:=⟨_,_,_,0,0,rfl,by simp,by simp,fun _=>rfl⟩
theorem is_opposite {d:Datum} {n:Int} (h:Is d n):Is d.opposite (-n):=by
 obtain⟨s,m,p,e,q,rfl,hp,hv,hs⟩:=h
 refine⟨!s,m,p,e,q,rfl,hp,by simpa using hv,fun hn=> ?_⟩
 rw[hs (by omega)]
 by_cases h:n<0<;>simp[h]<;>omega
theorem is_product {a b:Datum} {x y:Int} (ha:Is a x) (hb:Is b y): ∃c,a.product b=some c/\Is c (x*y):=by
 obtain⟨s,m,p,e,q,rfl,hp,hv,hs⟩:=ha
 obtain⟨t,k,r,f,u,rfl,hr,hw,ht⟩:=hb
 refine⟨_,rfl,_,_,_,e+f,q+u,rfl,by omega, ?_, ?_⟩
 ·rw[Int.natAbs_mul,Nat.pow_add,Nat.pow_add]
  calc m*k*(2 ^ e*2 ^ f)=(m*2 ^ e)*(k*2 ^ f):=by ac_rfl
   _=(x.natAbs*2 ^ q)*(y.natAbs*2 ^ u):=by rw[hv,hw]
   _=_:=by ac_rfl
 ·intro hxy
  have hx:x≠0:=fun h=>hxy (by simp[h])
  have hy:y≠0:=fun h=>hxy (by simp[h])
  rw[hs hx,ht hy]
  rcases Int.lt_or_gt_of_ne hx with h1|h1<;>rcases Int.lt_or_gt_of_ne hy with h2|h2
  ·have:=Int.mul_pos_of_neg_of_neg h1 h2
   simp[h1,h2];omega
  ·have:=Int.mul_neg_of_neg_of_pos h1 h2
   have a: ¬y<0:=by omega
   simp[h1,a,this]
  ·have:=Int.mul_neg_of_pos_of_neg h1 h2
   have a: ¬x<0:=by omega
   simp[h2,a,this]
  ·have:=Int.mul_pos h1 h2
   have a1: ¬x<0:=by omega
   have a2: ¬y<0:=by omega
   have a3: ¬x*y<0:=by omega
   simp[a1,a2,a3]
theorem signed_val {s:Bool} {m:Nat} {p:Int} {e q:Nat} {n:Int} (hp:p+(q:Int)=e) (hv:m*2 ^ e=n.natAbs*2 ^ q) (hs:n≠0->s=decide (n<0)) (base:Int) (hb:base<=p) (E Q:Nat) (hE:base+(Q:Int)=E):
  signed s m (p-base).toNat*2 ^ E=n*2 ^ Q:=by
 have hpos:(m<<<(p-base).toNat)*2 ^ E=n.natAbs*2 ^ Q:=by
  rw[Nat.shiftLeft_eq]
  refine Nat.eq_of_mul_eq_mul_right (Nat.two_pow_pos q) ?_
  calc m*2 ^ (p-base).toNat*2 ^ E*2 ^ q=m*2 ^ ((p-base).toNat+E+q):=by rw[Nat.pow_add,Nat.pow_add];ac_rfl
   _=m*2 ^ (e+Q):=by congr 2;omega
   _=(m*2 ^ e)*2 ^ Q:=by rw[Nat.pow_add];ac_rfl
   _=n.natAbs*2 ^ Q*2 ^ q:=by rw[hv];ac_rfl
 by_cases hn:n=0
 ·subst hn
  have hm:m<<<(p-base).toNat=0:=by
   have:0<2 ^ E:=Nat.two_pow_pos E
   rcases Nat.mul_eq_zero.1 (by simpa using hpos)with h|h
   ·exact h
   ·omega
  unfold signed
  rw[hm];cases s<;>simp
 ·have hs':=hs hn
  have hI:((m<<<(p-base).toNat:Nat):Int)*2 ^ E=(n.natAbs:Int)*2 ^ Q:=by
   have:=congrArg (Nat.cast (R:=Int)) hpos
   simpa using this
  unfold signed
  by_cases h:n<0
  ·rw[hs',decide_eq_true h,if_pos rfl,Int.neg_mul,hI]
   have:(n.natAbs:Int)= -n:=by omega
   rw[this];simp[Int.neg_mul]
  ·rw[hs',decide_eq_false h,if_neg (by simp),hI]
   have:(n.natAbs:Int)=n:=by omega
   rw[this]
theorem pow_pos_int (k:Nat):(0:Int)<2 ^ k:=by exact_mod_cast Nat.two_pow_pos k
theorem is_sum {a b:Datum} {x y:Int} (ha:Is a x) (hb:Is b y): ∃c,a.sum b=some c/\Is c (x+y):=by
 obtain⟨s,m,p,e,q,rfl,hp,hv,hs⟩:=ha
 obtain⟨t,k,r,f,u,rfl,hr,hw,ht⟩:=hb
 have hbase:min p r+((q+u:Nat):Int)=((min p r+(q+u)).toNat:Nat):=by omega
 have h1:=signed_val hp hv hs (min p r) (by omega) _ (q+u) hbase
 have h2:=signed_val hr hw ht (min p r) (by omega) _ (q+u) hbase
 have h3:(signed s m (p-min p r).toNat+signed t k (r-min p r).toNat)*2 ^ (min p r+(q+u)).toNat=(x+y)*2 ^ (q+u):=by
  rw[Int.add_mul,h1,h2,Int.add_mul]
 generalize hT:signed s m (p-min p r).toNat+signed t k (r-min p r).toNat=T at h3
 have hE:=pow_pos_int (min p r+(q+u)).toNat
 have hQ:=pow_pos_int (q+u)
 refine⟨_,rfl,_,_,_,(min p r+(q+u)).toNat,q+u,rfl,hbase, ?_, ?_⟩
 ·have:=congrArg Int.natAbs h3
  rw[Int.natAbs_mul,Int.natAbs_mul,Int.natAbs_pow,Int.natAbs_pow]at this
  simp only[hT]
  exact this
 ·intro hxy
  simp only[hT]
  have hT0:T≠0:=by
   intro h;rw[h,Int.zero_mul]at h3
   rcases Int.mul_eq_zero.1 h3.symm with h|h
   ·exact hxy h
   ·omega
  rw[if_neg hT0]
  by_cases h:x+y<0
  ·have:T<0:=by
    refine Classical.byContradiction fun hc=> ?_
    have a1:0<=T*2 ^ (min p r+(q+u)).toNat:=Int.mul_nonneg (by omega) (by omega)
    have a2:=Int.mul_neg_of_neg_of_pos h hQ
    omega
   simp[this,h]
  ·have: ¬T<0:=by
    intro hc
    have a1:=Int.mul_neg_of_neg_of_pos hc hE
    have a2:0<=(x+y)*2 ^ (q+u):=Int.mul_nonneg (by omega) (by omega)
    omega
   simp[this,h]
theorem is_order {a b:Datum} {x y:Int} (ha:Is a x) (hb:Is b y):a.order b=some (compare x y):=by
 obtain⟨s,m,p,e,q,rfl,hp,hv,hs⟩:=ha
 obtain⟨t,k,r,f,u,rfl,hr,hw,ht⟩:=hb
 have hbase:min p r+((q+u:Nat):Int)=((min p r+(q+u)).toNat:Nat):=by omega
 have h1:=signed_val hp hv hs (min p r) (by omega) _ (q+u) hbase
 have h2:=signed_val hr hw ht (min p r) (by omega) _ (q+u) hbase
 unfold Datum.order
 simp only
 congr 1
 generalize signed s m (p-min p r).toNat=A at*
 generalize signed t k (r-min p r).toNat=B at*
 have hE:=pow_pos_int (min p r+(q+u)).toNat
 have hQ:=pow_pos_int (q+u)
 generalize(2:Int) ^ (min p r+(q+u)).toNat=E at*
 generalize(2:Int) ^ (q+u)=Q at*
 have key: ∀{A B x y:Int},A*E=x*Q->B*E=y*Q->A<B->x<y:=by
  intro A B x y h1 h2 h
  have:A*E<B*E:=Int.mul_lt_mul_of_pos_right h hE
  rw[h1,h2]at this
  exact Int.lt_of_mul_lt_mul_right this (by omega)
 rcases Int.lt_trichotomy A B with h|h|h
 ·rw[Int.compare_eq_lt.2 h,Int.compare_eq_lt.2 (key h1 h2 h)]
 ·subst h
  have:x*Q=y*Q:=by rw[<-h1,<-h2]
  have:=Int.eq_of_mul_eq_mul_right (by omega) this
  subst this
  rw[Int.compare_eq_eq.2 rfl,Int.compare_eq_eq.2 rfl]
 ·rw[Int.compare_eq_gt.2 h,Int.compare_eq_gt.2 (key h2 h1 h)]
theorem is_toInt {a:Datum} {x:Int} (ha:Is a x):a.toInt .zero=some x:=by
 obtain⟨s,m,p,e,q,rfl,hp,hv,hs⟩:=ha
 unfold Datum.toInt Datum.integral
 simp only
 congr 1
 have hc:Toward.zero.cut s (m<<<p.toNat) (-p).toNat=x.natAbs:=by
  by_cases h:0<=p
  ·have e1:(-p).toNat=0:=by omega
   rw[e1,cut_zero,Nat.shiftLeft_eq]
   refine Nat.eq_of_mul_eq_mul_right (Nat.two_pow_pos q) ?_
   rw[<-hv,Nat.mul_assoc,<-Nat.pow_add]
   congr 2;omega
  ·have e1:p.toNat=0:=by omega
   rw[e1,Nat.shiftLeft_zero]
   have:m=x.natAbs*2 ^ (-p).toNat:=by
    refine Nat.eq_of_mul_eq_mul_right (Nat.two_pow_pos e) ?_
    rw[hv,Nat.mul_assoc,<-Nat.pow_add]
    congr 2;omega
   rw[this,cut_exact]
 rw[hc]
 unfold signed
 rw[Nat.shiftLeft_zero]
 by_cases hx:x=0
 ·subst hx;cases s<;>simp
 ·rw[hs hx]
  by_cases h:x<0
  ·simp[h];omega
  ·simp[h];omega
end Flo
namespace Go.Proofs.YtiikamobcmgekaaGreatDoor
def F (b:Nat) (n:Int):Prop:=Flo.Is (Ieee.double.read b) n
def Sm (n:Int):Prop:=n.natAbs<2 ^ 52
theorem F_int {n:Int} (h:Sm n):F (floatOfInt .f64 n) n:=Flo.is_write _ _ (Flo.is_int n) (by unfold Sm at h;omega)
theorem F_mul {a b:Nat} {x y:Int} (ha:F a x) (hb:F b y) (h:Sm (x*y)): ∃r,floatBits .mul .f64 a b=some r/\F r (x*y):=by
 obtain⟨c,hc,hi⟩:=Flo.is_product ha hb
 refine⟨Ieee.double.write c, ?_,Flo.is_write _ _ hi (by unfold Sm at h;omega)⟩
 show Ieee.double.mul a b=_
 unfold Ieee.Format.mul;rw[hc];rfl
theorem F_add {a b:Nat} {x y:Int} (ha:F a x) (hb:F b y) (h:Sm (x+y)): ∃r,floatBits .add .f64 a b=some r/\F r (x+y):=by
 obtain⟨c,hc,hi⟩:=Flo.is_sum ha hb
 refine⟨Ieee.double.write c, ?_,Flo.is_write _ _ hi (by unfold Sm at h;omega)⟩
 show Ieee.double.add a b=_
 unfold Ieee.Format.add;rw[hc];rfl
theorem F_sub {a b:Nat} {x y:Int} (ha:F a x) (hb:F b y) (h:Sm (x-y)): ∃r,floatBits .sub .f64 a b=some r/\F r (x-y):=by
 obtain⟨c,hc,hi⟩:=Flo.is_sum ha (Flo.is_opposite hb)
 refine⟨Ieee.double.write c, ?_, ?_⟩
 ·show Ieee.double.sub a b=_
  unfold Ieee.Format.sub;rw[hc];rfl
 ·rw[Int.sub_eq_add_neg];exact Flo.is_write _ _ hi (by unfold Sm at h;omega)
theorem F_cmul {a b c d:Nat} {x y u v:Int} (ha:F a x) (hb:F b y) (hc:F c u) (hd:F d v) (h1:Sm (x*u)) (h2:Sm (y*v)) (h3:Sm (x*v)) (h4:Sm (y*u)) (h5:Sm (x*u-y*v)) (h6:Sm (x*v+y*u)):
  ∃r s,cMulBits a b c d=some (r,s)/\F r (x*u-y*v)/\F s (x*v+y*u):=by
 obtain⟨p1,e1,f1⟩:=F_mul ha hc h1
 obtain⟨p2,e2,f2⟩:=F_mul hb hd h2
 obtain⟨p3,e3,f3⟩:=F_mul ha hd h3
 obtain⟨p4,e4,f4⟩:=F_mul hb hc h4
 obtain⟨p5,e5,f5⟩:=F_sub f1 f2 h5
 obtain⟨p6,e6,f6⟩:=F_add f3 f4 h6
 exact⟨p5,p6,by simp[cMulBits,e1,e2,e3,e4,e5,e6],f5,f6⟩
theorem F_cadd {a b c d:Nat} {x y u v:Int} (ha:F a x) (hb:F b y) (hc:F c u) (hd:F d v) (h1:Sm (x+u)) (h2:Sm (y+v)):
  ∃r s,cSumBits .add .f64 a b c d=some (r,s)/\F r (x+u)/\F s (y+v):=by
 obtain⟨p1,e1,f1⟩:=F_add ha hc h1
 obtain⟨p2,e2,f2⟩:=F_add hb hd h2
 exact⟨p1,p2,by simp[cSumBits,e1,e2],f1,f2⟩
theorem F_order {a b:Nat} {x y:Int} (ha:F a x) (hb:F b y):FloatKind.f64.format.order a b=some (compare x y):=Flo.is_order ha hb
theorem F_toInt {a:Nat} {x:Int} (ha:F a x) (h:Sm x):floatToIntVal .f64 a .i64=some x:=by
 unfold floatToIntVal
 have:(FloatKind.f64.decode a).toInt .zero=some x:=Flo.is_toInt ha
 rw[this]
 have hb:IntKind.i64.min<=x/\x<=IntKind.i64.max:=by
  unfold Sm at h
  have e1:IntKind.i64.min= -9223372036854775808:=by decide
  have e2:IntKind.i64.max=9223372036854775807:=by decide
  rw[e1,e2];omega
 show(if _ then _ else _)=_
 rw[if_pos hb]
theorem F_zero:F 0 0:=by
 refine⟨false,0,_,0,1074,(by decide:Ieee.double.read 0= .number false 0 (-1074)),by decide,by simp only[Nat.zero_mul,Int.natAbs_zero],by simp⟩
theorem F_one:F 4607182418800017408 1:=by
 refine⟨false,4503599627370496,-52,0,52,(by decide:Ieee.double.read 4607182418800017408= .number false 4503599627370496 (-52)),by decide,by decide,by simp⟩
theorem F_negone:F 13830554455654793216 (-1):=by
 refine⟨true,4503599627370496,-52,0,52,(by decide:Ieee.double.read 13830554455654793216= .number true 4503599627370496 (-52)),by decide,by decide,by simp⟩
theorem flip_bit (b k:Nat):(b ^^^ 2 ^ k)%2 ^ k=b%2 ^ k/\((b ^^^ 2 ^ k)/2 ^ k%2==1)= !(b/2 ^ k%2==1):=by
 constructor
 ·rw[Nat.xor_mod_two_pow,Nat.mod_self,Nat.xor_zero]
 ·rw[Nat.xor_div_two_pow,Nat.div_self (Nat.two_pow_pos k)]
  have:=Nat.xor_mod_two_pow (a:=b/2 ^ k) (b:=1) (n:=1)
  rw[Nat.pow_one]at this
  rw[this]
  rcases Nat.mod_two_eq_zero_or_one (b/2 ^ k)with h|h<;>rw[h]<;>decide
theorem F_neg {b:Nat} {n:Int} (h:F b n):F (Op.negFloat .f64 b) (-n):=by
 have e:Op.negFloat .f64 b=b ^^^ 2 ^ 63:=rfl
 have hr:Ieee.double.read (Op.negFloat .f64 b)=(Ieee.double.read b).opposite:=by
  rw[e]
  have h1:=(flip_bit b 63).1
  have h2:=(flip_bit b 63).2
  have hs:Ieee.double.signWeight=2 ^ 63:=rfl
  unfold Ieee.Format.read
  rw[hs,h1,h2]
  dsimp only
  generalize b%2 ^ 63=r
  generalize(b/2 ^ 63%2==1)=s
  split
  ·rfl
  ·split
   ·rfl
   ·split<;>rfl
 unfold F
 rw[hr]
 exact Flo.is_opposite h
end Go.Proofs.YtiikamobcmgekaaGreatDoor
namespace Go.Proofs.YtiikamobcmgekaaGreatDoor
structure St where
 k:Int
 x:Int
 y:Int
deriving DecidableEq
structure Mo where
 flip:Bool
 bx:Int
 bY:Int
 mx:Int
 my:Int
def nearB (n far:Int):Bool:=decide (-far<=n)&&decide (n<=far)
def mayB (s:St):Bool:=
 if s.k=1 then nearB s.x 4096&&nearB s.y 4096
 else if s.k=2 then nearB s.x 1000&&decide (s.y=0)
 else if s.k=3 then decide (1<=s.x)&&decide (s.x<=8)&&decide (s.y=0)
 else if s.k=4 then decide (s.x=0)&&decide (s.y=0)
 else false
def rightB (l:List St):Bool:=l.all mayB&&decide (l.length<=8)
def quart (n:Int):Nat:=(n%4).toNat
def rot:Nat->Int × Int->Int × Int
 |0,p=>p
 |k+1,p=>rot k (-p.2,p.1)
def Mo.one:Mo:=⟨false,1,0,0,0⟩
def Mo.tu (m:Mo) (z:Int × Int):Int × Int:=
 let y:=if m.flip then-z.2 else z.2
 (m.bx*z.1-m.bY*y+m.mx,m.bx*y+m.bY*z.1+m.my)
def stepM (s:St):Mo:=
 if s.k=1 then {Mo.one with mx:=s.x,my:=s.y}
 else if s.k=2 then {Mo.one with bx:=(rot (quart s.x) (1,0)).1,bY:=(rot (quart s.x) (1,0)).2}
 else if s.k=3 then {Mo.one with bx:=s.x}
 else if s.k=4 then {Mo.one with flip:=true}
 else Mo.one
def behind (m n:Mo):Mo:=
 let nY:=if m.flip then-n.bY else n.bY
 {flip:=m.flip !=n.flip,mx:=(m.tu (n.mx,n.my)).1,my:=(m.tu (n.mx,n.my)).2,bx:=m.bx*n.bx-m.bY*nY,bY:=m.bx*nY+m.bY*n.bx}
def allM (l:List St):Mo:=l.foldl (fun m s=>behind m (stepM s)) Mo.one
theorem nearB_iff {n far:Int}:nearB n far=true↔ -far<=n/\n<=far:=by simp[nearB]
theorem rot_rot (k:Nat): ∀p:Int × Int,rot k (-p.2,p.1)=(-(rot k p).2,(rot k p).1):=by
 induction k with
 |zero=>intro p;rfl
 |succ k ih=>intro p;simp only[rot];rw[ih (-p.2,p.1)]
def Bd (c:Nat) (m:Mo):Prop:=m.bx.natAbs<=c/\m.bY.natAbs<=c/\m.mx.natAbs<=8192*c/\m.my.natAbs<=8192*c
def Ax (m:Mo):Prop:=(m.bx=0\/m.bY=0)/\(m.bx≠0\/m.bY≠0)
theorem mul_abs {a b:Int} {A B:Nat} (ha:a.natAbs<=A) (hb:b.natAbs<=B):(a*b).natAbs<=A*B:=by
 rw[Int.natAbs_mul];exact Nat.mul_le_mul ha hb
theorem sub_abs {a b:Int} {A B:Nat} (ha:a.natAbs<=A) (hb:b.natAbs<=B):(a-b).natAbs<=A+B:=by omega
theorem add_abs {a b:Int} {A B:Nat} (ha:a.natAbs<=A) (hb:b.natAbs<=B):(a+b).natAbs<=A+B:=by omega
theorem rot_unit (k:Nat) (p:Int × Int) (h:p=(1,0)\/p=(0,1)\/p=(-1,0)\/p=(0,-1)):rot k p=(1,0)\/rot k p=(0,1)\/rot k p=(-1,0)\/rot k p=(0,-1):=by
 induction k generalizing p with
 |zero=>exact h
 |succ k ih=>simp only[rot];apply ih;rcases h with rfl|rfl|rfl|rfl<;>simp
theorem step_ax (s:St) (h:mayB s=true):Ax (stepM s)/\(stepM s).bx.natAbs<=8/\(stepM s).bY.natAbs<=8/\(stepM s).mx.natAbs<=4096/\(stepM s).my.natAbs<=4096:=by
 unfold mayB nearB at h
 unfold stepM Ax
 split
 ·rename_i h1;simp[h1]at h;simp[Mo.one];omega
 ·split
  ·rcases rot_unit (quart s.x) (1,0) (by simp)with e|e|e|e<;>simp[e,Mo.one]
  ·split
   ·rename_i h1 h2 h3;simp[h3]at h;simp[Mo.one];omega
   ·split<;>simp[Mo.one]
theorem behind_ax (m n:Mo) (hm:Ax m) (hn:Ax n):Ax (behind m n):=by
 obtain⟨f,a,b,c,d⟩:=m
 obtain⟨g,a',b',c',d'⟩:=n
 obtain⟨h1,h2⟩:=hm
 obtain⟨h3,h4⟩:=hn
 simp only at h1 h2 h3 h4
 unfold Ax behind
 rcases h1 with rfl|rfl<;>rcases h3 with rfl|rfl<;>simp at h2 h4<;>cases f<;>simp[h2,h4,Int.mul_eq_zero]
theorem lin_bd {a b u v:Int} {c:Nat} (h:u=0\/v=0) (ha:a.natAbs<=c) (hb:b.natAbs<=c) (hu:u.natAbs<=8) (hv:v.natAbs<=8):(a*u-b*v).natAbs<=8*c/\(a*v+b*u).natAbs<=8*c:=by
 have q1:=mul_abs ha hu
 have q2:=mul_abs hb hv
 have q3:=mul_abs ha hv
 have q4:=mul_abs hb hu
 rcases h with rfl|rfl
 ·simp only[Int.mul_zero]at*;omega
 ·simp only[Int.mul_zero]at*;omega
theorem mov_bd {a b x y e d:Int} {c:Nat} (ha:a.natAbs<=c) (hb:b.natAbs<=c) (hx:x.natAbs<=4096) (hy:y.natAbs<=4096) (he:e.natAbs<=8192*c) (hd:d.natAbs<=8192*c):(a*x-b*y+e).natAbs<=8192*(8*c)/\(a*y+b*x+d).natAbs<=8192*(8*c):=by
 have q1:=mul_abs ha hx
 have q2:=mul_abs hb hy
 have q3:=mul_abs ha hy
 have q4:=mul_abs hb hx
 omega
theorem behind_bd (c:Nat) (m n:Mo) (hm:Bd c m) (hax:Ax n) (h1:n.bx.natAbs<=8) (h2:n.bY.natAbs<=8) (h3:n.mx.natAbs<=4096) (h4:n.my.natAbs<=4096):Bd (8*c) (behind m n):=by
 obtain⟨p1,p2,p3,p4⟩:=hm
 have hz:=hax.1
 have hy:(if m.flip then-n.bY else n.bY).natAbs<=8:=by split<;>omega
 have hz':n.bx=0\/(if m.flip then-n.bY else n.bY)=0:=by rcases hz with h|h<;>simp[h]
 have hw:(if m.flip then-n.my else n.my).natAbs<=4096:=by split<;>omega
 have r1:=lin_bd hz' p1 p2 h1 hy
 have r2:=mov_bd p1 p2 h3 hw p3 p4
 exact⟨r1.1,r1.2,r2.1,r2.2⟩
theorem all_bd_from (l:List St) (h: ∀s∈l,mayB s=true) (c:Nat) (m:Mo) (hm:Bd c m) (ha:Ax m):Bd (8 ^ l.length*c) (l.foldl (fun m s=>behind m (stepM s)) m)/\Ax (l.foldl (fun m s=>behind m (stepM s)) m):=by
 induction l generalizing m c with
 |nil=>simpa using⟨hm,ha⟩
 |cons s l ih=>
  obtain⟨hx,b1,b2,b3,b4⟩:=step_ax s (h s (by simp))
  have:=ih (fun t ht=>h t (by simp[ht])) (8*c) (behind m (stepM s)) (behind_bd c m _ hm hx b1 b2 b3 b4) (behind_ax m _ ha hx)
  simp only[List.foldl_cons,List.length_cons]
  rw[show 8 ^ (l.length+1)*c=8 ^ l.length*(8*c) by rw[Nat.pow_succ];ac_rfl]
  exact this
theorem Bd.mono {c c':Nat} {m:Mo} (h:Bd c m) (hc:c<=c'):Bd c' m:=by
 obtain⟨a,b,d,e⟩:=h;exact⟨by omega,by omega,by omega,by omega⟩
theorem bd_one:Bd 1 Mo.one:=by simp[Bd,Mo.one]
theorem ax_one:Ax Mo.one:=by simp[Ax,Mo.one]
theorem all_bd (l:List St) (h:rightB l=true) (k:Nat):Bd 16777216 (allM (l.take k))/\Ax (allM (l.take k)):=by
 unfold rightB at h
 simp only[Bool.and_eq_true,List.all_eq_true,decide_eq_true_eq]at h
 have hh:=all_bd_from (l.take k) (fun s hs=>h.1 s (List.mem_of_mem_take hs)) 1 Mo.one bd_one ax_one
 refine⟨hh.1.mono ?_,hh.2⟩
 have:(l.take k).length<=8:=by rw[List.length_take];omega
 have:=Nat.pow_le_pow_right (n:=8) (by omega) this
 omega
end Go.Proofs.YtiikamobcmgekaaGreatDoor
namespace Go.Proofs.YtiikamobcmgekaaGreatDoor
open Go.RowKit
theorem tret_bool {a b:Bool} (h:a=b):Ending.returned (.bool a)= .returned (.bool b):=by rw[h]
theorem near_any (n far:Int) (w:World) (h0:0<=far) (h1:far<=100000):
  Calls Tryz.prog 270 #[.int .i64 n,.int .i64 far] w fun e w'=>e= .returned (.bool (nearB n far))/\w=w':=by
 go_enter Tryz.func270,Tryz.ntmps270
 go_wp2
 all_goals go_ret
 all_goals exact⟨tret_bool (by unfold nearB;simp<;>omega),rfl⟩
@[go_sem] theorem run_store_complex {P:Program} {w:World} {a:Addr} {md:Mode} (k:FloatKind) (r s:Nat):(store a (.complex k r s) md).run P w=stored P w a (.complex k r s) md:=run_store P w a _ md rfl
@[go_sem] theorem run_negf {P:Program} (b:Nat) (w:World):(Op.unary .neg (.float .f64 b)).run P w= .ok (.float .f64 (Op.negFloat .f64 b)) w:=rfl
theorem of_any (x y:Int) (w:World):
  Calls Tryz.prog 305 #[.int .i64 x,.int .i64 y] w fun e w'=>e= .returned (.complex .f64 (floatOfInt .f64 x) (floatOfInt .f64 y))/\w=w':=by
 go_enter Tryz.func305,Tryz.ntmps305
 go_wp2
 go_ret
 exact⟨rfl,rfl⟩
theorem ints_any (r s:Nat) (x y:Int) (w:World) (hr:F r x) (hs:F s y) (hx:Sm x) (hy:Sm y):
  Calls Tryz.prog 268 #[.complex .f64 r s] w fun e w'=>e= .returned (.tuple #[.int .i64 x,.int .i64 y])/\w=w':=by
 have e1:=fun w:World=>run_convert_float_int (P:=Tryz.prog) w 292 3 .f64 .i64 r x (by kernel_rfl) (by kernel_rfl) (F_toInt hr hx)
 have e2:=fun w:World=>run_convert_float_int (P:=Tryz.prog) w 292 3 .f64 .i64 s y (by kernel_rfl) (by kernel_rfl) (F_toInt hs hy)
 go_enter Tryz.func268,Tryz.ntmps268
 go_wp2
 go_ret2
 exact⟨rfl,rfl⟩
theorem flipped_any (r s:Nat) (w:World):
  Calls Tryz.prog 304 #[.complex .f64 r s] w fun e w'=>e= .returned (.complex .f64 r (Op.negFloat .f64 s))/\w=w':=by
 go_enter Tryz.func304,Tryz.ntmps304
 go_wp2
 go_ret
 exact⟨rfl,rfl⟩
structure MB where
 f:Bool
 b1:Nat
 b2:Nat
 m1:Nat
 m2:Nat
def MB.val (m:MB):Value:= .agg #[.bool m.f,.complex .f64 m.b1 m.b2,.complex .f64 m.m1 m.m2]
def MB.is (u:MB) (m:Mo):Prop:=u.f=m.flip/\F u.b1 m.bx/\F u.b2 m.bY/\F u.m1 m.mx/\F u.m2 m.my
def cmul (a b c d:Nat):Nat × Nat:=(cMulBits a b c d).getD (0,0)
def cadd (a b c d:Nat):Nat × Nat:=(cSumBits .add .f64 a b c d).getD (0,0)
theorem cmul_run {P:Program} {a b c d:Nat} (t:TypeId) (h:(cMulBits a b c d).isSome=true) (w:World):(binOp .mul t (.complex .f64 a b) (.complex .f64 c d)).run P w= .ok (.complex .f64 (cmul a b c d).1 (cmul a b c d).2) w:=by
 obtain⟨⟨r,s⟩,e⟩:=Option.isSome_iff_exists.1 h
 have:cmul a b c d=(r,s):=by simp[cmul,e]
 rw[this]
 exact run_complex_mul w t a b c d r s e
theorem cadd_run {P:Program} {a b c d:Nat} (t:TypeId) (h:(cSumBits .add .f64 a b c d).isSome=true) (w:World):(binOp .add t (.complex .f64 a b) (.complex .f64 c d)).run P w= .ok (.complex .f64 (cadd a b c d).1 (cadd a b c d).2) w:=by
 obtain⟨⟨r,s⟩,e⟩:=Option.isSome_iff_exists.1 h
 have:cadd a b c d=(r,s):=by simp[cadd,e]
 rw[this]
 exact run_complex_sum w .add (Or.inl rfl) t .f64 a b c d r s e
theorem cmul_F {a b c d:Nat} {x y u v:Int} (ha:F a x) (hb:F b y) (hc:F c u) (hd:F d v) (h1:Sm (x*u)) (h2:Sm (y*v)) (h3:Sm (x*v)) (h4:Sm (y*u)) (h5:Sm (x*u-y*v)) (h6:Sm (x*v+y*u)):
  (cMulBits a b c d).isSome=true/\F (cmul a b c d).1 (x*u-y*v)/\F (cmul a b c d).2 (x*v+y*u):=by
 obtain⟨r,s,e,f1,f2⟩:=F_cmul ha hb hc hd h1 h2 h3 h4 h5 h6
 simp[cmul,e,f1,f2]
theorem cadd_F {a b c d:Nat} {x y u v:Int} (ha:F a x) (hb:F b y) (hc:F c u) (hd:F d v) (h1:Sm (x+u)) (h2:Sm (y+v)):
  (cSumBits .add .f64 a b c d).isSome=true/\F (cadd a b c d).1 (x+u)/\F (cadd a b c d).2 (y+v):=by
 obtain⟨r,s,e,f1,f2⟩:=F_cadd ha hb hc hd h1 h2
 simp[cadd,e,f1,f2]
def MB.tu (u:MB) (z:Nat × Nat):Nat × Nat:=
 let s:=if u.f then Op.negFloat .f64 z.2 else z.2
 cadd (cmul u.b1 u.b2 z.1 s).1 (cmul u.b1 u.b2 z.1 s).2 u.m1 u.m2
theorem sm_of {n:Int} (c:Nat) (h:n.natAbs<=c) (hc:c<=4503599627370495):Sm n:=by unfold Sm;omega
theorem to_F (u:MB) (m:Mo) (r s:Nat) (x y:Int) (hv:u.is m) (hm:Bd 134217728 m) (hr:F r x) (hs:F s y) (hx:x.natAbs<=4096) (hy:y.natAbs<=4096):
  (cMulBits u.b1 u.b2 r (if u.f then Op.negFloat .f64 s else s)).isSome=true/\
  (cSumBits .add .f64 (cmul u.b1 u.b2 r (if u.f then Op.negFloat .f64 s else s)).1 (cmul u.b1 u.b2 r (if u.f then Op.negFloat .f64 s else s)).2 u.m1 u.m2).isSome=true/\
  F (u.tu (r,s)).1 (m.tu (x,y)).1/\F (u.tu (r,s)).2 (m.tu (x,y)).2:=by
 obtain⟨f0,f1,f2,f3,f4⟩:=hv
 obtain⟨a1,a2,a3,a4⟩:=hm
 have hs':F (if u.f then Op.negFloat .f64 s else s) (if m.flip then-y else y):=by
  rw[f0];cases m.flip
  ·exact hs
  ·exact F_neg hs
 have hy':(if m.flip then-y else y).natAbs<=4096:=by split<;>omega
 unfold MB.tu Mo.tu
 dsimp only
 generalize(if u.f then Op.negFloat .f64 s else s)=s' at*
 generalize(if m.flip then-y else y)=y' at*
 have q1:=mul_abs a1 hx
 have q2:=mul_abs a2 hy'
 have q3:=mul_abs a1 hy'
 have q4:=mul_abs a2 hx
 obtain⟨e,g1,g2⟩:=cmul_F f1 f2 hr hs' (sm_of _ q1 (by omega)) (sm_of _ q2 (by omega)) (sm_of _ q3 (by omega)) (sm_of _ q4 (by omega)) (sm_of _ (sub_abs q1 q2) (by omega)) (sm_of _ (add_abs q3 q4) (by omega))
 obtain⟨e',g1',g2'⟩:=cadd_F g1 g2 f3 f4 (sm_of _ (add_abs (sub_abs q1 q2) a3) (by omega)) (sm_of _ (add_abs (add_abs q3 q4) a4) (by omega))
 exact⟨e,e',g1',g2'⟩
theorem to_any (u:MB) (m:Mo) (r s:Nat) (x y:Int) (w:World) (hv:u.is m) (hm:Bd 134217728 m) (hr:F r x) (hs:F s y) (hx:x.natAbs<=4096) (hy:y.natAbs<=4096):
  Calls Tryz.prog 303 #[u.val,.complex .f64 r s] w (Ret (.complex .f64 (u.tu (r,s)).1 (u.tu (r,s)).2) w):=by
 obtain⟨k1,k2,_,_⟩:=to_F u m r s x y hv hm hr hs hx hy
 clear hv hm hr hs hx hy
 obtain⟨f,b1,b2,m1,m2⟩:=u
 unfold MB.val MB.tu
 dsimp only at*
 cases f
 all_goals
  simp only[Bool.false_eq_true,reduceIte]at k1 k2 ⊢
  have h1:=fun w=>cmul_run (P:=Tryz.prog) 273 k1 w
  have h2:=fun w=>cadd_run (P:=Tryz.prog) 273 k2 w
  clear k1 k2
  go_enter Tryz.func303,Tryz.ntmps303
  go_wp2_with(go_at_call 304;refine(flipped_any _ _ _).mono ?_;rintro e w' ⟨rfl,rfl⟩)
  go_ret
  exact Ret.of rfl ((Below.refl _ _).alloc (Nat.le_refl _) _)
end Go.Proofs.YtiikamobcmgekaaGreatDoor
namespace Go.Proofs.YtiikamobcmgekaaGreatDoor
open Go.RowKit
def MB.behind (u v:MB):MB:=
 {f:= !(u.f==v.f),m1:=(u.tu (v.m1,v.m2)).1,m2:=(u.tu (v.m1,v.m2)).2,
  b1:=(cmul u.b1 u.b2 v.b1 (if u.f then Op.negFloat .f64 v.b2 else v.b2)).1,b2:=(cmul u.b1 u.b2 v.b1 (if u.f then Op.negFloat .f64 v.b2 else v.b2)).2}
theorem behind_F (u v:MB) (m n:Mo) (hu:u.is m) (hv:v.is n) (hm:Bd 16777216 m) (hn:n.bx.natAbs<=8/\n.bY.natAbs<=8) (hx:n.mx.natAbs<=4096) (hy:n.my.natAbs<=4096):
  (cMulBits u.b1 u.b2 v.b1 (if u.f then Op.negFloat .f64 v.b2 else v.b2)).isSome=true/\(u.behind v).is (behind m n):=by
 have ht:=to_F u m v.m1 v.m2 n.mx n.my hu (hm.mono (by omega)) hv.2.2.2.1 hv.2.2.2.2 hx hy
 obtain⟨f0,f1,f2,f3,f4⟩:=hu
 obtain⟨g0,g1,g2,g3,g4⟩:=hv
 obtain⟨a1,a2,a3,a4⟩:=hm
 have hs':F (if u.f then Op.negFloat .f64 v.b2 else v.b2) (if m.flip then-n.bY else n.bY):=by
  rw[f0];cases m.flip
  ·exact g2
  ·exact F_neg g2
 have hy':(if m.flip then-n.bY else n.bY).natAbs<=8:=by split<;>omega
 unfold MB.behind MB.is behind
 dsimp only
 generalize(if u.f then Op.negFloat .f64 v.b2 else v.b2)=s' at*
 generalize(if m.flip then-n.bY else n.bY)=y' at*
 have q1:=mul_abs a1 hn.1
 have q2:=mul_abs a2 hy'
 have q3:=mul_abs a1 hy'
 have q4:=mul_abs a2 hn.1
 obtain⟨e,k1,k2⟩:=cmul_F f1 f2 g1 hs' (sm_of _ q1 (by omega)) (sm_of _ q2 (by omega)) (sm_of _ q3 (by omega)) (sm_of _ q4 (by omega)) (sm_of _ (sub_abs q1 q2) (by omega)) (sm_of _ (add_abs q3 q4) (by omega))
 exact⟨e,by rw[f0,g0];rfl,k1,k2,ht.2.2.1,ht.2.2.2⟩
theorem behind_any (u v:MB) (m n:Mo) (w:World) (hu:u.is m) (hv:v.is n) (hm:Bd 16777216 m) (hn:n.bx.natAbs<=8/\n.bY.natAbs<=8) (hx:n.mx.natAbs<=4096) (hy:n.my.natAbs<=4096):
  Calls Tryz.prog 291 #[u.val,v.val] w (Ret (u.behind v).val w):=by
 have hto:=fun(w:World)=>to_any u m v.m1 v.m2 n.mx n.my w hu (hm.mono (by omega)) hv.2.2.2.1 hv.2.2.2.2 hx hy
 have k1:=(behind_F u v m n hu hv hm hn hx hy).1
 clear hu hv hm hn hx hy
 generalize hp:u.tu (v.m1,v.m2)=p at*
 have HB:Hid ((u.behind v)={f:= !(u.f==v.f),m1:=p.1,m2:=p.2,b1:=(cmul u.b1 u.b2 v.b1 (if u.f then Op.negFloat .f64 v.b2 else v.b2)).1,b2:=(cmul u.b1 u.b2 v.b1 (if u.f then Op.negFloat .f64 v.b2 else v.b2)).2}):=by
  unfold MB.behind;rw[hp];exact rfl
 clear hp
 rw[HB.out]
 clear HB
 obtain⟨uf,b1,b2,m1,m2⟩:=u
 obtain⟨vf,c1,c2,n1,n2⟩:=v
 obtain⟨p1,p2⟩:=p
 have HT:=Lib.hid hto
 clear hto
 unfold MB.val at*
 dsimp only at*
 cases uf
 ·rw[show(!(false==vf))=vf from by cases vf<;>rfl]
  simp only[Bool.false_eq_true,reduceIte]at k1 ⊢
  have h1:=fun w=>cmul_run (P:=Tryz.prog) 273 k1 w
  clear k1
  go_enter Tryz.func291,Tryz.ntmps291
  go_upto_region 1 with fail
  go_cut [5] (fun s5 wx=> ∃g,s5= .pointer (some ⟨g,0,none⟩)/\w.heap.size+1+1+1<=g/\(∃X,wx=(((w.alloc (.cells #[.bool false,.complex .f64 b1 b2,.complex .f64 m1 m2] 275)).alloc (.cells #[.bool vf,.complex .f64 c1 c2,.complex .f64 n1 n2] 275)).alloc (.cells #[.bool false,.complex .f64 0 0,.complex .f64 0 0] 275)).grow X)/\wx.cell? ⟨g,0,none⟩=some (.bool (vf))/\wx.cell? ⟨g,1,none⟩=some (.complex .f64 0 0)/\wx.cell? ⟨g,2,none⟩=some (.complex .f64 p1 p2)/\wx.frozen? ⟨g,1,none⟩=false)
  case first=>
   go_region_held3 (fun w'=>(w'.cell? ⟨w.heap.size,0,none⟩=some (.bool false)/\w'.cell? ⟨w.heap.size,1,none⟩=some (.complex .f64 b1 b2)/\w'.cell? ⟨w.heap.size,2,none⟩=some (.complex .f64 m1 m2))/\w'.cell? ⟨w.heap.size+1,0,none⟩=some (.bool vf)/\w'.cell? ⟨w.heap.size+1,2,none⟩=some (.complex .f64 n1 n2)) (first|(go_simp;done)|(simp[go_sem,↓IntWalk.iteOmega];done))
    (first|(go_at_call 303;refine(HT.out _).mono ?_;rintro e w1 ⟨rfl,X,rfl⟩))
   all_goals
    go_wp2_with fail
    go_meet
    refine⟨_,rfl, ?_,grow_of_below bel, ?_, ?_, ?_, ?_⟩
    all_goals(simp[go_sem])
  case rest=>
   obtain⟨g,rfl,hg,⟨X,rfl⟩,g0,g1,g2,gf⟩:=hcut
   have hg':((((w.alloc (.cells #[.bool false,.complex .f64 b1 b2,.complex .f64 m1 m2] 275)).alloc (.cells #[.bool vf,.complex .f64 c1 c2,.complex .f64 n1 n2] 275)).alloc (.cells #[.bool false,.complex .f64 0 0,.complex .f64 0 0] 275)).heap.size<=g):=by simpa[go_sem]using hg
   have g0':=newCell_is hg' g0
   have g1':=newCell_is hg' g1
   have g2':=newCell_is hg' g2
   have gf':=newFrozen_is hg' gf
   clear g0 g1 g2 gf hg'
   simp only[World.size_alloc]at g0' g1' g2' gf'
   have hg0: ¬g<w.heap.size+1+1+1:=by omega
   have hg1: ¬g=w.heap.size:=by omega
   have hg2: ¬g=w.heap.size+1:=by omega
   have hg3: ¬g=w.heap.size+1+1:=by omega
   have hg4: ¬w.heap.size=g:=by omega
   have hg5: ¬w.heap.size+1=g:=by omega
   have hg6: ¬w.heap.size+1+1=g:=by omega
   clear HT
   go_wp2_with(go_at_call 304;refine(flipped_any _ _ _).mono ?_;rintro e w' ⟨rfl,rfl⟩)
   refine bodyPost_ret (v:= .agg #[.bool (vf),.complex .f64 (cmul b1 b2 c1 c2).1 (cmul b1 b2 c1 c2).2,.complex .f64 p1 p2]) ?_ rfl (Ret.of rfl bel)
   simp[results,Tryz.results291,go_sem]
 ·rw[show(!(true==vf))= !vf from by cases vf<;>rfl]
  simp only[reduceIte]at k1 ⊢
  have h1:=fun w=>cmul_run (P:=Tryz.prog) 273 k1 w
  clear k1
  go_enter Tryz.func291,Tryz.ntmps291
  go_upto_region 1 with fail
  go_cut [5] (fun s5 wx=> ∃g,s5= .pointer (some ⟨g,0,none⟩)/\w.heap.size+1+1+1<=g/\(∃X,wx=(((w.alloc (.cells #[.bool true,.complex .f64 b1 b2,.complex .f64 m1 m2] 275)).alloc (.cells #[.bool vf,.complex .f64 c1 c2,.complex .f64 n1 n2] 275)).alloc (.cells #[.bool false,.complex .f64 0 0,.complex .f64 0 0] 275)).grow X)/\wx.cell? ⟨g,0,none⟩=some (.bool (!vf))/\wx.cell? ⟨g,1,none⟩=some (.complex .f64 0 0)/\wx.cell? ⟨g,2,none⟩=some (.complex .f64 p1 p2)/\wx.frozen? ⟨g,1,none⟩=false)
  case first=>
   go_region_held3 (fun w'=>(w'.cell? ⟨w.heap.size,0,none⟩=some (.bool true)/\w'.cell? ⟨w.heap.size,1,none⟩=some (.complex .f64 b1 b2)/\w'.cell? ⟨w.heap.size,2,none⟩=some (.complex .f64 m1 m2))/\w'.cell? ⟨w.heap.size+1,0,none⟩=some (.bool vf)/\w'.cell? ⟨w.heap.size+1,2,none⟩=some (.complex .f64 n1 n2)) (first|(go_simp;done)|(simp[go_sem,↓IntWalk.iteOmega];done))
    (first|(go_at_call 303;refine(HT.out _).mono ?_;rintro e w1 ⟨rfl,X,rfl⟩))
   all_goals
    go_wp2_with fail
    go_meet
    refine⟨_,rfl, ?_,grow_of_below bel, ?_, ?_, ?_, ?_⟩
    all_goals(simp[go_sem])
  case rest=>
   obtain⟨g,rfl,hg,⟨X,rfl⟩,g0,g1,g2,gf⟩:=hcut
   have hg':((((w.alloc (.cells #[.bool true,.complex .f64 b1 b2,.complex .f64 m1 m2] 275)).alloc (.cells #[.bool vf,.complex .f64 c1 c2,.complex .f64 n1 n2] 275)).alloc (.cells #[.bool false,.complex .f64 0 0,.complex .f64 0 0] 275)).heap.size<=g):=by simpa[go_sem]using hg
   have g0':=newCell_is hg' g0
   have g1':=newCell_is hg' g1
   have g2':=newCell_is hg' g2
   have gf':=newFrozen_is hg' gf
   clear g0 g1 g2 gf hg'
   simp only[World.size_alloc]at g0' g1' g2' gf'
   have hg0: ¬g<w.heap.size+1+1+1:=by omega
   have hg1: ¬g=w.heap.size:=by omega
   have hg2: ¬g=w.heap.size+1:=by omega
   have hg3: ¬g=w.heap.size+1+1:=by omega
   have hg4: ¬w.heap.size=g:=by omega
   have hg5: ¬w.heap.size+1=g:=by omega
   have hg6: ¬w.heap.size+1+1=g:=by omega
   clear HT
   go_wp2_with(go_at_call 304;refine(flipped_any _ _ _).mono ?_;rintro e w' ⟨rfl,rfl⟩)
   refine bodyPost_ret (v:= .agg #[.bool (!vf),.complex .f64 (cmul b1 b2 c1 (Op.negFloat .f64 c2)).1 (cmul b1 b2 c1 (Op.negFloat .f64 c2)).2,.complex .f64 p1 p2]) ?_ rfl (Ret.of rfl bel)
   simp[results,Tryz.results291,go_sem]
end Go.Proofs.YtiikamobcmgekaaGreatDoor
namespace Go.Proofs.YtiikamobcmgekaaGreatDoor
open Go.RowKit
def St.val (s:St):Value:= .agg #[.int .i64 s.k,.int .i64 s.x,.int .i64 s.y]
def one64:Nat:=4607182418800017408
def rotB:Nat->Nat × Nat
 |0=>(one64,0)
 |j+1=>cmul (rotB j).1 (rotB j).2 0 one64
theorem rotB_F (j:Nat):F (rotB j).1 (rot j (1,0)).1/\F (rotB j).2 (rot j (1,0)).2/\(cMulBits (rotB j).1 (rotB j).2 0 one64).isSome=true:=by
 have key: ∀(p:Nat × Nat) (q:Int × Int),(q=(1,0)\/q=(0,1)\/q=(-1,0)\/q=(0,-1))->F p.1 q.1->F p.2 q.2->(cMulBits p.1 p.2 0 one64).isSome=true/\F (cmul p.1 p.2 0 one64).1 (-q.2)/\F (cmul p.1 p.2 0 one64).2 q.1:=by
  intro p q hq h1 h2
  have hs: ∀z:Int,z.natAbs<=2->Sm z:=fun z hz=>sm_of 2 hz (by omega)
  have:=cmul_F h1 h2 F_zero F_one (by rcases hq with rfl|rfl|rfl|rfl<;>exact hs _ (by decide)) (by rcases hq with rfl|rfl|rfl|rfl<;>exact hs _ (by decide)) (by rcases hq with rfl|rfl|rfl|rfl<;>exact hs _ (by decide)) (by rcases hq with rfl|rfl|rfl|rfl<;>exact hs _ (by decide)) (by rcases hq with rfl|rfl|rfl|rfl<;>exact hs _ (by decide)) (by rcases hq with rfl|rfl|rfl|rfl<;>exact hs _ (by decide))
  simpa[one64]using this
 have hu: ∀j,rot j (1,0)=(1,0)\/rot j (1,0)=(0,1)\/rot j (1,0)=(-1,0)\/rot j (1,0)=(0,-1):=fun j=>rot_unit j (1,0) (by simp)
 induction j with
 |zero=>
  have:=key (one64,0) (1,0) (by simp) F_one F_zero
  exact⟨F_one,F_zero,this.1⟩
 |succ j ih=>
  have k1:=key (rotB j) (rot j (1,0)) (hu j) ih.1 ih.2.1
  have e:rot (j+1) (1,0)=(-(rot j (1,0)).2,(rot j (1,0)).1):=by simp only[rot];exact rot_rot j (1,0)
  have f1:F (rotB (j+1)).1 (rot (j+1) (1,0)).1:=by rw[e];exact k1.2.1
  have f2:F (rotB (j+1)).2 (rot (j+1) (1,0)).2:=by rw[e];exact k1.2.2
  exact⟨f1,f2,(key (rotB (j+1)) _ (hu (j+1)) f1 f2).1⟩
def stepB (s:St):MB:=
 if s.k=1 then⟨false,one64,0,floatOfInt .f64 s.x,floatOfInt .f64 s.y⟩
 else if s.k=2 then⟨false,(rotB (quart s.x)).1,(rotB (quart s.x)).2,0,0⟩
 else if s.k=3 then⟨false,floatOfInt .f64 s.x,floatOfInt .f64 0,0,0⟩
 else if s.k=4 then⟨true,one64,0,0,0⟩
 else⟨false,one64,0,0,0⟩
theorem stepB_is (s:St) (h:mayB s=true):(stepB s).is (stepM s):=by
 unfold mayB nearB at h
 unfold stepB stepM MB.is
 split
 ·rename_i h1;simp[h1]at h
  exact⟨rfl,F_one,F_zero,F_int (sm_of 4096 (by omega) (by omega)),F_int (sm_of 4096 (by omega) (by omega))⟩
 ·split
  ·exact⟨rfl,(rotB_F _).1,(rotB_F _).2.1,F_zero,F_zero⟩
  ·split
   ·rename_i h1 h2 h3;simp[h3]at h
    exact⟨rfl,F_int (sm_of 8 (by omega) (by omega)),F_int (sm_of (n:=0) 8 (by decide) (by omega)),F_zero,F_zero⟩
   ·split
    ·exact⟨rfl,F_one,F_zero,F_zero,F_zero⟩
    ·exact⟨rfl,F_one,F_zero,F_zero,F_zero⟩
theorem tmod4 (x:Int): -3<=x.tmod 4/\x.tmod 4<=3/\(x.tmod 4+4)%4=((quart x:Nat):Int):=by
 have h:=Int.tmod_eq_emod (a:=x) (b:=4)
 unfold quart
 split at h<;>simp at h<;>omega
theorem step_any (s:St) (w:World) (h:mayB s=true):
  Calls Tryz.prog 292 #[s.val] w (Ret (stepB s).val w):=by
 have hx: -4096<=s.x/\s.x<=4096:=by
  unfold mayB nearB at h
  split at h
  ·simp at h;omega
  ·split at h
   ·simp at h;omega
   ·split at h
    ·simp at h;omega
    ·split at h
     ·simp at h;omega
     ·simp at h
 clear h
 obtain⟨k,x,y⟩:=s
 unfold St.val
 dsimp only at*
 obtain⟨hx1,hx2⟩:=hx
 by_cases e1:k=1
 ·have:stepB ⟨k,x,y⟩=⟨false,one64,0,floatOfInt .f64 x,floatOfInt .f64 y⟩:=by simp[stepB,e1]
  rw[this];clear this
  have b1:(k==1)=true:=by simp[e1]
  clear e1
  go_enter Tryz.func292,Tryz.ntmps292
  go_wp2_with(go_at_call 305;refine(of_any _ _ _).mono ?_;rintro e w' ⟨rfl,rfl⟩)
  refine bodyPost_ret (v:=(MB.mk false one64 0 (floatOfInt .f64 x) (floatOfInt .f64 y)).val) ?_ rfl (Ret.of rfl bel)
  simp[results,Tryz.results292,go_sem,MB.val,one64]
 ·by_cases e2:k=2
  ·have:stepB ⟨k,x,y⟩=⟨false,(rotB (quart x)).1,(rotB (quart x)).2,0,0⟩:=by simp[stepB,e2]
   rw[this];clear this
   have b1:(k==1)=false:=by simp[e2]
   have b2:(k==2)=true:=by simp[e2]
   obtain⟨t1,t2,hq⟩:=tmod4 x
   have hq2:quart x<=3:=by unfold quart;omega
   clear e1 e2
   generalize quart x=q at*
   go_enter Tryz.func292,Tryz.ntmps292
   go_wp2_with fail
   go_loopw [22] (fun i wr=> ∃j:Nat,j<=q/\i= .int .i64 j/\wr=((w.alloc (.cells #[.int .i64 k,.int .i64 x,.int .i64 y] 271)).alloc (.cells #[.bool false,.complex .f64 0 0,.complex .f64 0 0] 275)).alloc (.cells #[.bool false,.complex .f64 (rotB j).1 (rotB j).2,.complex .f64 0 0] 275)) (fun i _=>q-(intOf i).toNat)
   case atStart=>exact⟨0,by omega,rfl,rfl⟩
   case round=>
    obtain⟨j,hj,rfl,rfl⟩:=hrel
    by_cases hlt:j<q
    ·have h1:=fun w=>cmul_run (P:=Tryz.prog) 273 (rotB_F j).2.2 w
     have h2:cmul (rotB j).1 (rotB j).2 0 one64=rotB (j+1):=rfl
     rw[h2]at h1
     clear h2
     simp only[one64]at h1
     go_wp2
     go_roundw
     case rel=>exact⟨j+1,by omega,by go_num,rfl⟩
     case measure=>simp[intOf];omega
    ·have:j=q:=by omega
     subst this
     go_wp2
     refine bodyPost_ret (v:=(MB.mk false (rotB j).1 (rotB j).2 0 0).val) ?_ rfl (Ret.of rfl bel)
     simp[results,Tryz.results292,go_sem,MB.val]
  ·by_cases e3:k=3
   ·have:stepB ⟨k,x,y⟩=⟨false,floatOfInt .f64 x,floatOfInt .f64 0,0,0⟩:=by simp[stepB,e3]
    rw[this];clear this
    have b1:(k==1)=false:=by simp[e3]
    have b2:(k==2)=false:=by simp[e3]
    have b3:(k==3)=true:=by simp[e3]
    clear e1 e2 e3
    go_enter Tryz.func292,Tryz.ntmps292
    go_wp2_with(go_at_call 305;refine(of_any _ _ _).mono ?_;rintro e w' ⟨rfl,rfl⟩)
    refine bodyPost_ret (v:=(MB.mk false (floatOfInt .f64 x) (floatOfInt .f64 0) 0 0).val) ?_ rfl (Ret.of rfl bel)
    simp[results,Tryz.results292,go_sem,MB.val]
   ·have b1:(k==1)=false:=by simp[e1]
    have b2:(k==2)=false:=by simp[e2]
    have b3:(k==3)=false:=by simp[e3]
    by_cases e4:k=4
    ·have:stepB ⟨k,x,y⟩=⟨true,one64,0,0,0⟩:=by simp[stepB,e4]
     rw[this];clear this
     have b4:(k==4)=true:=by simp[e4]
     clear e1 e2 e3 e4
     go_enter Tryz.func292,Tryz.ntmps292
     go_wp2
     refine bodyPost_ret (v:=(MB.mk true one64 0 0 0).val) ?_ rfl (Ret.of rfl bel)
     simp[results,Tryz.results292,go_sem,MB.val,one64]
    ·have:stepB ⟨k,x,y⟩=⟨false,one64,0,0,0⟩:=by simp[stepB,e1,e2,e3,e4]
     rw[this];clear this
     have b4:(k==4)=false:=by simp[e4]
     clear e1 e2 e3 e4
     go_enter Tryz.func292,Tryz.ntmps292
     go_wp2
     refine bodyPost_ret (v:=(MB.mk false one64 0 0 0).val) ?_ rfl (Ret.of rfl bel)
     simp[results,Tryz.results292,go_sem,MB.val,one64]
def kq (x y:Int):Nat:=if y=0 then(if 0<=x then 0 else 2)else if 0<y then 1 else 3
theorem quarters_any (r s:Nat) (x y:Int) (w:World) (hr:F r x) (hs:F s y) (hax:x=0\/y=0) (hx:x.natAbs<=16777216) (hy:y.natAbs<=16777216):
  Calls Tryz.prog 269 #[.complex .f64 r s] w fun e w'=>e= .returned (.tuple #[.int .i64 (kq x y:Nat),.int .i64 ((x.natAbs+y.natAbs:Nat):Int)])/\w=w':=by
 have HH:Hid (F r x/\F s y):=⟨hr,hs⟩
 clear hr hs
 have HX:Hid ((x=0\/y=0)/\x.natAbs<=16777216/\y.natAbs<=16777216):=⟨hax,hx,hy⟩
 clear hax hx hy
 go_enter Tryz.func269,Tryz.ntmps269
 go_wp2_with fail
 go_loop [0,4] (fun z i=> ∃(r' s':Nat) (x' y':Int) (j:Nat),z= .complex .f64 r' s'/\i= .int .i64 j/\Hid (F r' x'/\F s' y'/\(x'=0\/y'=0)/\j+kq x' y'=kq x y/\x'.natAbs+y'.natAbs=x.natAbs+y.natAbs)) (fun _ i=>4-(intOf i).toNat)
 case atStart=>exact⟨r,s,x,y,0,rfl,rfl,HH.out.1,HH.out.2,HX.out.1,by omega,rfl⟩
 case round=>
  obtain⟨r',s',x',y',j,rfl,rfl,HR⟩:=hrel
  have hk3:kq x y<=3:=by unfold kq;split<;>split<;>omega
  have hj3:(j:Int)<=3:=by have:=HR.out.2.2.2.1;omega
  clear hk3
  have oy:=F_order HR.out.2.1 F_zero
  have ox:=F_order HR.out.1 F_zero
  have q1:x'.natAbs<=33554432:=by have:=HR.out.2.2.2.2;have:=HX.out.2;omega
  have q2:y'.natAbs<=33554432:=by have:=HR.out.2.2.2.2;have:=HX.out.2;omega
  have mul:(cMulBits r' s' 0 13830554455654793216).isSome=true/\F (cmul r' s' 0 13830554455654793216).1 y'/\F (cmul r' s' 0 13830554455654793216).2 (-x'):=by
   have hz: ∀z:Int,z.natAbs<=33554432->Sm z:=fun z hz=>sm_of _ hz (by omega)
   have:=cmul_F HR.out.1 HR.out.2.1 F_zero F_negone (hz _ (by simp)) (hz _ (by simp;exact q2)) (hz _ (by simp;exact q1)) (hz _ (by simp)) (hz _ (by simp;exact q2)) (hz _ (by simp;exact q1))
   simpa using this
  by_cases hy0:y'=0
  ·have oy':FloatKind.f64.format.order s' 0=some .eq:=by rw[oy,hy0];rfl
   clear oy
   by_cases hx0:0<=x'
   ·have ox':(FloatKind.f64.format.order r' 0==some .lt)=false:=by
     rw[ox]
     rcases Int.lt_or_eq_of_le hx0 with h|h
     ·rw[Int.compare_eq_gt.2 h];rfl
     ·rw[Int.compare_eq_eq.2 h.symm];rfl
    have HI:=ints_any r' s' x' y' w HR.out.1 HR.out.2.1 (sm_of _ q1 (by omega)) (sm_of _ q2 (by omega))
    have HI':=Lib.hid HI
    have hfin:Hid (kq x' y'=0/\(x'.natAbs:Int)=x'):=⟨by unfold kq;rw[if_pos hy0,if_pos hx0],by omega⟩
    have HY:Hid (y'=0):=hy0
    clear ox mul HI hy0 hx0 q1 q2
    go_wp2_with(go_at_call 268;refine HI'.out.mono ?_;rintro e w' ⟨rfl,rfl⟩)
    go_ret2
    have a1:=HR.out.2.2.2.1
    have a2:=HR.out.2.2.2.2
    rw[hfin.out.1]at a1
    rw[HY.out]at a2
    have e1:kq x y=j:=by omega
    have e2:((x.natAbs+y.natAbs:Nat):Int)=x':=by have:=hfin.out.2;omega
    rw[e1,e2]
    exact⟨rfl,rfl⟩
   ·have ox':(FloatKind.f64.format.order r' 0==some .lt)=true:=by
     rw[ox,Int.compare_eq_lt.2 (by omega)];rfl
    have h1:=fun w=>cmul_run (P:=Tryz.prog) 273 mul.1 w
    have HM:=Lib.hid mul
    have hfin:Hid (kq x' y'=2/\kq y' (-x')=1):=⟨by unfold kq;rw[if_pos hy0,if_neg hx0],by unfold kq;rw[if_neg (by omega),if_pos (by omega)]⟩
    clear ox mul
    have HY:Hid (y'=0/\ ¬0<=x'):=⟨hy0,hx0⟩
    clear hy0 hx0 q1 q2
    go_wp2
    go_round
    case rel=>
     refine⟨_,_,y',-x',j+1,rfl,by go_num,HM.out.2.1,HM.out.2.2,Or.inl HY.out.1, ?_, ?_⟩
     ·have:=HR.out.2.2.2.1;have:=hfin.out;omega
     ·have:=HR.out.2.2.2.2;omega
    case measure=>simp[intOf];omega
  ·have oy':FloatKind.f64.format.order s' 0=some (if 0<y' then .gt else .lt):=by
    rw[oy]
    split
    ·rename_i h;rw[Int.compare_eq_gt.2 h]
    ·rw[Int.compare_eq_lt.2 (by omega)]
   have oy2:(FloatKind.f64.format.order s' 0 !=some .eq)=true:=by rw[oy'];split<;>rfl
   have hx0:x'=0:=by have:=HR.out.2.2.1;omega
   have h1:=fun w=>cmul_run (P:=Tryz.prog) 273 mul.1 w
   have HM:=Lib.hid mul
   have hfin:Hid (kq x' y'=kq y' (-x')+1):=by
    show kq x' y'=kq y' (-x')+1
    unfold kq
    rw[if_neg hy0,if_pos (show-x'=0 by omega)]
    by_cases h:0<y'
    ·rw[if_pos h,if_pos (show 0<=y' by omega)]
    ·rw[if_neg h,if_neg (show ¬0<=y' by omega)]
   clear ox mul oy oy'
   have HY:Hid (x'=0):=hx0
   clear hy0 hx0 q1 q2
   go_wp2
   go_round
   case rel=>
    refine⟨_,_,y',-x',j+1,rfl,by go_num,HM.out.2.1,HM.out.2.2,Or.inr (by rw[HY.out];rfl), ?_, ?_⟩
    ·have:=HR.out.2.2.2.1;have:=hfin.out;omega
    ·have:=HR.out.2.2.2.2;omega
   case measure=>simp[intOf];omega
end Go.Proofs.YtiikamobcmgekaaGreatDoor
namespace Go.Proofs.YtiikamobcmgekaaGreatDoor
open Go.RowKit
def Cells3 (w:World) (b off:Nat) (l:List St):Prop:=b<w.heap.size/\
  ∀(i:Nat) (s:St),l[i]? =some s->w.cell? ⟨b,off+i*3,none⟩=some (.int .i64 s.k)/\w.cell? ⟨b,off+i*3+1,none⟩=some (.int .i64 s.x)/\w.cell? ⟨b,off+i*3+2,none⟩=some (.int .i64 s.y)
def Sl (w:World) (v:Value) (l:List St):Prop:=
 ∃a cap,v= .slice a l.length cap/\l.length<=9223372036854775807/\(l=[]\/ ∃b off,a=some ⟨b,off,none⟩/\Cells3 w b off l)
theorem Cells3.grow {w:World} {b off:Nat} {l:List St} (h:Cells3 w b off l) (X:Gr):Cells3 (w.grow X) b off l:=
 ⟨by rw[size_grow];have:=h.1;omega,fun i s hs=>by obtain⟨a,b,c⟩:=h.2 i s hs;exact⟨cell_grow a,cell_grow b,cell_grow c⟩⟩
theorem Sl.grow {w:World} {v:Value} {l:List St} (h:Sl w v l) (X:Gr):Sl (w.grow X) v l:=by
 obtain⟨a,cap,h1,h2,h3⟩:=h
 exact⟨a,cap,h1,h2,h3.imp id fun⟨b,off,e,hc⟩=>⟨b,off,e,hc.grow X⟩⟩
theorem grown_of {w w':World} (h:Below w.heap.size w w'): ∃X,w'=w.grow X:=grow_of_below h
theorem tmay_all {l:List St} (h: ∀j s,j<l.length->l[j]? =some s->mayB s=true):l.all mayB=true:=by
 rw[List.all_eq_true]
 intro s hs
 obtain⟨j,hj,rfl⟩:=List.getElem_of_mem hs
 exact h j _ hj (List.getElem?_eq_getElem hj)
theorem tmay_more {l:List St} {k:Nat} (hk:k<l.length) (h: ∀j s,j<k->l[j]? =some s->mayB s=true) (hm:mayB l[k]=true): ∀j s,j<k+1->l[j]? =some s->mayB s=true:=by
 intro j s hj hs
 by_cases e:j=k
 ·subst e;rw[List.getElem?_eq_getElem hk]at hs;simp at hs;rw[<-hs];exact hm
 ·exact h j s (by omega) hs
theorem tmay_not {l:List St} {k:Nat} (hk:k<l.length) (hm:mayB l[k]=false):rightB l=false:=by
 unfold rightB
 rw[Bool.and_eq_false_iff]
 exact Or.inl (by rw[List.all_eq_false];exact⟨l[k],List.getElem_mem hk,by simp[hm]⟩)
theorem tright_any (v:Value) (l:List St) (w:World) (h:Sl w v l):Calls Tryz.prog 266 #[v] w (Ret (.bool (rightB l)) w):=by
 obtain⟨a,cap,rfl,hl,hc⟩:=h
 go_enter Tryz.func266,Tryz.ntmps266
 go_wp2_with fail
 go_loopw [8] (fun i wr=> ∃k:Nat,k<=l.length/\i= .int .i64 k/\(∃X,wr=w.grow X)/\Hid (∀j s,j<k->l[j]? =some s->mayB s=true)) (fun i _=>l.length-(intOf i).toNat)
 case atStart=>exact⟨0,by omega,rfl,⟨_,(grow_refl w).symm⟩,fun j s hj=>by omega⟩
 case round=>
  obtain⟨k,hk,rfl,⟨X,rfl⟩,HK⟩:=hrel
  by_cases hlt:k<l.length
  ·rcases hc with rfl|⟨b,off,rfl,hb,hc⟩
   ·exact absurd hlt (by simp)
   obtain⟨c0,c1,c2⟩:=hc k (l[k]) (List.getElem?_eq_getElem hlt)
   clear hc
   have HM:Hid (mayB l[k]=mayB ⟨l[k].k,l[k].x,l[k].y⟩):=rfl
   have HL:Hid (mayB l[k]=false->rightB l=false):=tmay_not hlt
   have HR:Hid (mayB l[k]=true-> ∀j s,j<k+1->l[j]? =some s->mayB s=true):=tmay_more hlt HK.out
   generalize l[k].k=sk at*
   generalize l[k].x=sx at*
   generalize l[k].y=sy at*
   go_wp2_with(go_at_call 270;refine(near_any _ _ _ (by omega) (by omega)).mono ?_;rintro e w' ⟨rfl,rfl⟩)
   all_goals first
    |(go_ret;refine Ret.of (congrArg Value.bool (HL.out (HM.out.trans ?_)).symm) bel;clear HM HL HR HK;simp_all [mayB,nearB];done)
    |(go_ret;refine Ret.of (congrArg Value.bool (HL.out (HM.out.trans ?_)).symm) bel;clear HM HL HR HK;simp_all [mayB,nearB];omega)
    |(go_roundw
      case rel=>exact⟨k+1,by omega,by go_num,grown_of bel,HR.out (HM.out.trans (by clear HM HL HR HK;simp_all [mayB,nearB]))⟩
      case measure=>simp[intOf];omega)
  ·have:k=l.length:=by omega
   subst this
   go_wp2
   go_ret
   refine Ret.of (congrArg Value.bool ?_) bel
   simp[rightB,tmay_all HK.out]
   omega
end Go.Proofs.YtiikamobcmgekaaGreatDoor
namespace Go.Proofs.YtiikamobcmgekaaGreatDoor
open Go.RowKit
end Go.Proofs.YtiikamobcmgekaaGreatDoor
namespace Go.Proofs.YtiikamobcmgekaaGreatDoor
open Go.RowKit
theorem right_mem {l:List St} (h:rightB l=true) {k:Nat} (hk:k<l.length):mayB l[k]=true:=by
 unfold rightB at h
 simp only[Bool.and_eq_true,List.all_eq_true]at h
 exact h.1 _ (List.getElem_mem hk)
def allB (l:List St):MB:=l.foldl (fun u s=>u.behind (stepB s)) ⟨false,one64,0,0,0⟩
theorem allB_is (l:List St) (h:rightB l=true) (k:Nat) (hk:k<=l.length):(allB (l.take k)).is (allM (l.take k)):=by
 induction k with
 |zero=>simp only[List.take_zero];exact⟨rfl,F_one,F_zero,F_zero,F_zero⟩
 |succ k ih=>
  have hlt:k<l.length:=hk
  have e:l.take (k+1)=l.take k++[l[k]]:=by rw[List.take_succ_eq_append_getElem hlt]
  have hm:=right_mem h hlt
  obtain⟨_,s1,s2,s3,s4⟩:=step_ax l[k] hm
  rw[e]
  unfold allB allM
  rw[List.foldl_append,List.foldl_append]
  exact(behind_F _ _ _ _ (ih (by omega)) (stepB_is l[k] hm) (all_bd l h k).1 ⟨s1,s2⟩ s3 s4).2
theorem allB_snoc (l:List St) (k:Nat) (hk:k<l.length):(allB (l.take k)).behind (stepB l[k])=allB (l.take (k+1)):=by
 rw[List.take_succ_eq_append_getElem hk]
 unfold allB
 rw[List.foldl_append];rfl
theorem all_any (v:Value) (l:List St) (w:World) (h:Sl w v l) (hr:rightB l=true):
  Calls Tryz.prog 267 #[v] w (Ret (allB l).val w):=by
 have HH:Hid (rightB l=true):=hr
 clear hr
 obtain⟨a,cap,rfl,hl,hc⟩:=h
 go_enter Tryz.func267,Tryz.ntmps267
 go_wp2_with fail
 go_loopw [9] (fun i wr=> ∃(k:Nat) (u:MB),k<=l.length/\i= .int .i64 k/\Hid (u=allB (l.take k))/\ ∃X,wr=((w.alloc (.cells #[.bool false,.complex .f64 0 0,.complex .f64 0 0] 275)).alloc (.cells #[.bool u.f,.complex .f64 u.b1 u.b2,.complex .f64 u.m1 u.m2] 275)).grow X) (fun i _=>l.length-(intOf i).toNat)
 case atStart=>exact⟨0,⟨false,one64,0,0,0⟩,by omega,rfl,rfl,_,(grow_refl _).symm⟩
 case round=>
  obtain⟨k,u,hk,rfl,HU,X,rfl⟩:=hrel
  by_cases hlt:k<l.length
  ·rcases hc with rfl|⟨b,off,rfl,hb,hc⟩
   ·exact absurd hlt (by simp)
   obtain⟨c0,c1,c2⟩:=hc k (l[k]) (List.getElem?_eq_getElem hlt)
   clear hc
   have HS:=fun w'=>Lib.hid (step_any l[k] w' (right_mem HH.out hlt))
   have HB: ∀w',Hid (Calls Tryz.prog 291 #[u.val,(stepB l[k]).val] w' (Ret (u.behind (stepB l[k])).val w')):=by
    intro w'
    show Calls _ _ _ _ _
    have hm:=right_mem HH.out hlt
    obtain⟨_,s1,s2,s3,s4⟩:=step_ax l[k] hm
    rw[HU.out]
    exact behind_any _ _ _ _ w' (allB_is l HH.out k (by omega)) (stepB_is l[k] hm) (all_bd l HH.out k).1 ⟨s1,s2⟩ s3 s4
   have HN:Hid (u.behind (stepB l[k])=allB (l.take (k+1))):=by
    show _=_
    rw[HU.out];exact allB_snoc l k hlt
   generalize u.behind (stepB l[k])=u' at*
   generalize stepB l[k]=sb at*
   have HS':=Lib.hid HS
   have HB':=Lib.hid HB
   clear HS HB
   unfold St.val MB.val at HS' HB'
   go_wp2_with fail
   refine wp_region_grow_tail 4 (by kernel_rfl) (by kernel_rfl) ?_
   dsimp only[List.take,List.drop]
   repeat(go_big_quiet_step(first|(go_at_call 292;with_reducible exact Calls.grow_of (HS'.out _).out)|(go_at_call 291;with_reducible exact Calls.grow_of (HB'.out _).out)))
   refine wpQuiet_nil ?_
   intro _ hw';obtain⟨nq,hw''⟩:=hw';subst hw''
   go_wp2
   go_roundw
   case rel=>exact⟨k+1,u',by omega,by go_num,HN.out,grow_of_below bel⟩
   case measure=>simp[intOf];omega
  ·have:k=l.length:=by omega
   subst this
   have HU':Hid (u=allB l):=by have:=HU.out;rwa[List.take_length]at this
   clear HU
   go_wp2
   refine bodyPost_ret (v:=u.val) ?_ rfl (Ret.of (by rw[HU'.out]) bel)
   simp[results,Tryz.results267,go_sem,MB.val]
end Go.Proofs.YtiikamobcmgekaaGreatDoor
namespace Go.Proofs.YtiikamobcmgekaaGreatDoor
open Go.RowKit
theorem steps_row:SlT Tryz.prog 240 271 (.agg #[.int .i64 0,.int .i64 0,.int .i64 0]) 3 24:=⟨by kernel_rfl,by kernel_rfl,by kernel_rfl,by decide⟩
def cells3 (l:List St):List Value:=l.flatMap fun s=>[.int .i64 s.k,.int .i64 s.x,.int .i64 s.y]
theorem cells3_get (l:List St) (i:Nat) (s:St) (h:l[i]? =some s):(cells3 l)[i*3]? =some (.int .i64 s.k)/\(cells3 l)[i*3+1]? =some (.int .i64 s.x)/\(cells3 l)[i*3+2]? =some (.int .i64 s.y):=by
 induction l generalizing i with
 |nil=>simp at h
 |cons t l ih=>
  cases i with
  |zero=>simp at h;subst h;simp[cells3]
  |succ i=>
   have:=ih i (by simpa using h)
   have e:cells3 (t::l)= .int .i64 t.k:: .int .i64 t.x:: .int .i64 t.y::cells3 l:=rfl
   rw[e,show(i+1)*3=i*3+1+1+1 by omega]
   simpa using this
theorem sl_own {w:World} {B:Nat} {e:TypeId} {v:Value} {l:List St} (hl:l.length<=9223372036854775807) (h:w.ownsRow B e 3 v l.length (cells3 l)):Sl w v l:=by
 obtain⟨_,a,cap,rfl,_,hc⟩:=own_cells h
 refine⟨a,cap,rfl,hl, ?_⟩
 rcases hc with hc|⟨b,rfl,_,hb,hc⟩
 ·exact Or.inl (List.eq_nil_of_length_eq_zero hc)
 ·refine Or.inr ⟨b,0,rfl,hb,fun i s hs=> ?_⟩
  obtain⟨h1,h2,h3⟩:=cells3_get l i s hs
  simp only[Nat.zero_add]
  exact⟨hc _ _ h1,hc _ _ h2,hc _ _ h3⟩
theorem cells3_snoc (l:List St) (s:St):cells3 (l++[s])=cells3 l++[.int .i64 s.k,.int .i64 s.x,.int .i64 s.y]:=by simp[cells3]
def RetL (l:List St) (er:Int) (w:World) (e:Ending) (w':World):Prop:= ∃v X,e= .returned (.tuple #[v,.int .i64 er])/\w'=w.grow X/\Sl w' v l
def L1 (x y:Int):List St:=if x≠0\/y≠0 then [⟨1,x,y⟩]else []
def L2 (k:Nat):List St:=if 0<k then [⟨2,k,0⟩]else []
def L3 (n:Nat):List St:=if 1<n then [⟨3,n,0⟩]else []
def L4 (f:Bool):List St:=if f then [⟨4,0,0⟩]else []
def neatLQ (m:Mo):List St:=L1 m.mx m.my++L2 (kq m.bx m.bY)++L3 (m.bx.natAbs+m.bY.natAbs)++L4 m.flip
def neatE (l:List St):Int:=
 if rightB l=false then 1 else if nearB (allM l).mx 4096&&nearB (allM l).my 4096&&decide ((allM l).bx.natAbs+(allM l).bY.natAbs<=8)then 0 else 3
def neatOf (l:List St):List St:=if neatE l=0 then neatLQ (allM l)else []
theorem neat_anyQ (v:Value) (l:List St) (w:World) (h:Sl w v l):Calls Tryz.prog 233 #[v] w (RetL (neatOf l) (neatE l) w):=by
 have H0:=Lib.hid (tright_any v l w h)
 have HA:=Lib.hid (fun(hr:rightB l=true) X=>Lib.hid (all_any v l (w.grow X) (h.grow X) hr))
 clear h
 cases h1:rightB l
 ·have HN:Hid (neatE l=1/\neatOf l=[]):=by
   have:neatE l=1:=by simp[neatE,h1]
   exact⟨this,by simp[neatOf,this]⟩
  rw[HN.out.1,HN.out.2]
  go_enter Tryz.func233,Tryz.ntmps233
  go_wp2_with(go_at_call 266;refine H0.out.mono ?_;rintro e w' ⟨rfl,X,rfl⟩)
  go_ret2
  exact⟨_,_,rfl,rfl,none,0,rfl,by simp,Or.inl rfl⟩
 ·have HA':=Lib.hid (HA.out h1)
  have hm:=(all_bd l h1 l.length)
  have hi:=allB_is l h1 l.length (Nat.le_refl _)
  rw[List.take_length]at hm hi
  have HN:Hid ((neatE l=if nearB (allM l).mx 4096&&nearB (allM l).my 4096&&decide ((allM l).bx.natAbs+(allM l).bY.natAbs<=8)then 0 else 3)/\neatOf l=if neatE l=0 then neatLQ (allM l)else []):=⟨by simp[neatE,h1],rfl⟩
  clear HA
  generalize allM l=m at*
  generalize allB l=u at*
  generalize neatE l=er at*
  generalize neatOf l=L at*
  have HI1:=Lib.hid (fun W=>ints_any u.m1 u.m2 m.mx m.my W hi.2.2.2.1 hi.2.2.2.2 (sm_of _ hm.1.2.2.1 (by omega)) (sm_of _ hm.1.2.2.2 (by omega)))
  have HQ:=Lib.hid (fun W=>quarters_any u.b1 u.b2 m.bx m.bY W hi.2.1 hi.2.2.1 hm.2.1 hm.1.1 hm.1.2.1)
  have HF:Hid (u.f=m.flip):=hi.1
  have hx1: -137438953472<=m.mx:=by have:=hm.1.2.2.1;omega
  have hx2:m.mx<=137438953472:=by have:=hm.1.2.2.1;omega
  have hy1: -137438953472<=m.my:=by have:=hm.1.2.2.2;omega
  have hy2:m.my<=137438953472:=by have:=hm.1.2.2.2;omega
  have hn:m.bx.natAbs+m.bY.natAbs<=33554432:=by have:=hm.1;unfold Bd at this;omega
  have hk:kq m.bx m.bY<=3:=by unfold kq;split<;>split<;>omega
  clear hm hi
  generalize hkq:kq m.bx m.bY=k at*
  generalize hnn:m.bx.natAbs+m.bY.natAbs=n at*
  have HKN:Hid (kq m.bx m.bY=k/\m.bx.natAbs+m.bY.natAbs=n):=⟨hkq,hnn⟩
  clear hkq hnn
  generalize hmx:m.mx=x at*
  generalize hmy:m.my=y at*
  have HXY:Hid (m.mx=x/\m.my=y):=⟨hmx,hmy⟩
  clear hmx hmy
  obtain⟨uf,b1,b2,m1,m2⟩:=u
  unfold MB.val at HA'
  dsimp only at*
  cases h2:nearB x 4096&&nearB y 4096&&decide (n<=8)
  ·have HR:Hid (er=3/\L=[]):=by
    have e0:er=3:=by rw[HN.out.1];simp[h2]
    exact⟨e0,by rw[HN.out.2,e0];rfl⟩
   rw[HR.out.1,HR.out.2]
   clear HN HR
   cases h3:nearB x 4096
   ·clear h2
    go_enter Tryz.func233,Tryz.ntmps233
    go_wp2_with(first|(go_at_call 266;refine H0.out.mono ?_;rintro e w' ⟨rfl,X,rfl⟩)|(go_at_call 270;refine(near_any _ _ _ (by omega) (by omega)).mono ?_;rintro e w' ⟨rfl,rfl⟩)|(go_at_call 267;refine(HA'.out _).out.mono ?_;rintro e w' ⟨rfl,Y,rfl⟩)|(go_at_call 268;refine(HI1.out _).mono ?_;rintro e w' ⟨rfl,rfl⟩)|(go_at_call 269;refine(HQ.out _).mono ?_;rintro e w' ⟨rfl,rfl⟩))
    go_ret2
    obtain⟨Z5,e5⟩:=grown_of (w:=w) (w':=(((w.grow X).grow Y).alloc (.cells #[.bool uf,.complex .f64 b1 b2,.complex .f64 m1 m2] 275))) bel
    exact⟨_,Z5,rfl,e5,none,0,rfl,by simp,Or.inl rfl⟩
   ·cases h4:nearB y 4096
    ·clear h2
     go_enter Tryz.func233,Tryz.ntmps233
     go_wp2_with(first|(go_at_call 266;refine H0.out.mono ?_;rintro e w' ⟨rfl,X,rfl⟩)|(go_at_call 270;refine(near_any _ _ _ (by omega) (by omega)).mono ?_;rintro e w' ⟨rfl,rfl⟩)|(go_at_call 267;refine(HA'.out _).out.mono ?_;rintro e w' ⟨rfl,Y,rfl⟩)|(go_at_call 268;refine(HI1.out _).mono ?_;rintro e w' ⟨rfl,rfl⟩)|(go_at_call 269;refine(HQ.out _).mono ?_;rintro e w' ⟨rfl,rfl⟩))
     go_ret2
     obtain⟨Z5,e5⟩:=grown_of (w:=w) (w':=(((w.grow X).grow Y).alloc (.cells #[.bool uf,.complex .f64 b1 b2,.complex .f64 m1 m2] 275))) bel
     exact⟨_,Z5,rfl,e5,none,0,rfl,by simp,Or.inl rfl⟩
    ·have h5: ¬n<=8:=by rw[h3,h4]at h2;simpa using h2
     clear h2
     go_enter Tryz.func233,Tryz.ntmps233
     go_wp2_with(first|(go_at_call 266;refine H0.out.mono ?_;rintro e w' ⟨rfl,X,rfl⟩)|(go_at_call 270;refine(near_any _ _ _ (by omega) (by omega)).mono ?_;rintro e w' ⟨rfl,rfl⟩)|(go_at_call 267;refine(HA'.out _).out.mono ?_;rintro e w' ⟨rfl,Y,rfl⟩)|(go_at_call 268;refine(HI1.out _).mono ?_;rintro e w' ⟨rfl,rfl⟩)|(go_at_call 269;refine(HQ.out _).mono ?_;rintro e w' ⟨rfl,rfl⟩))
     go_ret2
     obtain⟨Z5,e5⟩:=grown_of (w:=w) (w':=(((w.grow X).grow Y).alloc (.cells #[.bool uf,.complex .f64 b1 b2,.complex .f64 m1 m2] 275))) bel
     exact⟨_,Z5,rfl,e5,none,0,rfl,by simp,Or.inl rfl⟩
  ·simp only[Bool.and_eq_true,decide_eq_true_eq]at h2
   obtain⟨⟨h2,h3⟩,h4⟩:=h2
   have HR:Hid (er=0/\L=neatLQ m):=by
    have e0:er=0:=by rw[HN.out.1,h2,h3,decide_eq_true h4];rfl
    exact⟨e0,by rw[HN.out.2,if_pos e0]⟩
   rw[HR.out.1,HR.out.2]
   clear HN HR
   go_enter Tryz.func233,Tryz.ntmps233
   go_upto_region 9 with(first|(go_at_call 266;refine H0.out.mono ?_;rintro e w' ⟨rfl,X,rfl⟩)|(go_at_call 270;refine(near_any _ _ _ (by omega) (by omega)).mono ?_;rintro e w' ⟨rfl,rfl⟩)|(go_at_call 267;refine(HA'.out _).out.mono ?_;rintro e w' ⟨rfl,Y,rfl⟩)|(go_at_call 268;refine(HI1.out _).mono ?_;rintro e w' ⟨rfl,rfl⟩)|(go_at_call 269;refine(HQ.out _).mono ?_;rintro e w' ⟨rfl,rfl⟩))
   have o0:((((w.grow X).grow Y).alloc (.cells #[.bool uf,.complex .f64 b1 b2,.complex .f64 m1 m2] 275))).ownsRow (((w.grow X).grow Y).alloc (.cells #[.bool uf,.complex .f64 b1 b2,.complex .f64 m1 m2] 275)).heap.size 271 3 (.slice none 0 0) ([]:List St).length (cells3 []):=World.ownsRow_nil _ _ _ _
   have l0:([]:List St).length<=0:=by simp
   go_cut [44] (fun s44 wx=>s44= .bool (decide (x≠0\/y≠0))/\wx=(((w.grow X).grow Y).alloc (.cells #[.bool uf,.complex .f64 b1 b2,.complex .f64 m1 m2] 275)))
   case first=>
    by_cases hx0:x=0
    ·have b1:(x !=0)=false:=by simp[hx0]
     have HX:=Lib.hid hx0
     clear hx0
     go_wp2
     go_meet
     refine⟨?_,rfl⟩
     have:=HX.out
     by_cases h:y=0<;>simp[this,h]
    ·have b1:(x !=0)=true:=by simp[hx0]
     have HX:=Lib.hid hx0
     clear hx0
     go_wp2
     go_meet
     refine⟨?_,rfl⟩
     have:=HX.out
     simp[this]
   case rest=>
    obtain⟨rfl,rfl⟩:=hcut
    go_upto_if 44 with fail
    go_cut [9] (fun v wx=> ∃Z,wx=(((w.grow X).grow Y).alloc (.cells #[.bool uf,.complex .f64 b1 b2,.complex .f64 m1 m2] 275)).grow Z/\((((w.grow X).grow Y).alloc (.cells #[.bool uf,.complex .f64 b1 b2,.complex .f64 m1 m2] 275)).grow Z).ownsRow (((w.grow X).grow Y).alloc (.cells #[.bool uf,.complex .f64 b1 b2,.complex .f64 m1 m2] 275)).heap.size 271 3 v (L1 x y).length (cells3 (L1 x y)))
    case first=>
     by_cases h5:x≠0\/y≠0
     ·have HL:Hid (L1 x y=[⟨1,x,y⟩]):=by show _=_;simp[L1,h5]
      have b5:decide (x≠0\/y≠0)=true:=by simp[h5]
      rw[b5]
      clear h5 b5
      go_wp2_with(at_builtin;refine append_grow rfl _ _ 240 rfl steps_row (((w.grow X).grow Y).alloc (.cells #[.bool uf,.complex .f64 b1 b2,.complex .f64 m1 m2] 275)) rfl (o0.alloc _) bel ⟨_,0,none⟩ 1 1 [.int .i64 1,.int .i64 x,.int .i64 y] rfl rfl (new_cells (c:= #[.int .i64 1,.int .i64 x,.int .i64 y]) (by simp[go_sem])) (by intro u hu;simp at hu;rcases hu with rfl|rfl|rfl<;>rfl) (by have:=l0;unfold maxLen;omega) (by have:=l0;omega) ?_;intro v' Z' hown' _)
      go_meet
      refine⟨Z',rfl, ?_⟩
      rw[HL.out]
      exact hown'
     ·have HL:Hid (L1 x y=[]):=by show _=_;simp[L1,h5]
      have b5:decide (x≠0\/y≠0)=false:=by simp[h5]
      rw[b5]
      clear h5 b5
      go_wp2
      go_meet
      refine⟨_,(grow_refl _).symm, ?_⟩
      rw[HL.out,grow_refl]
      exact o0
    case rest=>
     obtain⟨Z,rfl,o1⟩:=hcut
     have l1:(L1 x y).length<=1:=by unfold L1;split<;>simp
     have HO:=Lib.hid o0
     clear o0
     go_upto_if 52 with fail
     go_cut [9] (fun v wx=> ∃Z,wx=(((w.grow X).grow Y).alloc (.cells #[.bool uf,.complex .f64 b1 b2,.complex .f64 m1 m2] 275)).grow Z/\((((w.grow X).grow Y).alloc (.cells #[.bool uf,.complex .f64 b1 b2,.complex .f64 m1 m2] 275)).grow Z).ownsRow (((w.grow X).grow Y).alloc (.cells #[.bool uf,.complex .f64 b1 b2,.complex .f64 m1 m2] 275)).heap.size 271 3 v (L1 x y++L2 k).length (cells3 (L1 x y++L2 k)))
     case first=>
      by_cases h5:0<k
      ·have HL:Hid (L2 k=[⟨2,k,0⟩]):=by show _=_;simp[L2,h5]
       have b5:(0:Int)<k:=by omega
       clear h5
       go_wp2_with(at_builtin;refine append_grow rfl _ _ 240 rfl steps_row (((w.grow X).grow Y).alloc (.cells #[.bool uf,.complex .f64 b1 b2,.complex .f64 m1 m2] 275)) rfl (o1.alloc _) bel ⟨_,0,none⟩ 1 1 [.int .i64 2,.int .i64 k,.int .i64 0] rfl rfl (new_cells (c:= #[.int .i64 2,.int .i64 k,.int .i64 0]) (by simp[go_sem])) (by intro u hu;simp at hu;rcases hu with rfl|rfl|rfl<;>rfl) (by have:=l1;unfold maxLen;omega) (by have:=l1;omega) ?_;intro v' Z' hown' _)
       go_meet
       refine⟨Z',rfl, ?_⟩
       rw[HL.out,cells3_snoc,List.length_append]
       exact hown'
      ·have HL:Hid (L2 k=[]):=by show _=_;simp[L2,h5]
       have b5: ¬(0:Int)<k:=by omega
       clear h5
       go_wp2
       go_meet
       refine⟨_,rfl, ?_⟩
       rw[HL.out,List.append_nil]
       exact o1
     case rest=>
      obtain⟨Z2,rfl,o2⟩:=hcut
      have l2:(L1 x y++L2 k).length<=2:=by have:(L2 k).length<=1:=by {unfold L2;split<;>simp};rw[List.length_append];omega
      clear o1
      go_upto_if 59 with fail
      go_cut [9] (fun v wx=> ∃Z,wx=(((w.grow X).grow Y).alloc (.cells #[.bool uf,.complex .f64 b1 b2,.complex .f64 m1 m2] 275)).grow Z/\((((w.grow X).grow Y).alloc (.cells #[.bool uf,.complex .f64 b1 b2,.complex .f64 m1 m2] 275)).grow Z).ownsRow (((w.grow X).grow Y).alloc (.cells #[.bool uf,.complex .f64 b1 b2,.complex .f64 m1 m2] 275)).heap.size 271 3 v (L1 x y++L2 k++L3 n).length (cells3 (L1 x y++L2 k++L3 n)))
      case first=>
       by_cases h5:1<n
       ·have HL:Hid (L3 n=[⟨3,n,0⟩]):=by show _=_;simp[L3,h5]
        have b5:(1:Int)<n:=by omega
        clear h5
        go_wp2_with(at_builtin;refine append_grow rfl _ _ 240 rfl steps_row (((w.grow X).grow Y).alloc (.cells #[.bool uf,.complex .f64 b1 b2,.complex .f64 m1 m2] 275)) rfl (o2.alloc _) bel ⟨_,0,none⟩ 1 1 [.int .i64 3,.int .i64 n,.int .i64 0] rfl rfl (new_cells (c:= #[.int .i64 3,.int .i64 n,.int .i64 0]) (by simp[go_sem])) (by intro u hu;simp at hu;rcases hu with rfl|rfl|rfl<;>rfl) (by have:=l2;unfold maxLen;omega) (by have:=l2;omega) ?_;intro v' Z' hown' _)
        go_meet
        refine⟨Z',rfl, ?_⟩
        rw[HL.out,cells3_snoc,List.length_append]
        exact hown'
       ·have HL:Hid (L3 n=[]):=by show _=_;simp[L3,h5]
        have b5: ¬(1:Int)<n:=by omega
        clear h5
        go_wp2
        go_meet
        refine⟨_,rfl, ?_⟩
        rw[HL.out,List.append_nil]
        exact o2
      case rest=>
       obtain⟨Z3,rfl,o3⟩:=hcut
       have l3:(L1 x y++L2 k++L3 n).length<=3:=by have:(L3 n).length<=1:=by {unfold L3;split<;>simp};rw[List.length_append];omega
       clear o2
       go_upto_if 66 with fail
       go_cut [9] (fun v wx=> ∃Z,wx=(((w.grow X).grow Y).alloc (.cells #[.bool uf,.complex .f64 b1 b2,.complex .f64 m1 m2] 275)).grow Z/\((((w.grow X).grow Y).alloc (.cells #[.bool uf,.complex .f64 b1 b2,.complex .f64 m1 m2] 275)).grow Z).ownsRow (((w.grow X).grow Y).alloc (.cells #[.bool uf,.complex .f64 b1 b2,.complex .f64 m1 m2] 275)).heap.size 271 3 v (L1 x y++L2 k++L3 n++L4 uf).length (cells3 (L1 x y++L2 k++L3 n++L4 uf)))
       case first=>
        by_cases h5:uf=true
        ·have HL:Hid (L4 uf=[⟨4,0,0⟩]):=by show _=_;simp[L4,h5]
         subst h5
         go_wp2_with(at_builtin;refine append_grow rfl _ _ 240 rfl steps_row (((w.grow X).grow Y).alloc (.cells #[.bool true,.complex .f64 b1 b2,.complex .f64 m1 m2] 275)) rfl (o3.alloc _) bel ⟨_,0,none⟩ 1 1 [.int .i64 4,.int .i64 0,.int .i64 0] rfl rfl (new_cells (c:= #[.int .i64 4,.int .i64 0,.int .i64 0]) (by simp[go_sem])) (by intro u hu;simp at hu;rcases hu with rfl|rfl|rfl<;>rfl) (by have:=l3;unfold maxLen;omega) (by have:=l3;omega) ?_;intro v' Z' hown' _)
         go_meet
         refine⟨Z',rfl, ?_⟩
         rw[HL.out,cells3_snoc,List.length_append]
         exact hown'
        ·have HL:Hid (L4 uf=[]):=by show _=_;simp[L4,h5]
         have h5:uf=false:=by simpa using h5
         subst h5
         go_wp2
         go_meet
         refine⟨_,rfl, ?_⟩
         rw[HL.out,List.append_nil]
         exact o3
       case rest=>
        obtain⟨Z4,rfl,o4⟩:=hcut
        have l4:(L1 x y++L2 k++L3 n++L4 uf).length<=4:=by have:(L4 uf).length<=1:=by {unfold L4;split<;>simp};rw[List.length_append];omega
        clear o3
        have HN:Hid (neatLQ m=L1 x y++L2 k++L3 n++L4 uf):=by
         show _=_
         unfold neatLQ
         rw[HKN.out.1,HKN.out.2,HXY.out.1,HXY.out.2,HF.out]
        have o5:=Lib.hid (sl_own (by omega) o4)
        clear o4
        go_wp2
        go_ret2
        rw[HN.out]
        obtain⟨Z5,e5⟩:=grown_of (w:=w) (w':=((((w.grow X).grow Y).alloc (.cells #[.bool uf,.complex .f64 b1 b2,.complex .f64 m1 m2] 275)).grow Z4)) bel
        exact⟨_,Z5,rfl,e5,o5.out⟩
end Go.Proofs.YtiikamobcmgekaaGreatDoor
namespace Go.Proofs.YtiikamobcmgekaaGreatDoor
open Go.RowKit
end Go.Proofs.YtiikamobcmgekaaGreatDoor
namespace Go.Proofs.YtiikamobcmgekaaGreatDoor
open Go.RowKit
theorem eq_step (a b c d e f:Int) (w:World):(Op.equalIn 10000 271 (.agg #[.int .i64 a,.int .i64 b,.int .i64 c]) (.agg #[.int .i64 d,.int .i64 e,.int .i64 f])).run Tryz.prog w= .ok (a==d&&(b==e&&c==f)) w:=by
 have h2:Tryz.prog.underlying 271=some (.struct (Tryz.prog.fieldsOf 271)):=by kernel_rfl
 have h3:Tryz.prog.stoodInHeld 271=false:=by kernel_rfl
 rw[run_equalIn_agg _ _ _ _ _ h2 h3]
 simp only[Program.fieldsOf,Tryz.underlying271]
 by_cases h1:a=d<;>by_cases h4:b=e<;>by_cases h5:c=f<;>simp[go_sem,Tryz.underlying3,h1,h4,h5]
@[go_sem high] theorem neq_step (a b c d e f:Int) (w:World):(binOp .neq 271 (.agg #[.int .i64 a,.int .i64 b,.int .i64 c]) (.agg #[.int .i64 d,.int .i64 e,.int .i64 f])).run Tryz.prog w= .ok (.bool (!(a==d&&(b==e&&c==f)))) w:=by
 rw[run_neq_struct,eq_step];rfl
@[go_sem] theorem guard_step:Tryz.prog.eqGuardType Tryz.prog.depth 271=false:=by kernel_rfl
theorem RetL.abs {l:List St} {er:Int} {w w':World} {e:Ending} (h:RetL l er w e w'): ∃v,e= .returned (.tuple #[v,.int .i64 er])/\Below w.heap.size w w'/\Sl w' v l:=by
 obtain⟨v,X,h1,rfl,h2⟩:=h
 exact⟨v,h1,below_grow w X,h2⟩
end Go.Proofs.YtiikamobcmgekaaGreatDoor
namespace Go.Proofs.YtiikamobcmgekaaGreatDoor
theorem fold_app (A B:List St) (m:Mo):(A++B).foldl (fun m s=>behind m (stepM s)) m=B.foldl (fun m s=>behind m (stepM s)) (A.foldl (fun m s=>behind m (stepM s)) m):=List.foldl_append
theorem quart_nat (k:Nat) (h:k<=3):quart (k:Int)=k:=by unfold quart;omega
theorem kq_rot (bx bY:Int) (h:(bx=0\/bY=0)/\(bx≠0\/bY≠0)):(rot (kq bx bY) (1,0)).1*((bx.natAbs+bY.natAbs:Nat):Int)=bx/\(rot (kq bx bY) (1,0)).2*((bx.natAbs+bY.natAbs:Nat):Int)=bY:=by
 unfold kq
 by_cases h0:bY=0
 ·rw[if_pos h0]
  by_cases h1:0<=bx
  ·rw[if_pos h1];simp[rot];omega
  ·rw[if_neg h1];simp[rot];omega
 ·rw[if_neg h0]
  by_cases h1:0<bY
  ·rw[if_pos h1];simp[rot];omega
  ·rw[if_neg h1];simp[rot];omega
theorem neat_sameQ (m:Mo) (hax:Ax m) (hk:kq m.bx m.bY<=3):allM (neatLQ m)=m:=by
 obtain⟨f,bx,bY,x,y⟩:=m
 obtain⟨r1,r2⟩:=kq_rot bx bY hax
 unfold neatLQ allM
 dsimp only at*
 have hn:1<=bx.natAbs+bY.natAbs:=by rcases hax.2 with h|h<;>(simp only at h;omega)
 generalize kq bx bY=k at*
 generalize bx.natAbs+bY.natAbs=n at*
 rw[fold_app,fold_app,fold_app]
 have e1:(L1 x y).foldl (fun m s=>behind m (stepM s)) Mo.one=⟨false,1,0,x,y⟩:=by
  unfold L1
  split
  ·simp[behind,stepM,Mo.one,Mo.tu]
  ·rename_i h
   have h1:x=0:=by omega
   have h2:y=0:=by omega
   subst h1;subst h2;rfl
 have e2:(L2 k).foldl (fun m s=>behind m (stepM s)) ⟨false,1,0,x,y⟩=⟨false,(rot k (1,0)).1,(rot k (1,0)).2,x,y⟩:=by
  unfold L2
  split
  ·simp[behind,stepM,Mo.one,Mo.tu,quart_nat k hk]
  ·have:k=0:=by omega
   subst this;rfl
 have e3:(L3 n).foldl (fun m s=>behind m (stepM s)) ⟨false,(rot k (1,0)).1,(rot k (1,0)).2,x,y⟩=⟨false,bx,bY,x,y⟩:=by
  unfold L3
  split
  ·simp[behind,stepM,Mo.one,Mo.tu,r1,r2]
  ·have:n=1:=by omega
   subst this
   simp at r1 r2
   rw[r1,r2];rfl
 rw[e1,e2,e3]
 unfold L4
 cases f
 ·simp
 ·simp[behind,stepM,Mo.one,Mo.tu]
theorem neatE_zero {l:List St} (h:neatE l=0):rightB l=true/\nearB (allM l).mx 4096=true/\nearB (allM l).my 4096=true/\(allM l).bx.natAbs+(allM l).bY.natAbs<=8:=by
 unfold neatE at h
 cases h1:rightB l
 ·simp[h1]at h
 ·rw[if_neg (by simp[h1])]at h
  split at h
  ·rename_i h2
   simp only[Bool.and_eq_true,decide_eq_true_eq]at h2
   exact⟨rfl,h2.1.1,h2.1.2,h2.2⟩
  ·omega
theorem kq_le (x y:Int):kq x y<=3:=by unfold kq;split<;>split<;>omega
theorem allM_ax {l:List St} (h:rightB l=true):Ax (allM l):=by
 have:=(all_bd l h l.length).2
 rwa[List.take_length]at this
theorem neat_rightQ (m:Mo) (hx:nearB m.mx 4096=true) (hy:nearB m.my 4096=true) (hn:m.bx.natAbs+m.bY.natAbs<=8):rightB (neatLQ m)=true/\(neatLQ m).length<=4:=by
 have hk:=kq_le m.bx m.bY
 unfold neatLQ
 generalize kq m.bx m.bY=k at*
 generalize m.bx.natAbs+m.bY.natAbs=n at*
 have a1:(L1 m.mx m.my).all mayB=true/\(L1 m.mx m.my).length<=1:=by unfold L1;split<;>simp[mayB,hx,hy]
 have a2:(L2 k).all mayB=true/\(L2 k).length<=1:=by
  unfold L2;split
  ·simp[mayB,nearB];omega
  ·simp
 have a3:(L3 n).all mayB=true/\(L3 n).length<=1:=by
  unfold L3;split
  ·simp[mayB];omega
  ·simp
 have a4:(L4 m.flip).all mayB=true/\(L4 m.flip).length<=1:=by unfold L4;split<;>simp[mayB]
 constructor
 ·unfold rightB
  simp only[List.all_append,a1.1,a2.1,a3.1,a4.1,Bool.and_true,Bool.true_and,List.length_append,decide_eq_true_eq]
  omega
 ·simp only[List.length_append];omega
theorem neat_law (l:List St) (h:neatE l=0):rightB (neatOf l)=true/\allM (neatOf l)=allM l/\neatE (neatOf l)=0/\neatOf (neatOf l)=neatOf l/\(neatOf l).length<=4:=by
 obtain⟨h1,h2,h3,h4⟩:=neatE_zero h
 have e:neatOf l=neatLQ (allM l):=by unfold neatOf;rw[if_pos h]
 have hs:=neat_sameQ (allM l) (allM_ax h1) (kq_le _ _)
 obtain⟨r1,r2⟩:=neat_rightQ (allM l) h2 h3 h4
 rw[e]
 have z:neatE (neatLQ (allM l))=0:=by
  unfold neatE
  rw[if_neg (by rw[r1];simp),hs,h2,h3,decide_eq_true h4];rfl
 refine⟨r1,hs,z, ?_,r2⟩
 unfold neatOf;rw[if_pos z,hs]
end Go.Proofs.YtiikamobcmgekaaGreatDoor
namespace Go.Proofs.YtiikamobcmgekaaGreatDoor
open Go.ChangeShapes Go.WideShapes Go.Deep
instance:Inhabited St:=⟨⟨0,0,0⟩⟩
section
variable {H:Type} {enc:TypeId × Value->H} {w:World} {base:Nat} {spare:Nat->Bool} {held:Bool}
end
end Go.Proofs.YtiikamobcmgekaaGreatDoor
