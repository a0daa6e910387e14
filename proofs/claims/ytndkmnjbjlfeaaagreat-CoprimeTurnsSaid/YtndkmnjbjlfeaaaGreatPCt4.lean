/- Parts of this claim's texts, packed by wip/tools/prune.py: what the proof does not reach is left out. -/
import Derived.Test.YtndkmnjbjlfeaaaGreatPCt3
import Derived.Lib.BitFns
import Derived.Lib.ItoaNum
section
namespace Go.Proofs.YtndkmnjbjlfeaaaGreat.M
open Go Go.RowKit Go.Proofs.YtndkmnjbjlfeaaaGreatW.PrintWords Go.Proofs.YtndkmnjbjlfeaaaGreatW.PrintMore
theorem kQ(n:Int):IntKind.u64.wrap n=n%18446744073709551616:=by
 simp[IntKind.wrap,IntKind.bits,IntKind.signed]
theorem aX(n:Int)(h0:0≤n)(h1:n<18446744073709551616):IntKind.u64.wrap n=n:=by
 rw[kQ];omega
theorem lg(n:Int)(h0:0≤n)(h1:n<2^64):IntKind.u64.wrap n=n:=by
 rw[kQ];omega
theorem cY(n:Int)(h0: -9223372036854775808≤n)(h1:n<9223372036854775808):wrap64 n=n:=by
 unfold wrap64;omega
def U(x:Int):Prop:=0≤x∧x<18446744073709551616
theorem uW(x:Int):U (IntKind.u64.wrap x):=by
 rw[kQ];unfold U;omega
theorem xp{x:Int}(h:(Lit.int .u64 x).wf=true):U x:=by
 simp[Lit.wf,IntKind.min,IntKind.max,IntKind.bits,IntKind.signed] at h
 unfold U;omega
theorem Ba{x:Int}(h:(Lit.int .i64 x).wf=true): -9223372036854775808≤x∧x<9223372036854775808:=by
 simp[Lit.wf,IntKind.min,IntKind.max,IntKind.bits,IntKind.signed] at h
 omega
theorem bH{a b:Int}(h:0≤a):Int.tmod a b=a%b:=by
 rw[Int.tmod_eq_emod_of_nonneg h]
theorem dr{a b:Int}(h:0≤a):Int.tdiv a b=a/b:=by
 rw[Int.tdiv_eq_ediv_of_nonneg h]
theorem yK(x:Int)(h:U x):Go.bits .and .u64 x 4294967295=x%4294967296:=
 bits_mask .u64 64 (by decide) lg 32 (by decide) x h.1 (by unfold U at h;omega)
theorem r8(x:Int)(h:U x):Go.bits .and .u64 x 1=x%2:=by
 have:=bits_mask .u64 64 (by decide) lg 1 (by decide) x h.1 (by unfold U at h;omega)
 simpa using this
theorem bX{α:Type}{g:Nat→Option α}{r:α}(h: ∃f:Nat→Option α,(∀k,g (k+1)=f k)∧Ev f r):Ev g r:=by
 obtain⟨f,h1,h2⟩:=h;exact Ev.step h1 h2
theorem ri{α:Type}{g:Nat→Option α}{r:α}(h: ∃f:Nat→Option α,(∀k,g k=f k)∧Ev f r):Ev g r:=by
 obtain⟨f,h1,h2⟩:=h;exact Ev.congr h1 h2
theorem dG{α:Type}{c:Prop} [Decidable c]{g f:Nat→Option α}{r:α}(h:c)(e:Ev g r):Ev (fun k=>if c then g k else f k) r:=
 Ev.congr (fun _=>if_pos h) e
theorem gy{α:Type}{c:Prop} [Decidable c]{g f:Nat→Option α}{r:α}(h: ¬c)(e:Ev f r):Ev (fun k=>if c then g k else f k) r:=
 Ev.congr (fun _=>if_neg h) e
end Go.Proofs.YtndkmnjbjlfeaaaGreat.M
end
section
namespace Go.Proofs.YtndkmnjbjlfeaaaGreat.M
open Go Go.RowKit Go.Proofs.YtndkmnjbjlfeaaaGreatW.PrintWords
theorem fu(a:Int){m:Int}(hm:U m)(h:m≠0):U (a%m):=by
 unfold U at*
 have:=Int.emod_nonneg a h
 have:=Int.emod_lt_of_pos a (by omega:0<m)
 omega
theorem qJ{m:Int}(hm:U m)(h:m≠0):0<m:=by unfold U at hm;omega
theorem pv{a m:Int}(hm:0<m)(h:a%m≠0):(-a)%m=m-a%m:=by
 have h0:=Int.emod_nonneg a (by omega:m≠0)
 have h1:=Int.emod_lt_of_pos a hm
 have:(-a)%m=(m-a%m)%m:=by
  rw[Int.emod_eq_emod_iff_emod_sub_eq_zero]
  have e:=Int.mul_ediv_add_emod a m
  have: -a-(m-a%m)=m*(-(a/m)-1):=by
   rw[Int.mul_sub,Int.mul_neg];omega
  rw[this,Int.mul_emod_right]
 rw[this,Int.emod_eq_of_lt (by omega) (by omega)]
theorem bl(a b m:Int):a%m*b%m=a*b%m:=by rw[Int.mul_emod,Int.emod_emod,←Int.mul_emod]
theorem bV(a b m:Int):a*(b%m)%m=a*b%m:=by rw[Int.mul_emod,Int.emod_emod,←Int.mul_emod]
theorem dC(a m:Int)(n:Nat):(a%m)^n%m=a^n%m:=by
 induction n with
 |zero=>rw[Int.pow_zero,Int.pow_zero]
 |succ n ih=>rw[Int.pow_succ,Int.pow_succ,bV,←bl,ih,bl]
theorem nu(a:Int)(n:Nat)(h:n%2=0):(a*a)^(n/2)=a^n:=by
 have:n=n/2+n/2:=by omega
 rw[Int.mul_pow,←Int.pow_add,←this]
theorem lH(a:Int)(n:Nat)(h:n%2=1):a*(a*a)^(n/2)=a^n:=by
 have:n=1+(n/2+n/2):=by omega
 rw[Int.mul_pow,←Int.pow_add,show a*a^(n/2+n/2)=a^1*a^(n/2+n/2) from by rw[Int.pow_succ];simp,←Int.pow_add,←this]
theorem Ai{m:Int}(hm:U m)(h:m≠0):U (1%m):=fu 1 hm h
theorem dR(x m:Int):m∣x%m-x:=by
 rw[Int.emod_def]
 exact⟨-(x/m),by rw[Int.mul_neg];omega⟩
theorem fN{x y m:Int}(h:m∣x-y):x%m=y%m:=Int.emod_eq_emod_iff_emod_sub_eq_zero.2 (Int.emod_eq_zero_of_dvd h)
theorem gL{x y m:Int}(h:x%m=y%m):m∣x-y:=Int.dvd_of_emod_eq_zero (Int.emod_eq_emod_iff_emod_sub_eq_zero.1 h)
theorem _root_.Int.kI(a b c d:Int):a*b*(c*d)=a*c*(b*d):=by
 rw[Int.mul_assoc,Int.mul_left_comm b c d,←Int.mul_assoc]
theorem wV{α:Type}{g:Nat→Option α}{r r':α}(e:Ev g r)(h:r=r'):Ev g r':=h▸e
end Go.Proofs.YtndkmnjbjlfeaaaGreat.M
end
section
namespace Go.Proofs.YtndkmnjbjlfeaaaGreat.M
open Go Go.RowKit Go.Proofs.YtndkmnjbjlfeaaaGreatW.PrintWords
def cy(m:Int):Prop:=m%2=1∧3≤m∧m<9223372036854775808
instance (m:Int):Decidable (cy m):=by unfold cy;infer_instance
def km(m:Int):Int:=((m+1)/2)^64%m
def iv(m x:Int):Int:=x*18446744073709551616%m
def j8(m x:Int):Int:=x*km m%m
def jl(m x y:Int):Int:=x*y*km m%m
def kE(m:Int):Int:=18446744073709551616%m
def zG(m:Int):Int:=kE m*kE m%m
def AQ(m x y:Int):Int:=(x+y)%m
def oV(m x e:Int):Int:=(x*km m)^e.toNat*18446744073709551616%m
section
variable {m:Int}
theorem mH(g:cy m):0<m:=by unfold cy at g;omega
theorem jd(g:cy m):m≠0:=by unfold cy at g;omega
theorem k6(g:cy m):U m:=by unfold cy at g;unfold U;omega
theorem jt(g:cy m)(x:Int):U (x%m):=fu x (k6 g) (jd g)
theorem mG(g:cy m)(x:Int):x%m<m:=Int.emod_lt_of_pos x (mH g)
theorem uA(g:cy m)(x:Int):0≤x%m:=Int.emod_nonneg x (jd g)
theorem pV(g:cy m)(n:Nat):(m+1)^n%m=1:=by
 have e:(m+1)%m=1:=by
  rw[Int.add_emod,Int.emod_self,Int.zero_add,Int.emod_emod,Int.emod_eq_of_lt (by omega) (by unfold cy at g;omega)]
 have:=dC (m+1) m n
 rw[e,Int.one_pow,Int.emod_eq_of_lt (by omega) (by unfold cy at g;omega)] at this
 exact this.symm
theorem jB(g:cy m):18446744073709551616*km m%m=1:=by
 unfold km
 rw[bV,show(18446744073709551616:Int)=2^64 from by decide,←Int.mul_pow]
 have:2*((m+1)/2)=m+1:=by unfold cy at g;omega
 rw[this]
 exact pV g 64
theorem rO(g:cy m){x y:Int}(h:x*18446744073709551616%m=y*18446744073709551616%m):x%m=y%m:=by
 have e: ∀z:Int,z%m=z*18446744073709551616%m*km m%m:=by
  intro z
  rw[bl,Int.mul_assoc,←bV,jB g,Int.mul_one]
 rw[e x,e y,h]
theorem np(g:cy m)(x:Int):x*km m%m*18446744073709551616%m=x%m:=by
 rw[bl,Int.mul_assoc,Int.mul_comm (km m),←bV,jB g,Int.mul_one]
theorem AU(g:cy m){hi lo t q P h l c T:Int}(ht:(18446744073709551616:Int)∣m*t+1)(h0:0≤hi)(h1:hi<m)(l0:0≤lo)(l1:lo<18446744073709551616)
  (hq:q=lo*t%18446744073709551616) (hP:P=q*m) (hh:h=P/18446744073709551616) (hl:l=P%18446744073709551616) (hc:c=(lo+l)/18446744073709551616) (hT:T=hi+h+c):
  0≤h∧0≤l∧l<18446744073709551616∧0≤c∧c≤1∧0≤T∧T<2*m∧T%m=j8 m (hi*18446744073709551616+lo):=by
 have gp:=mH g
 have hq0:0≤q:=by rw[hq];exact Int.emod_nonneg _ (by omega)
 have hq1:q<18446744073709551616:=by rw[hq];exact Int.emod_lt_of_pos _ (by omega)
 have hP0:0≤P:=by rw[hP];exact Int.mul_nonneg hq0 (by omega)
 have hP1:P≤18446744073709551615*m:=by rw[hP];exact Int.mul_le_mul_of_nonneg_right (by omega) (by omega)
 have hd:(18446744073709551616:Int)∣lo+P:=by
  have e1:(18446744073709551616:Int)∣q-lo*t:=by rw[hq];exact dR _ _
  have e2:lo+P=lo*(m*t+1)+(q-lo*t)*m:=by
   rw[hP,Int.sub_mul,Int.mul_add,Int.mul_one,show lo*(m*t)=lo*t*m from by rw[Int.mul_comm m,Int.mul_assoc]]
   omega
  rw[e2]
  exact Int.dvd_add (Int.dvd_mul_of_dvd_right ht) (Int.dvd_mul_of_dvd_left e1)
 have hd2:=Int.emod_eq_zero_of_dvd hd
 have hTR:T*18446744073709551616=hi*18446744073709551616+lo+P:=by omega
 refine⟨by omega,by omega,by omega,by omega,by omega,by omega,by omega,?_⟩
 have e:T*18446744073709551616%m=j8 m (hi*18446744073709551616+lo)*18446744073709551616%m:=by
  unfold j8
  rw[np g,hTR,hP,Int.add_mul_emod_self_right]
 have:=rO g e
 rw[this]
 unfold j8
 rw[Int.emod_emod]
theorem pk{T v:Int}(h0:0≤T)(h1:T<2*m)(h:T%m=v):(if T≥m then T-m else T)=v:=by
 rw[←h]
 by_cases hc:T≥m
 ·rw[if_pos hc]
  have e:T%m=(T-m)%m:=(Int.sub_emod_right _ _).symm
  rw[e,Int.emod_eq_of_lt (by omega) (by omega)]
 ·rw[if_neg hc,Int.emod_eq_of_lt h0 (by omega)]
theorem tv(x y:Int):j8 m (x%m*(y%m))=jl m x y:=by
 unfold j8 jl
 rw[←bl,←bl (x*y),bl x,bV]
theorem tM(x:Int):j8 m (x%m)=j8 m x:=by
 unfold j8;rw[bl]
theorem xN(g:cy m)(x:Int):jl m x (zG m)=iv m x:=by
 refine(Int.emod_emod _ _).symm.trans ?_
 refine(rO g (y:=iv m x) ?_).trans (Int.emod_emod _ _)
 rw[np g]
 unfold zG iv kE
 rw[bV,bl,←bV,bl,bV,←Int.mul_assoc,bV]
theorem zf(g:cy m)(x:Int):j8 m (iv m x)=x%m:=by
 unfold j8 iv
 rw[bl,Int.mul_assoc,←bV,jB g,Int.mul_one]
theorem oE(g:cy m)(x y:Int):jl m (iv m x) y=x*y%m:=by
 unfold jl iv
 rw[←bl,bl (x*18446744073709551616),bl,show x*18446744073709551616*y*km m=x*y*(18446744073709551616*km m) from by rw[Int.mul_right_comm x,Int.mul_assoc (x*y)],←bV,jB g,Int.mul_one]
theorem vq(g:cy m)(x e:Int):oV m (iv m x) e=iv m (x^e.toNat):=by
 unfold oV iv
 have h2:x*18446744073709551616%m*km m%m=x%m:=by rw[bl,Int.mul_assoc,←bV,jB g,Int.mul_one]
 rw[←bl,←dC,h2,dC,bl]
theorem yj(x:Int):iv m (x%m)=iv m x:=by unfold iv;rw[bl]
end
theorem mI{m x D E:Int}(hx:D∣m*x-1)(hE:E∣D*D)(hR:E∣18446744073709551616):
  E∣m*IntKind.u64.wrap (x*IntKind.u64.wrap (2-IntKind.u64.wrap (m*x)))-1:=by
 rw[kQ,kQ,kQ]
 have a1:E∣m*x%18446744073709551616-m*x:=Int.dvd_trans hR (dR _ _)
 generalize m*x%18446744073709551616=A at*
 have a2:E∣(2-A)%18446744073709551616-(2-A):=Int.dvd_trans hR (dR _ _)
 generalize(2-A)%18446744073709551616=B at*
 have a3:E∣x*B%18446744073709551616-x*B:=Int.dvd_trans hR (dR _ _)
 generalize x*B%18446744073709551616=C at*
 have a4:E∣(m*x-1)*(m*x-1):=Int.dvd_trans hE (Int.mul_dvd_mul hx hx)
 have e:m*C-1=m*(C-x*B)+m*x*(B-(2-A))-m*x*(A-m*x)-(m*x-1)*(m*x-1):=by
  have e1:m*(x*B)=m*x*B:=(Int.mul_assoc _ _ _).symm
  rw[Int.mul_sub m,e1]
  generalize m*x=y
  simp only[Int.mul_sub,Int.sub_mul,Int.mul_one,Int.one_mul]
  omega
 rw[e]
 exact Int.dvd_sub (Int.dvd_sub (Int.dvd_add (Int.dvd_mul_of_dvd_right a3) (Int.dvd_mul_of_dvd_right a2)) (Int.dvd_mul_of_dvd_right a1)) a4
theorem xB{m:Int}(h:m%2=1):(8:Int)∣m*m-1:=by
 obtain⟨k,hk⟩: ∃k,m=2*k+1:=⟨m/2,by omega⟩
 have hkk:(k*(k+1))%2=0:=by
  have:k%2=0∨k%2=1:=by omega
  rcases this with h|h
  ·rw[Int.mul_emod,h];simp
  ·rw[Int.mul_emod,show(k+1)%2=0 from by omega];simp
 have e:m*m-1=4*(k*(k+1)):=by
  rw[hk]
  simp only[Int.mul_add,Int.add_mul,Int.mul_one,Int.one_mul]
  rw[show 2*k*(2*k)=4*(k*k) from by rw[Int.mul_assoc,Int.mul_left_comm k 2 k];omega]
  omega
 omega
end Go.Proofs.YtndkmnjbjlfeaaaGreat.M
end
