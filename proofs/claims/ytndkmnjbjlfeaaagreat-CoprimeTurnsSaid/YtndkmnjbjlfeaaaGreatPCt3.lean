/- Parts of this claim's texts, packed by wip/tools/prune.py: what the proof does not reach is left out. -/
import Derived.Test.YtndkmnjbjlfeaaaGreatPCt2
import Derived.Test.YtndkmnjbjlfeaaaGreatProg
section
namespace Go.Proofs.YtndkmnjbjlfeaaaGreat.XS
open Go.RowKit Go.Proofs.YtndkmnjbjlfeaaaGreatW.PrintWords Go.Proofs.YtndkmnjbjlfeaaaGreatW.PrintLast Go.Proofs.YtndkmnjbjlfeaaaGreatW.PrintMore
attribute [local go_sem] bU bS ct cr bw bz bP bT
set_option linter.unusedVariables false
set_option linter.unusedSimpArgs false
def fJ:Option Int→Value
 |none=> .nilIface
 |some c=> .iface 0 (.int .i64 c)
theorem dU:fJ none= .nilIface:=rfl
theorem dX(c:Int):fJ (some c)= .iface 0 (.int .i64 c):=rfl
theorem jO:(Tryz.prog.info? 147).map (fun i=>(i.zero,i.size,i.bytes))=some (some (.agg #[(.int .u64 0),(.int .i64 0)]),2,16):=by kernel_rfl
structure bO where
 f0:Int
 f1:Int
def zW:bO:=⟨(0:Int),(0:Int)⟩
def ei:Kd bO:=Kd.Ah (Kd.pair (Kd.int .u64) (Kd.int .i64)) (fun x:bO=>(x.f0,x.f1))
theorem lv{w:World}{x:bO}{cs:List Value}(h:ei.K w x cs):cs=[.int .u64 x.f0, .int .i64 x.f1]:=by
 obtain⟨_,_,rfl,rfl,rfl⟩:=h
 exact rfl
theorem xy(w:World)(x:bO):ei.K w x [.int .u64 x.f0, .int .i64 x.f1]:=⟨[.int .u64 x.f0],[.int .i64 x.f1],rfl,rfl,rfl⟩
theorem kU(w:World)(base:Nat)(ok:Nat→Prop)(x:bO):ei.M w base ok x [.int .u64 x.f0, .int .i64 x.f1]:=⟨[.int .u64 x.f0],[.int .i64 x.f1],rfl,rfl,rfl⟩
def bg(xs:List bO)(i:Int):bO:=xs.getD i.toNat zW
theorem iz{w:World}{A:Option Addr}{n:Nat}{xs:List bO}(h:Kd.C ei w A n xs)(i:Int)(h0:0≤i)(h1:i<n): ∃ad,A=some ad∧w.cell? (ad.add (i.toNat*2))=some (.int .u64 (bg xs i).f0)∧w.cell? ⟨(ad.add (i.toNat*2)).block,(ad.add (i.toNat*2)).off+1,none⟩=some (.int .i64 (bg xs i).f1):=by
 obtain⟨ad,c,e,_,hK,hc0⟩:=Kd.n7 h zW i h0 h1
 have hc: ∀j u,c[j]?=some u→w.cell? (ad.add (i.toNat*2+j))=some u:=hc0
 obtain rfl:=lv hK
 exact⟨ad,e,hc 0 _ rfl,by rw[←gW _ _ 1 (by omega)];exact hc 1 _ rfl⟩
end Go.Proofs.YtndkmnjbjlfeaaaGreat.XS
end
section
namespace Go.Proofs.YtndkmnjbjlfeaaaGreat.XT
open Go.RowKit Go.Proofs.YtndkmnjbjlfeaaaGreat.XS Go.Proofs.YtndkmnjbjlfeaaaGreatW.PrintWords Go.Proofs.YtndkmnjbjlfeaaaGreatW.PrintLast Go.Proofs.YtndkmnjbjlfeaaaGreatW.PrintMore
attribute [local go_sem] bU bS ct cr bw bz bP bT
set_option linter.unusedVariables false
set_option linter.unusedSimpArgs false
def fJ:Option Int→Value
 |none=> .nilIface
 |some c=> .iface 0 (.int .i64 c)
theorem dU:fJ none= .nilIface:=rfl
theorem dX(c:Int):fJ (some c)= .iface 0 (.int .i64 c):=rfl
theorem ko:(Tryz.prog.info? 94).map (fun i=>(i.zero,i.size,i.bytes))=some (some (.agg #[(.int .u64 0),(.int .u64 0),(.slice none 0 0)]),3,40):=by kernel_rfl
structure dA where
 f0:Int
 f1:Int
 f2:(List bO)
def Bb:dA:=⟨(0:Int),(0:Int),([]:List bO)⟩
def kt:Kd dA:=Kd.Ah (Kd.pair (Kd.int .u64) (Kd.pair (Kd.int .u64) (Kd.slice 147 ei))) (fun x:dA=>(x.f0,x.f1,x.f2))
theorem vO{w:World}{x:dA}{cs:List Value}(h:kt.K w x cs): ∃A2 c2,cs=[.int .u64 x.f0, .int .u64 x.f1, .slice A2 x.f2.length c2]∧x.f2.length≤c2∧ei.C w A2 x.f2.length x.f2:=by
 obtain⟨_,_,rfl,rfl,⟨_,_,rfl,rfl,⟨A2,c2,rfl,l2,g2⟩⟩⟩:=h
 exact⟨A2,c2,rfl,l2,g2⟩
theorem oX(w:World)(base:Nat)(ok:Nat→Prop)(x:dA){v2:Value}(g2:ei.R 147 w base ok v2 x.f2):kt.M w base ok x [.int .u64 x.f0, .int .u64 x.f1,v2]:=⟨[.int .u64 x.f0],[.int .u64 x.f1,v2],rfl,rfl,⟨[.int .u64 x.f1],[v2],rfl,rfl,⟨v2,rfl,g2⟩⟩⟩
def aW(xs:List dA)(i:Int):dA:=xs.getD i.toNat Bb
theorem lA{w:World}{A:Option Addr}{n:Nat}{xs:List dA}(h:Kd.C kt w A n xs)(i:Int)(h0:0≤i)(h1:i<n): ∃ad A2 c2,A=some ad∧w.cell? (ad.add (i.toNat*3))=some (.int .u64 (aW xs i).f0)∧w.cell? ⟨(ad.add (i.toNat*3)).block,(ad.add (i.toNat*3)).off+1,none⟩=some (.int .u64 (aW xs i).f1)∧w.cell? ⟨(ad.add (i.toNat*3)).block,(ad.add (i.toNat*3)).off+2,none⟩=some (.slice A2 (aW xs i).f2.length c2)∧(aW xs i).f2.length≤c2∧ei.C w A2 (aW xs i).f2.length (aW xs i).f2:=by
 obtain⟨ad,c,e,_,hK,hc0⟩:=Kd.n7 h Bb i h0 h1
 have hc: ∀j u,c[j]?=some u→w.cell? (ad.add (i.toNat*3+j))=some u:=hc0
 obtain⟨A2,c2,rfl,l2,g2⟩:=vO hK
 exact⟨ad,A2,c2,e,hc 0 _ rfl,by rw[←gW _ _ 1 (by omega)];exact hc 1 _ rfl,by rw[←gW _ _ 2 (by omega)];exact hc 2 _ rfl,l2,g2⟩
end Go.Proofs.YtndkmnjbjlfeaaaGreat.XT
end
section
namespace Go.Proofs.YtndkmnjbjlfeaaaGreat.XR
open Go.RowKit Go.Proofs.YtndkmnjbjlfeaaaGreat.XT Go.Proofs.YtndkmnjbjlfeaaaGreat.XS Go.Proofs.YtndkmnjbjlfeaaaGreatW.PrintWords Go.Proofs.YtndkmnjbjlfeaaaGreatW.PrintLast Go.Proofs.YtndkmnjbjlfeaaaGreatW.PrintMore
attribute [local go_sem] bU bS ct cr bw bz bP bT
set_option linter.unusedVariables false
set_option linter.unusedSimpArgs false
def fJ:Option Int→Value
 |none=> .nilIface
 |some c=> .iface 0 (.int .i64 c)
theorem dU:fJ none= .nilIface:=rfl
theorem dX(c:Int):fJ (some c)= .iface 0 (.int .i64 c):=rfl
theorem xC:(Tryz.prog.info? 134).map (fun i=>(i.zero,i.size,i.bytes))=some (some (.agg #[(.int .u64 0),(.int .u64 0),(.slice none 0 0)]),3,40):=by kernel_rfl
structure eL where
 f0:Int
 f1:Int
def z146:eL:=⟨(0:Int),(0:Int)⟩
def pL:Kd eL:=Kd.Ah (Kd.pair (Kd.int .u64) (Kd.int .i64)) (fun x:eL=>(x.f0,x.f1))
theorem tW{w:World}{x:eL}{cs:List Value}(h:pL.K w x cs):cs=[.int .u64 x.f0, .int .i64 x.f1]:=by
 obtain⟨_,_,rfl,rfl,rfl⟩:=h
 exact rfl
def aD(xs:List eL)(i:Int):eL:=xs.getD i.toNat z146
theorem gx{w:World}{A:Option Addr}{n:Nat}{xs:List eL}(h:Kd.C pL w A n xs)(i:Int)(h0:0≤i)(h1:i<n): ∃ad,A=some ad∧w.cell? (ad.add (i.toNat*2))=some (.int .u64 (aD xs i).f0)∧w.cell? ⟨(ad.add (i.toNat*2)).block,(ad.add (i.toNat*2)).off+1,none⟩=some (.int .i64 (aD xs i).f1):=by
 obtain⟨ad,c,e,_,hK,hc0⟩:=Kd.n7 h z146 i h0 h1
 have hc: ∀j u,c[j]?=some u→w.cell? (ad.add (i.toNat*2+j))=some u:=hc0
 obtain rfl:=tW hK
 exact⟨ad,e,hc 0 _ rfl,by rw[←gW _ _ 1 (by omega)];exact hc 1 _ rfl⟩
structure dq where
 f0:Int
 f1:Int
 f2:(List eL)
def zC:dq:=⟨(0:Int),(0:Int),([]:List eL)⟩
def ku:Kd dq:=Kd.Ah (Kd.pair (Kd.int .u64) (Kd.pair (Kd.int .u64) (Kd.slice 146 pL))) (fun x:dq=>(x.f0,x.f1,x.f2))
theorem ta{w:World}{x:dq}{cs:List Value}(h:ku.K w x cs): ∃A2 c2,cs=[.int .u64 x.f0, .int .u64 x.f1, .slice A2 x.f2.length c2]∧x.f2.length≤c2∧pL.C w A2 x.f2.length x.f2:=by
 obtain⟨_,_,rfl,rfl,⟨_,_,rfl,rfl,⟨A2,c2,rfl,l2,g2⟩⟩⟩:=h
 exact⟨A2,c2,rfl,l2,g2⟩
def ag(xs:List dq)(i:Int):dq:=xs.getD i.toNat zC
theorem gS{w:World}{A:Option Addr}{n:Nat}{xs:List dq}(h:Kd.C ku w A n xs)(i:Int)(h0:0≤i)(h1:i<n): ∃ad A2 c2,A=some ad∧w.cell? (ad.add (i.toNat*3))=some (.int .u64 (ag xs i).f0)∧w.cell? ⟨(ad.add (i.toNat*3)).block,(ad.add (i.toNat*3)).off+1,none⟩=some (.int .u64 (ag xs i).f1)∧w.cell? ⟨(ad.add (i.toNat*3)).block,(ad.add (i.toNat*3)).off+2,none⟩=some (.slice A2 (ag xs i).f2.length c2)∧(ag xs i).f2.length≤c2∧pL.C w A2 (ag xs i).f2.length (ag xs i).f2:=by
 obtain⟨ad,c,e,_,hK,hc0⟩:=Kd.n7 h zC i h0 h1
 have hc: ∀j u,c[j]?=some u→w.cell? (ad.add (i.toNat*3+j))=some u:=hc0
 obtain⟨A2,c2,rfl,l2,g2⟩:=ta hK
 exact⟨ad,A2,c2,e,hc 0 _ rfl,by rw[←gW _ _ 1 (by omega)];exact hc 1 _ rfl,by rw[←gW _ _ 2 (by omega)];exact hc 2 _ rfl,l2,g2⟩
end Go.Proofs.YtndkmnjbjlfeaaaGreat.XR
end
section
namespace Go.Proofs.YtndkmnjbjlfeaaaGreat.XO
open Go.RowKit Go.Proofs.YtndkmnjbjlfeaaaGreat.XR Go.Proofs.YtndkmnjbjlfeaaaGreat.XT Go.Proofs.YtndkmnjbjlfeaaaGreat.XS Go.Proofs.YtndkmnjbjlfeaaaGreatW.PrintWords Go.Proofs.YtndkmnjbjlfeaaaGreatW.PrintLast Go.Proofs.YtndkmnjbjlfeaaaGreatW.PrintMore
attribute [local go_sem] bU bS ct cr bw bz bP bT
set_option linter.unusedVariables false
set_option linter.unusedSimpArgs false
def fJ:Option Int→Value
 |none=> .nilIface
 |some c=> .iface 0 (.int .i64 c)
theorem dU:fJ none= .nilIface:=rfl
theorem dX(c:Int):fJ (some c)= .iface 0 (.int .i64 c):=rfl
end Go.Proofs.YtndkmnjbjlfeaaaGreat.XO
end
section
namespace Go.Proofs.YtndkmnjbjlfeaaaGreat.XQ
open Go.RowKit Go.Proofs.YtndkmnjbjlfeaaaGreatW.PrintWords Go.Proofs.YtndkmnjbjlfeaaaGreatW.PrintLast Go.Proofs.YtndkmnjbjlfeaaaGreatW.PrintMore
attribute [local go_sem] bU bS ct cr bw bz bP bT
set_option linter.unusedVariables false
set_option linter.unusedSimpArgs false
def fJ:Option Int→Value
 |none=> .nilIface
 |some c=> .iface 0 (.int .i64 c)
theorem dU:fJ none= .nilIface:=rfl
theorem dX(c:Int):fJ (some c)= .iface 0 (.int .i64 c):=rfl
end Go.Proofs.YtndkmnjbjlfeaaaGreat.XQ
end
section
namespace Go.Proofs.YtndkmnjbjlfeaaaGreat.Num
def cK(p:Nat):Prop:=2≤p∧ ∀d,d∣p→d=1∨d=p
theorem sb: ∀(n:Nat) (f:Nat→Nat),(∀i,i<n→f i<n)→(∀i,i<n→ ∀j,j<n→f i=f j→i=j)→ ∀y,y<n→ ∃i,i<n∧f i=y
 |0,_,_,_,y,hy=>absurd hy (Nat.not_lt_zero y)
 |n+1,f,hb,hi,y,hy=>by
  have hv:=hb n (Nat.lt_succ_self n)
  have ne: ∀i,i<n→f i≠f n:=fun i h e=>by have:=hi i (by omega) n (by omega) e;omega
  have IH:=sb n (fun i=>if f i=n then f n else f i) (fun i h=>by
    show(if f i=n then f n else f i)<n
    split
    ·next e=>have:=ne i h;omega
    ·next e=>have:=hb i (by omega);omega)
   (fun i h j k e=>by
    have e:(if f i=n then f n else f i)=(if f j=n then f n else f j):=e
    split at e<;>split at e
    ·next a b=>exact hi i (by omega) j (by omega) (by omega)
    ·exact absurd e.symm (ne j k)
    ·exact absurd e (ne i h)
    ·exact hi i (by omega) j (by omega) e)
  by_cases h1:f n=y
  ·exact⟨n,Nat.lt_succ_self n,h1⟩
  by_cases h2:y=n
  ·obtain⟨i,hin,e⟩:=IH (f n) (by omega)
   have e:(if f i=n then f n else f i)=f n:=e
   split at e
   ·next a=>exact⟨i,by omega,by omega⟩
   ·exact absurd e (ne i hin)
  ·obtain⟨i,hin,e⟩:=IH y (by omega)
   have e:(if f i=n then f n else f i)=y:=e
   split at e
   ·exact absurd e h1
   ·exact⟨i,by omega,e⟩
theorem least{p:Nat→Prop}: ∀n,p n→ ∃m,p m∧ ∀k,k<m→ ¬p k:=by
 intro n
 induction n using Nat.strongRecOn with
 |ind n ih=>
  intro h
  by_cases c: ∃k,k<n∧p k
  ·obtain⟨k,hk,hp⟩:=c;exact ih k hk hp
  ·exact⟨n,h,fun k hk hp=>c ⟨k,hk,hp⟩⟩
theorem cK.iY{p a b:Nat}(h:cK p)(d:p∣a*b):p∣a∨p∣b:=by
 rcases h.2 (Nat.gcd p a) (Nat.gcd_dvd_left p a) with e|e
 ·exact .inr (Nat.Coprime.dvd_of_dvd_mul_left e d)
 ·exact .inl (e▸Nat.gcd_dvd_right p a)
theorem kD: ∀n:Nat,2≤n→ ∃p,cK p∧p∣n:=by
 intro n
 induction n using Nat.strongRecOn with
 |ind n ih=>
  intro h
  by_cases c: ∃d,d∣n∧d≠1∧d≠n
  ·obtain⟨d,hd,h1,h2⟩:=c
   have hle:=Nat.le_of_dvd (by omega) hd
   have h0:d≠0:=by rintro rfl;have:=Nat.eq_zero_of_zero_dvd hd;omega
   obtain⟨p,hp,hpd⟩:=ih d (by omega) (by omega)
   exact⟨p,hp,Nat.dvd_trans hpd hd⟩
  ·exact⟨n,⟨h,fun d hd=>Classical.byContradiction fun e=>c ⟨d,hd,fun a=>e (.inl a),fun a=>e (.inr a)⟩⟩,Nat.dvd_refl n⟩
theorem cK.dvd_pow{p q:Nat}(h:cK p): ∀e,p∣q^e→p∣q
 |0,d=>by have:=Nat.le_of_dvd (by decide:0<1) (by simpa using d);have:=h.1;omega
 |e+1,d=>by
  rw[Nat.pow_succ] at d
  rcases h.iY d with c|c
  ·exact h.dvd_pow e c
  ·exact c
def prod:List (Nat×Nat)→Nat
 |[]=>1
 |f::l=>f.1^f.2*prod l
theorem cK.kL{p:Nat}(h:cK p): ∀l:List (Nat×Nat),p∣prod l→ ∃f∈l,p∣f.1
 |[],d=>by have:=Nat.le_of_dvd (by decide:0<1) d;have:=h.1;omega
 |f::l,d=>by
  rcases h.iY d with c|c
  ·exact⟨f,List.mem_cons_self,h.dvd_pow _ c⟩
  ·obtain⟨g,hg,hd⟩:=h.kL l c
   exact⟨g,List.mem_cons_of_mem _ hg,hd⟩
section
variable {P G:Nat}
theorem me{d:Nat}(h:G^d%P=1)(hP:2≤P)(q:Nat):G^(d*q)%P=1:=by
 rw[Nat.pow_mul,Nat.pow_mod,h,Nat.one_pow]
 exact Nat.mod_eq_of_lt (by omega)
theorem lP{d:Nat}(h:G^d%P=1)(x:Nat):G^(d+x)%P=G^x%P:=by
 rw[Nat.pow_add,Nat.mul_mod,h,Nat.one_mul,Nat.mod_mod]
theorem order{d:Nat}(hP:2≤P)(hd:0<d)(h:G^d%P=1)(hm: ∀k,0<k→k<d→G^k%P≠1)(x:Nat):G^x%P=1↔d∣x:=by
 constructor
 ·intro hx
  rw[←Nat.div_add_mod x d,lP (me h hP _)] at hx
  refine Nat.dvd_of_mod_eq_zero (Classical.byContradiction fun c=>hm _ (by omega) (Nat.mod_lt _ hd) hx)
 ·rintro⟨q,rfl⟩
  exact me h hP q
theorem yI(hP:2≤P)(h1:G^(P-1)%P=1)(h2: ∀q,cK q→q∣P-1→G^((P-1)/q)%P≠1)(x:Nat):G^x%P=1↔P-1∣x:=by
 obtain⟨d,⟨hd,h⟩,hm⟩:=least (p:=fun d=>0<d∧G^d%P=1) (P-1) ⟨by omega,h1⟩
 have ord:=order hP hd h (fun k k0 kd e=>hm k kd ⟨k0,e⟩)
 have dv:=(ord (P-1)).1 h1
 suffices e:d=P-1 by rw[←e];exact ord x
 obtain⟨c,hc⟩:=dv
 refine Classical.byContradiction fun ne=>?_
 have c2:2≤c:=by
  have:c≠0:=by rintro rfl;simp at hc;omega
  have:c≠1:=by rintro rfl;simp at hc;omega
  omega
 obtain⟨q,hq,qc⟩:=kD c c2
 obtain⟨c',rfl⟩:=qc
 have q2:=hq.1
 refine h2 q hq ⟨d*c',by rw[hc,←Nat.mul_assoc,Nat.mul_comm d q,Nat.mul_assoc]⟩ ((ord _).2 ⟨c',?_⟩)
 rw[hc,←Nat.mul_assoc,Nat.mul_comm d q,Nat.mul_assoc,Nat.mul_div_cancel_left _ (by omega)]
theorem kp{i:Nat}(h1:G^(P-1)%P=1)(hi:i≤P-1):G^i*G^(P-1-i)%P=1:=by
 rw[←Nat.pow_add,Nat.add_sub_of_le hi,h1]
theorem AA(hP:2≤P)(ord: ∀x,G^x%P=1↔P-1∣x){y:Nat}(y0:0<y)(yP:y<P): ∃i,i<P-1∧G^i%P=y:=by
 have h1:=(ord (P-1)).2 (Nat.dvd_refl _)
 have nz: ∀i,i<P-1→0<G^i%P:=fun i hi=>by
  have:=kp h1 (Nat.le_of_lt hi)
  rw[Nat.mul_mod] at this
  rcases Nat.eq_zero_or_pos (G^i%P) with e|e
  ·rw[e,Nat.zero_mul,Nat.zero_mod] at this;omega
  ·exact e
 have inj: ∀i,i<P-1→ ∀j,j<P-1→i≤j→G^i%P=G^j%P→i=j:=by
  intro i hi j hj hij e
  have a:=kp h1 (Nat.le_of_lt hi)
  have b:G^j*G^(P-1-i)%P=1:=by rw[Nat.mul_mod,←e,←Nat.mul_mod];exact a
  rw[←Nat.pow_add,show j+(P-1-i)=(P-1)+(j-i) by omega,lP h1] at b
  obtain⟨c,hc⟩:=(ord _).1 b
  rcases Nat.eq_zero_or_pos c with rfl|hc0
  ·simp at hc;omega
  ·have:P-1≤(P-1)*c:=Nat.le_mul_of_pos_right _ hc0
   omega
 obtain⟨i,hi,e⟩:=sb (P-1) (fun i=>G^i%P-1)
  (fun i hi=>by have:=nz i hi;have:=Nat.mod_lt (G^i) (show P>0 by omega);show G^i%P-1<P-1;omega)
  (fun i hi j hj e=>by
   have e:G^i%P-1=G^j%P-1:=e
   have:=nz i hi;have:=nz j hj
   rcases Nat.le_total i j with c|c
   ·exact inj i hi j hj c (by omega)
   ·exact(inj j hj i hi c (by omega)).symm) (y-1) (by omega)
 have e:G^i%P-1=y-1:=e
 exact⟨i,hi,by have:=nz i hi;omega⟩
theorem unit(hP:2≤P)(ord: ∀x,G^x%P=1↔P-1∣x){y:Nat}(y0:0<y)(yP:y<P): ∃z,y*z%P=1:=by
 obtain⟨i,hi,rfl⟩:=AA hP ord y0 yP
 exact⟨G^(P-1-i),by rw[Nat.mul_mod,Nat.mod_mod,←Nat.mul_mod];exact kp ((ord _).2 (Nat.dvd_refl _)) (Nat.le_of_lt hi)⟩
theorem mY(hP:2≤P)(ord: ∀x,G^x%P=1↔P-1∣x):cK P:=by
 refine⟨hP,fun d hd=>Classical.byContradiction fun c=>?_⟩
 have h0:d≠0:=by rintro rfl;have:=Nat.eq_zero_of_zero_dvd hd;omega
 have hle:=Nat.le_of_dvd (by omega) hd
 have h1:d≠1:=fun e=>c (.inl e)
 have h2:d≠P:=fun e=>c (.inr e)
 obtain⟨z,hz⟩:=unit hP ord (y:=d) (by omega) (by omega)
 have:d∣1:=by
  have a:d∣d*z:=⟨z,rfl⟩
  have b:=(Nat.dvd_mod_iff hd).2 a
  rwa[hz] at b
 have:=Nat.le_of_dvd (by decide) this
 omega
theorem lh(hP:2≤P)(ord: ∀x,G^x%P=1↔P-1∣x){a:Nat}(ha:a%P≠0):a^(P-1)%P=1:=by
 obtain⟨i,hi,e⟩:=AA hP ord (y:=a%P) (by omega) (Nat.mod_lt _ (by omega))
 rw[Nat.pow_mod,←e,←Nat.pow_mod,←Nat.pow_mul]
 exact(ord _).2 ⟨i,Nat.mul_comm _ _⟩
theorem Af(fs:List (Nat×Nat))(hP:3≤P)(h1:G^(P-1)%P=1)(hp: ∀f∈fs,cK f.1)(hprod:prod fs=P-1)(h2: ∀f∈fs,G^((P-1)/f.1)%P≠1)(x:Nat):
  G^x%P=1↔P-1∣x:=by
 refine yI (by omega) h1 (fun q hq hd=>?_) x
 rw[←hprod] at hd
 obtain⟨f,hf,hqf⟩:=hq.kL fs hd
 rcases(hp f hf).2 q hqf with e|e
 ·have:=hq.1;omega
 ·rw[e];exact h2 f hf
end
theorem cK.two:cK 2:=⟨Nat.le_refl 2,fun d hd=>by
 have:=Nat.le_of_dvd (by decide) hd
 have h0:d≠0:=by rintro rfl;exact absurd hd (by decide)
 omega⟩
end Go.Proofs.YtndkmnjbjlfeaaaGreat.Num
end
section
namespace Go.Proofs.YtndkmnjbjlfeaaaGreat.Num
theorem strip(d:Nat)(hd:2≤d)(n:Nat)(hn:0<n): ∃e m,n=d^e*m∧ ¬d∣m∧0<m∧e≤n∧m≤n:=by
 induction n using Nat.strongRecOn with
 |ind n ih=>
  by_cases h:d∣n
  ·obtain⟨c,rfl⟩:=h
   have c0:0<c:=Nat.pos_of_mul_pos_left hn
   have lt:c<d*c:=by
    have:=Nat.mul_le_mul_right c hd
    omega
   obtain⟨e,m,h1,h2,h3,h4,h5⟩:=ih c lt c0
   refine⟨e+1,m,?_,h2,h3,by omega,by omega⟩
   rw[Nat.pow_succ,Nat.mul_comm (d^e) d,Nat.mul_assoc,←h1]
  ·exact⟨0,n,by simp,h,hn,Nat.zero_le _,Nat.le_refl n⟩
def gZ(P a d:Nat):Prop:=0<d∧ ∀x,a^x%P=1↔d∣x
theorem mod_one{P x:Nat}(hP:2≤P)(hx:1≤x)(h:P∣x-1):x%P=1:=by
 obtain⟨c,hc⟩:=h
 have:x=1+P*c:=by omega
 rw[this,Nat.add_mul_mod_self_left]
 exact Nat.mod_eq_of_lt (by omega)
theorem na{P a:Nat}(_hp:cK P)(ha: ¬P∣a)(e:Nat):1≤a^e:=by
 refine Nat.pow_pos (Nat.pos_of_ne_zero ?_)
 rintro rfl
 exact ha (Nat.dvd_zero P)
theorem rU{P a i j:Nat}(hp:cK P)(ha: ¬P∣a)(hij:i≤j)(e:a^i%P=a^j%P):a^(j-i)%P=1:=by
 have h:P∣a^j-a^i:=Nat.dvd_of_mod_eq_zero (Nat.sub_mod_eq_zero_of_mod_eq e.symm)
 have h2:a^j-a^i=a^i*(a^(j-i)-1):=by
  rw[Nat.mul_sub,Nat.mul_one,←Nat.pow_add,Nat.add_sub_of_le hij]
 rw[h2] at h
 rcases hp.iY h with c|c
 ·exact absurd (hp.dvd_pow _ c) ha
 ·exact mod_one hp.1 (na hp ha _) c
theorem rZ{P a:Nat}(hp:cK P)(ha: ¬P∣a)(i:Nat):0<a^i%P:=by
 refine Nat.pos_of_ne_zero fun e=>ha (hp.dvd_pow i (Nat.dvd_of_mod_eq_zero e))
theorem exists_rep{P a:Nat}(hp:cK P)(ha: ¬P∣a): ∃i j,i<j∧j≤P-1∧a^i%P=a^j%P:=by
 refine Classical.byContradiction fun c=>?_
 have hP:=hp.1
 have inj: ∀i j,i<j→j≤P-1→a^i%P≠a^j%P:=fun i j hi hj e=>c ⟨i,j,hi,hj,e⟩
 have lt: ∀i,a^i%P<P:=fun i=>Nat.mod_lt _ (by omega)
 have pos:=rZ hp ha
 obtain⟨i,hi,e⟩:=sb (P-1) (fun i=>a^i%P-1) (fun i _=>by
   have:=lt i;have:=pos i
   show a^i%P-1<P-1
   omega) (fun i hi j hj e=>by
   have e:a^i%P-1=a^j%P-1:=e
   have:=pos i;have:=pos j
   rcases Nat.lt_trichotomy i j with h|h|h
   ·exact absurd (by omega) (inj i j h (by omega))
   ·exact h
   ·exact absurd (by omega) (inj j i h (by omega))) (a^(P-1)%P-1) (by have:=lt (P-1);have:=pos (P-1);omega)
 have e:a^i%P-1=a^(P-1)%P-1:=e
 have:=pos i;have:=pos (P-1)
 exact inj i (P-1) hi (Nat.le_refl _) (by omega)
theorem ic{P a:Nat}(hp:cK P)(ha: ¬P∣a): ∃d,gZ P a d∧d≤P-1:=by
 obtain⟨i,j,hij,hj,e⟩:=exists_rep hp ha
 have h:=rU hp ha (Nat.le_of_lt hij) e
 obtain⟨d,⟨hd,h1⟩,hm⟩:=least (p:=fun d=>0<d∧a^d%P=1) (j-i) ⟨by omega,h⟩
 refine⟨d,⟨hd,order hp.1 hd h1 fun k k0 kd e=>hm k kd ⟨k0,e⟩⟩,?_⟩
 refine Nat.le_of_not_lt fun c=>hm (j-i) (by omega) ⟨by omega,h⟩
theorem ry{P a d:Nat}(hp:cK P)(ha: ¬P∣a)(h:gZ P a d):d≤P-1:=by
 obtain⟨e,he,hl⟩:=ic hp ha
 have:=(h.2 e).1 ((he.2 e).2 (Nat.dvd_refl e))
 have:=Nat.le_of_dvd he.1 this
 omega
theorem sd{P a c d:Nat}(h:gZ P a (c*d)):gZ P (a^c) d:=by
 have h0:0<c∧0<d:=by
  have:=h.1
  exact⟨Nat.pos_of_mul_pos_right this,Nat.pos_of_mul_pos_left this⟩
 refine⟨h0.2,fun x=>?_⟩
 rw[←Nat.pow_mul,h.2]
 exact Nat.mul_dvd_mul_iff_left h0.1
theorem fv{P b:Nat}(hP:2≤P)(h:b%P=1)(x:Nat):b^x%P=1:=by
 rw[Nat.pow_mod,h,Nat.one_pow]
 exact Nat.mod_eq_of_lt (by omega)
theorem yv{P a b m n:Nat}(hP:2≤P)(ha:gZ P a m)(hb:gZ P b n)(hc:Nat.Coprime m n):gZ P (a*b) (m*n):=by
 refine⟨Nat.mul_pos ha.1 hb.1,fun x=>⟨fun h=>?_,?_⟩⟩
 ·have am: ∀y,a^(m*y)%P=1:=fun y=>(ha.2 _).2 ⟨y,rfl⟩
  have bn: ∀y,b^(n*y)%P=1:=fun y=>(hb.2 _).2 ⟨y,rfl⟩
  have h1:m∣n*x:=by
   refine(ha.2 _).1 ?_
   have:=fv hP h n
   rw[←Nat.pow_mul,Nat.mul_comm x n,Nat.mul_pow,Nat.mul_mod,bn,Nat.mul_one,Nat.mod_mod] at this
   exact this
  have h2:n∣m*x:=by
   refine(hb.2 _).1 ?_
   have:=fv hP h m
   rw[←Nat.pow_mul,Nat.mul_comm x m,Nat.mul_pow,Nat.mul_mod,am,Nat.one_mul,Nat.mod_mod] at this
   exact this
  exact Nat.Coprime.mul_dvd_of_dvd_of_dvd hc (Nat.Coprime.dvd_of_dvd_mul_left hc h1) (Nat.Coprime.dvd_of_dvd_mul_left hc.symm h2)
 ·rintro⟨y,rfl⟩
  rw[Nat.mul_pow,Nat.mul_mod,(ha.2 _).2 ⟨n*y,Nat.mul_assoc _ _ _⟩,(hb.2 _).2 ⟨m*y,by rw[←Nat.mul_assoc,Nat.mul_comm m n]⟩]
  exact Nat.mod_eq_of_lt (by omega)
theorem cK.qg{p m:Nat}(h:cK p)(hm: ¬p∣m)(e:Nat):Nat.Coprime m (p^e):=by
 refine(Nat.Coprime.pow_left e ?_).symm
 rcases h.2 (Nat.gcd p m) (Nat.gcd_dvd_left p m) with c|c
 ·exact c
 ·exact absurd (c▸Nat.gcd_dvd_right p m) hm
theorem wR{P a b m n:Nat}(hp:cK P)(ha:gZ P a m)(hb:gZ P b n)(hn: ¬n∣m): ∃c d,gZ P c d∧m<d∧(¬P∣a→ ¬P∣b→ ¬P∣c):=by
 have n0:=hb.1
 have g0:0<Nat.gcd n m:=Nat.gcd_pos_of_pos_left m n0
 obtain⟨t,ht⟩:=Nat.gcd_dvd_left n m
 have t2:2≤t:=by
  have h0:t≠0:=by rintro rfl;rw[Nat.mul_zero] at ht;omega
  have h1:t≠1:=by
   rintro rfl
   rw[Nat.mul_one] at ht
   exact hn (ht▸Nat.gcd_dvd_right n m)
  omega
 obtain⟨q,hq,qt⟩:=kD t t2
 obtain⟨e,n',hn',hnq,_⟩:=strip q hq.1 n n0
 obtain⟨f,m',hm',hmq,m0,_⟩:=strip q hq.1 m ha.1
 have q0:0<q:=by have:=hq.1;omega
 have ef:f<e:=by
  refine Nat.lt_of_not_le fun c=>hnq ?_
  have h1:q^e∣Nat.gcd n m:=Nat.dvd_gcd ⟨n',hn'⟩ (by
   rw[hm']
   exact Nat.dvd_trans (Nat.pow_dvd_pow q c) ⟨m',rfl⟩)
  obtain⟨g',hg'⟩:=h1
  rw[hg',Nat.mul_assoc] at ht
  have h2:n'=g'*t:=Nat.eq_of_mul_eq_mul_left (Nat.pow_pos q0:0<q^e) (by rw[←hn',←ht])
  rw[h2]
  exact Nat.dvd_trans qt ⟨g',Nat.mul_comm _ _⟩
 have ha':gZ P (a^q^f) m':=sd (hm'▸ha)
 have hb':gZ P (b^n') (q^e):=sd (by rw[Nat.mul_comm n',←hn'];exact hb)
 refine⟨_,_,yv hp.1 ha' hb' (hq.qg hmq e),?_,?_⟩
 ·have:q^f<q^e:=Nat.pow_lt_pow_right (by have:=hq.1;omega) ef
  have:=Nat.mul_lt_mul_of_pos_right this m0
  rw[Nat.mul_comm m' (q^e)]
  omega
 ·intro h1 h2 h3
  rcases hp.iY h3 with c|c
  ·exact h1 (hp.dvd_pow _ c)
  ·exact h2 (hp.dvd_pow _ c)
def Poly:Nat→(Int→Int)→Prop
 |0,f=> ∀x,f x=1
 |n+1,f=> ∃g c,Poly n g∧ ∀x,f x=x*g x+c
theorem Poly.add: ∀(n:Nat) (g q:Int→Int) (r:Int),Poly (n+1) g→Poly n q→Poly (n+1) (fun x=>g x+r*q x)
 |0,g,q,r,⟨h,c,h0,e⟩,hq=>⟨h,c+r,h0,fun x=>by
   show g x+r*q x=_
   rw[e,hq x];grind⟩
 |n+1,g,q,r,⟨h,c,h0,e⟩,⟨q1,c1,h1,e1⟩=>⟨_,c+r*c1,Poly.add n h q1 r h0 h1,fun x=>by
   show g x+r*q x=_
   rw[e,e1];grind⟩
theorem Poly.div: ∀(n:Nat) (f:Int→Int) (r:Int),Poly (n+1) f→ ∃q,Poly n q∧ ∀x,f x-f r=(x-r)*q x
 |0,f,r,⟨g,c,h0,e⟩=>⟨g,h0,fun x=>by rw[e,e,h0 x,h0 r];grind⟩
 |n+1,f,r,⟨g,c,h0,e⟩=>by
  obtain⟨q,hq,eq⟩:=Poly.div n g r h0
  refine⟨_,Poly.add n g q r h0 hq,fun x=>?_⟩
  have:=eq x
  rw[e,e]
  have h:g x=g r+(x-r)*q x:=by omega
  rw[h];grind
theorem cK.int{p:Nat}(h:cK p){a b:Int}(d:(p:Int)∣a*b):(p:Int)∣a∨(p:Int)∣b:=by
 have:=Int.natAbs_dvd_natAbs.2 d
 rw[Int.natAbs_mul,Int.natAbs_natCast] at this
 rcases h.iY this with c|c
 ·exact .inl (Int.natAbs_dvd_natAbs.1 (by rwa[Int.natAbs_natCast]))
 ·exact .inr (Int.natAbs_dvd_natAbs.1 (by rwa[Int.natAbs_natCast]))
theorem Poly.roots{P:Nat}(hp:cK P): ∀(n:Nat) (f:Int→Int) (lo:Nat),Poly n f→lo≤P→(∀s:Nat,lo≤s→s<P→(P:Int)∣f s)→P-lo≤n
 |0,f,lo,h,hlo,hr=>by
  refine Nat.le_of_not_lt fun c=>?_
  have:=hr lo (Nat.le_refl _) (by omega)
  rw[h] at this
  have h1:P∣1:=Int.natCast_dvd_natCast.1 this
  have h2:P≤1:=Nat.le_of_dvd (by decide) h1
  have hP:=hp.1
  omega
 |n+1,f,lo,h,hlo,hr=>by
  rcases Nat.lt_or_ge lo P with hl|hl
  ·obtain⟨q,hq,e⟩:=Poly.div n f lo h
   have:=Poly.roots hp n q (lo+1) hq (by omega) (fun s h1 h2=>by
    have d:(P:Int)∣f s-f lo:=Int.dvd_sub (hr s (by omega) h2) (hr lo (Nat.le_refl _) hl)
    rw[e] at d
    rcases hp.int d with c|c
    ·have:(s:Int)-lo=((s-lo:Nat):Int):=by omega
     rw[this] at c
     have:=Nat.le_of_dvd (by omega) (Int.natCast_dvd_natCast.1 c)
     omega
    ·exact c)
   omega
  ·omega
theorem Poly.pow: ∀n:Nat,Poly (n+1) (fun x=>x^(n+1)-1)
 |0=>⟨fun _=>1,-1,fun _=>rfl,fun x=>by show x^1-1=x*1+ -1;rw[Int.pow_succ,Int.pow_zero];omega⟩
 |n+1=>by
  have h: ∀n:Nat,Poly n (fun x:Int=>x^n):=by
   intro n
   induction n with
   |zero=>exact fun x=>Int.pow_zero x
   |succ n ih=>exact⟨_,0,ih,fun x=>by show x^(n+1)=x*x^n+0;rw[Int.pow_succ,Int.mul_comm,Int.add_zero]⟩
  exact⟨_,-1,h (n+1),fun x=>by show x^(n+1+1)-1=x*x^(n+1)+ -1;rw[Int.pow_succ,Int.mul_comm];omega⟩
theorem lQ{P:Nat}(hp:cK P): ∃g,0<g∧g<P∧ ∀x,g^x%P=1↔P-1∣x:=by
 have hP:=hp.1
 have one: ¬P∣1:=fun d=>by have:=Nat.le_of_dvd (by decide) d;omega
 obtain⟨d1,o1,_⟩:=ic hp one
 obtain⟨k,⟨a,d,ha,ho,hk⟩,hm⟩:=least (p:=fun k=> ∃a d,¬P∣a∧gZ P a d∧k=P-d) _ ⟨1,d1,one,o1,rfl⟩
 have dle:=ry hp ha ho
 have all: ∀b,¬P∣b→b^d%P=1:=by
  intro b hb
  obtain⟨n,hn,nle⟩:=ic hp hb
  refine(hn.2 d).2 (Classical.byContradiction fun c=>?_)
  obtain⟨x,y,hy,lt,hx⟩:=wR hp ho hn c
  have hx:=hx ha hb
  have:=ry hp hx hy
  exact hm (P-y) (by omega) ⟨x,y,hx,hy,rfl⟩
 obtain⟨d',rfl⟩: ∃d',d=d'+1:=⟨d-1,by have:=ho.1;omega⟩
 have r:=Poly.roots hp (d'+1) _ 1 (Poly.pow d') (by omega) (fun s h1 h2=>by
  have ns: ¬P∣s:=fun c=>by have:=Nat.le_of_dvd (by omega) c;omega
  have h:=all s ns
  have pos:=na hp ns (d'+1)
  have:P∣s^(d'+1)-1:=Nat.dvd_of_mod_eq_zero (Nat.sub_mod_eq_zero_of_mod_eq (by rw[h,Nat.mod_eq_of_lt (by omega)]))
  have:=Int.natCast_dvd_natCast.2 this
  rw[Int.natCast_sub pos,Int.natCast_pow] at this
  exact this)
 have e:d'+1=P-1:=by omega
 refine⟨a%P,Nat.pos_of_ne_zero fun e=>ha (Nat.dvd_of_mod_eq_zero e),Nat.mod_lt _ (by omega),fun x=>?_⟩
 rw[←e,←Nat.pow_mod]
 exact ho.2 x
theorem cK.lh{P a:Nat}(hp:cK P)(ha:a%P≠0):a^(P-1)%P=1:=by
 obtain⟨g,_,_,ho⟩:=lQ hp
 exact Num.lh hp.1 ho ha
end Go.Proofs.YtndkmnjbjlfeaaaGreat.Num
end
section
namespace Go.Proofs.YtndkmnjbjlfeaaaGreat.XK
open Go.RowKit Go.Proofs.YtndkmnjbjlfeaaaGreat.XR Go.Proofs.YtndkmnjbjlfeaaaGreat.XT Go.Proofs.YtndkmnjbjlfeaaaGreat.XS Go.Proofs.YtndkmnjbjlfeaaaGreatW.PrintWords Go.Proofs.YtndkmnjbjlfeaaaGreatW.PrintLast Go.Proofs.YtndkmnjbjlfeaaaGreatW.PrintMore
attribute [local go_sem] bU bS ct cr bw bz bP bT
set_option linter.unusedVariables false
set_option linter.unusedSimpArgs false
def fJ:Option Int→Value
 |none=> .nilIface
 |some c=> .iface 0 (.int .i64 c)
theorem dU:fJ none= .nilIface:=rfl
theorem dX(c:Int):fJ (some c)= .iface 0 (.int .i64 c):=rfl
end Go.Proofs.YtndkmnjbjlfeaaaGreat.XK
end
section
namespace Go.Proofs.YtndkmnjbjlfeaaaGreat.XW
open Go.RowKit Go.Proofs.YtndkmnjbjlfeaaaGreat.XR Go.Proofs.YtndkmnjbjlfeaaaGreat.XT Go.Proofs.YtndkmnjbjlfeaaaGreat.XS Go.Proofs.YtndkmnjbjlfeaaaGreatW.PrintWords Go.Proofs.YtndkmnjbjlfeaaaGreatW.PrintLast Go.Proofs.YtndkmnjbjlfeaaaGreatW.PrintMore
attribute [local go_sem] bU bS ct cr bw bz bP bT
set_option linter.unusedVariables false
set_option linter.unusedSimpArgs false
def fJ:Option Int→Value
 |none=> .nilIface
 |some c=> .iface 0 (.int .i64 c)
theorem dU:fJ none= .nilIface:=rfl
theorem dX(c:Int):fJ (some c)= .iface 0 (.int .i64 c):=rfl
theorem gE:(Tryz.prog.info? 22).map (fun i=>(i.zero,i.size,i.bytes))=some (some (.int .u64 0),1,8):=by kernel_rfl
end Go.Proofs.YtndkmnjbjlfeaaaGreat.XW
end
section
namespace Go.Proofs.YtndkmnjbjlfeaaaGreat.XG
open Go.RowKit Go.Proofs.YtndkmnjbjlfeaaaGreat.XW Go.Proofs.YtndkmnjbjlfeaaaGreat.XR Go.Proofs.YtndkmnjbjlfeaaaGreat.XT Go.Proofs.YtndkmnjbjlfeaaaGreat.XS Go.Proofs.YtndkmnjbjlfeaaaGreatW.PrintWords Go.Proofs.YtndkmnjbjlfeaaaGreatW.PrintLast Go.Proofs.YtndkmnjbjlfeaaaGreatW.PrintMore
attribute [local go_sem] bU bS ct cr bw bz bP bT
set_option linter.unusedVariables false
set_option linter.unusedSimpArgs false
def fJ:Option Int→Value
 |none=> .nilIface
 |some c=> .iface 0 (.int .i64 c)
theorem dU:fJ none= .nilIface:=rfl
theorem dX(c:Int):fJ (some c)= .iface 0 (.int .i64 c):=rfl
theorem gE:(Tryz.prog.info? 22).map (fun i=>(i.zero,i.size,i.bytes))=some (some (.int .u64 0),1,8):=by kernel_rfl
theorem ko:(Tryz.prog.info? 94).map (fun i=>(i.zero,i.size,i.bytes))=some (some (.agg #[(.int .u64 0),(.int .u64 0),(.slice none 0 0)]),3,40):=by kernel_rfl
theorem jO:(Tryz.prog.info? 147).map (fun i=>(i.zero,i.size,i.bytes))=some (some (.agg #[(.int .u64 0),(.int .i64 0)]),2,16):=by kernel_rfl
end Go.Proofs.YtndkmnjbjlfeaaaGreat.XG
end
section
namespace Go.Proofs.YtndkmnjbjlfeaaaGreat.XM
open Go.RowKit Go.Proofs.YtndkmnjbjlfeaaaGreat.XG Go.Proofs.YtndkmnjbjlfeaaaGreat.XW Go.Proofs.YtndkmnjbjlfeaaaGreat.XR Go.Proofs.YtndkmnjbjlfeaaaGreat.XT Go.Proofs.YtndkmnjbjlfeaaaGreat.XS Go.Proofs.YtndkmnjbjlfeaaaGreatW.PrintWords Go.Proofs.YtndkmnjbjlfeaaaGreatW.PrintLast Go.Proofs.YtndkmnjbjlfeaaaGreatW.PrintMore
attribute [local go_sem] bU bS ct cr bw bz bP bT
set_option linter.unusedVariables false
set_option linter.unusedSimpArgs false
def fJ:Option Int→Value
 |none=> .nilIface
 |some c=> .iface 0 (.int .i64 c)
theorem dU:fJ none= .nilIface:=rfl
theorem dX(c:Int):fJ (some c)= .iface 0 (.int .i64 c):=rfl
theorem pj:(Tryz.prog.info? 3).map (fun i=>(i.zero,i.size,i.bytes))=some (some (.int .i64 0),1,8):=by kernel_rfl
theorem gE:(Tryz.prog.info? 22).map (fun i=>(i.zero,i.size,i.bytes))=some (some (.int .u64 0),1,8):=by kernel_rfl
theorem ko:(Tryz.prog.info? 94).map (fun i=>(i.zero,i.size,i.bytes))=some (some (.agg #[(.int .u64 0),(.int .u64 0),(.slice none 0 0)]),3,40):=by kernel_rfl
theorem jO:(Tryz.prog.info? 147).map (fun i=>(i.zero,i.size,i.bytes))=some (some (.agg #[(.int .u64 0),(.int .i64 0)]),2,16):=by kernel_rfl
end Go.Proofs.YtndkmnjbjlfeaaaGreat.XM
end
section
namespace Go.Proofs.YtndkmnjbjlfeaaaGreat.XC
open Go.RowKit Go.Proofs.YtndkmnjbjlfeaaaGreat.XM Go.Proofs.YtndkmnjbjlfeaaaGreat.XG Go.Proofs.YtndkmnjbjlfeaaaGreat.XW Go.Proofs.YtndkmnjbjlfeaaaGreat.XR Go.Proofs.YtndkmnjbjlfeaaaGreat.XT Go.Proofs.YtndkmnjbjlfeaaaGreat.XS Go.Proofs.YtndkmnjbjlfeaaaGreatW.PrintWords Go.Proofs.YtndkmnjbjlfeaaaGreatW.PrintLast Go.Proofs.YtndkmnjbjlfeaaaGreatW.PrintMore
attribute [local go_sem] bU bS ct cr bw bz bP bT
set_option linter.unusedVariables false
set_option linter.unusedSimpArgs false
def fJ:Option Int→Value
 |none=> .nilIface
 |some c=> .iface 0 (.int .i64 c)
theorem dU:fJ none= .nilIface:=rfl
theorem dX(c:Int):fJ (some c)= .iface 0 (.int .i64 c):=rfl
theorem gE:(Tryz.prog.info? 22).map (fun i=>(i.zero,i.size,i.bytes))=some (some (.int .u64 0),1,8):=by kernel_rfl
theorem ko:(Tryz.prog.info? 94).map (fun i=>(i.zero,i.size,i.bytes))=some (some (.agg #[(.int .u64 0),(.int .u64 0),(.slice none 0 0)]),3,40):=by kernel_rfl
theorem jO:(Tryz.prog.info? 147).map (fun i=>(i.zero,i.size,i.bytes))=some (some (.agg #[(.int .u64 0),(.int .i64 0)]),2,16):=by kernel_rfl
end Go.Proofs.YtndkmnjbjlfeaaaGreat.XC
end
section
namespace Go.Proofs.YtndkmnjbjlfeaaaGreat.XE
open Go.RowKit Go.Proofs.YtndkmnjbjlfeaaaGreat.XC Go.Proofs.YtndkmnjbjlfeaaaGreat.XM Go.Proofs.YtndkmnjbjlfeaaaGreat.XG Go.Proofs.YtndkmnjbjlfeaaaGreat.XW Go.Proofs.YtndkmnjbjlfeaaaGreat.XR Go.Proofs.YtndkmnjbjlfeaaaGreat.XT Go.Proofs.YtndkmnjbjlfeaaaGreat.XS Go.Proofs.YtndkmnjbjlfeaaaGreatW.PrintWords Go.Proofs.YtndkmnjbjlfeaaaGreatW.PrintLast Go.Proofs.YtndkmnjbjlfeaaaGreatW.PrintMore
attribute [local go_sem] bU bS ct cr bw bz bP bT
set_option linter.unusedVariables false
set_option linter.unusedSimpArgs false
def fJ:Option Int→Value
 |none=> .nilIface
 |some c=> .iface 0 (.int .i64 c)
theorem dU:fJ none= .nilIface:=rfl
theorem dX(c:Int):fJ (some c)= .iface 0 (.int .i64 c):=rfl
theorem pj:(Tryz.prog.info? 3).map (fun i=>(i.zero,i.size,i.bytes))=some (some (.int .i64 0),1,8):=by kernel_rfl
theorem gE:(Tryz.prog.info? 22).map (fun i=>(i.zero,i.size,i.bytes))=some (some (.int .u64 0),1,8):=by kernel_rfl
end Go.Proofs.YtndkmnjbjlfeaaaGreat.XE
end
