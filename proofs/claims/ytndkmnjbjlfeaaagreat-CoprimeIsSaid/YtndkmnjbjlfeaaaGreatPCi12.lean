/- Parts of this claim's texts, packed by wip/tools/prune.py: what the proof does not reach is left out. -/
import Derived.Test.YtndkmnjbjlfeaaaGreatPCi11
section
namespace Go.Proofs.YtndkmnjbjlfeaaaGreat.D11
open Go Go.RowKit Go.Proofs.YtndkmnjbjlfeaaaGreatW.PrintWords Go.Proofs.YtndkmnjbjlfeaaaGreat.M Go.Proofs.YtndkmnjbjlfeaaaGreat.Mont Go.Proofs.YtndkmnjbjlfeaaaGreat.Num Go.Proofs.YtndkmnjbjlfeaaaGreat.F06 Go.Proofs.YtndkmnjbjlfeaaaGreat.T10
theorem mu(f:Nat→Int)(r m:Nat):cx f (r*m)=cx (fun t=>cx (fun q=>f (t*r+q)) r) m:=by
 induction m with
 |zero=>rfl
 |succ m ih=>
  rw[Nat.mul_succ,kF,ih,dB]
  exact congrArg (_+ ·) (cw fun q _=>by rw[Nat.mul_comm])
theorem tq(f:Nat→Int)(r m:Nat):cx f (r*m)=cx (fun q=>cx (fun t=>f (t*r+q)) m) r:=by
 rw[mu,ka]
theorem tF(w:Int)(f:Nat→Int)(r m i:Nat):cQ w f (r*m) i=cx (fun q=>w^(q*i)*cQ (w^r) (fun t=>f (t*r+q)) m i) r:=by
 unfold cQ
 rw[tq]
 refine cw fun q _=>?_
 rw[←iD]
 refine cw fun t _=>?_
 rw[←Int.pow_mul,←Int.mul_assoc,←Int.pow_add]
 congr 2
 rw[Nat.mul_add,Nat.mul_comm q i,←Nat.mul_assoc,Nat.mul_comm i t,Nat.mul_comm r,Nat.mul_assoc t i r,Nat.mul_comm i r,←Nat.mul_assoc,Nat.add_comm,Nat.mul_assoc,Nat.mul_comm r i,←Nat.mul_assoc]
theorem fA{p w:Int}{n:Nat}(hp:(1:Int)%p=1)(h:w^n%p=1)(a:Nat):w^a%p=w^(a%n)%p:=by
 have h1:w^(n*(a/n))%p=1:=by
  rw[Int.pow_mul,←dO,h,Int.one_pow,hp]
 have e:w^a=w^(n*(a/n))*w^(a%n):=by rw[←Int.pow_add,Nat.div_add_mod]
 rw[e,←bj,h1,Int.one_mul]
theorem lO{p w:Int}{n:Nat}(hp:(1:Int)%p=1)(h:w^n%p=1)(f:Nat→Int)(i:Nat):cQ w f n i%p=cQ w f n (i%n)%p:=by
 refine fB fun j _=>eL ?_ rfl
 rw[fA hp h (i*j),fA hp h (i%n*j)]
 congr 2
 rw[Nat.mul_mod i j n,Nat.mul_mod (i%n) j n,Nat.mod_mod]
def bp:List Nat→Nat
 |[]=>1
 |r::rs=>r*bp rs
def yf:List Nat→Int→(Nat→Int)→Nat→Int
 |[],_,f,_=>f 0
 |r::rs,w,f,i=>cx (fun q=>w^(q*i)*yf rs (w^r) (fun t=>f (t*r+q)) (i%bp rs)) r
theorem sA{p:Int}(hp:(1:Int)%p=1): ∀(rs:List Nat) (w:Int) (f:Nat→Int) (i:Nat),w^bp rs%p=1→yf rs w f i%p=cQ w f (bp rs) i%p
 |[],w,f,i,_=>by
  have e:cQ w f (bp []) i=f 0:=by
   show 0+w^(i*0)*f 0=f 0
   rw[Nat.mul_zero,Int.pow_zero,Int.one_mul,Int.zero_add]
  rw[e]
  rfl
 |r::rs,w,f,i,h=>by
  have h':(w^r)^bp rs%p=1:=by rw[←Int.pow_mul];exact h
  have e:cQ w f (bp (r::rs)) i=cx (fun q=>w^(q*i)*cQ (w^r) (fun t=>f (t*r+q)) (bp rs) i) r:=tF w f r (bp rs) i
  rw[e]
  show cx (fun q=>w^(q*i)*yf rs (w^r) (fun t=>f (t*r+q)) (i%bp rs)) r%p=_
  refine fB fun q _=>eL rfl ?_
  rw[sA hp rs _ _ _ h',←lO hp h']
def eS:List Nat→Nat→Nat
 |[],_=>0
 |r::rs,i=>(i%r)*bp rs+eS rs (i/r)
theorem vx{r:Nat}{rs:List Nat}{t q:Nat}(hq:q<r):eS (r::rs) (t*r+q)=q*bp rs+eS rs t:=by
 show((t*r+q)%r)*bp rs+eS rs ((t*r+q)/r)=_
 rw[Nat.mul_comm t r,Nat.mul_add_mod,Nat.mod_eq_of_lt hq,Nat.mul_add_div (by omega),Nat.div_eq_of_lt hq,Nat.add_zero]
theorem wh{r m t q:Nat}(ht:t<m)(hq:q<r):t*r+q<r*m:=by
 have:(t+1)*r≤m*r:=Nat.mul_le_mul_right r ht
 rw[Nat.succ_mul] at this
 rw[Nat.mul_comm r m]
 omega
theorem kJ: ∀(rs:List Nat) (i:Nat),i<bp rs→eS rs i<bp rs
 |[],_,_=>Nat.one_pos
 |r::rs,i,h=>by
  have hr:0<r:=Nat.pos_of_ne_zero fun c=>by subst c;simp[bp] at h
  have h2:i/r<bp rs:=Nat.div_lt_of_lt_mul h
  have:=kJ rs _ h2
  have h1:i%r<r:=Nat.mod_lt _ hr
  show(i%r)*bp rs+eS rs (i/r)<r*bp rs
  have:(i%r+1)*bp rs≤r*bp rs:=Nat.mul_le_mul_right _ h1
  rw[Nat.succ_mul] at this
  omega
def wH:List Nat→Int→(Nat→Int)→Nat→Int
 |[],_,g,_=>g 0
 |r::rs,w,g,i=>cx (fun q=>w^(q*i)*wH rs (w^r) (fun t=>g (q*bp rs+t)) (i%bp rs)) r
theorem pD: ∀(rs:List Nat) (w:Int) (f g:Nat→Int),(∀t,t<bp rs→g (eS rs t)=f t)→ ∀i,wH rs w g i=yf rs w f i
 |[],_,_,_,h,_=>h 0 Nat.one_pos
 |r::rs,w,f,g,h,i=>by
  refine cw fun q hq=>congrArg (_* ·) (pD rs _ _ _ (fun t ht=>?_) _)
  rw[←vx hq]
  exact h _ (wh ht hq)
theorem yu{p:Int}(hp:(1:Int)%p=1){rs:List Nat}{w:Int}{f g:Nat→Int}(h:w^bp rs%p=1)(hg: ∀t,t<bp rs→g (eS rs t)=f t)(i:Nat):wH rs w g i%p=cQ w f (bp rs) i%p:=by
 rw[pD rs w f g hg i,sA hp rs w f i h]
end Go.Proofs.YtndkmnjbjlfeaaaGreat.D11
end
section
namespace Go.Proofs.YtndkmnjbjlfeaaaGreat.D11
open Go Go.RowKit Go.Proofs.YtndkmnjbjlfeaaaGreatW.PrintWords Go.Proofs.YtndkmnjbjlfeaaaGreat.M Go.Proofs.YtndkmnjbjlfeaaaGreat.Mont Go.Proofs.YtndkmnjbjlfeaaaGreat.Num Go.Proofs.YtndkmnjbjlfeaaaGreat.F06 Go.Proofs.YtndkmnjbjlfeaaaGreat.T10
theorem na{f:Nat→Int}{n:Nat}(h: ∀i,i<n→f i=0):cx f n=0:=(cw h).trans (j8 n)
theorem mU(f:Nat→Int){n k:Nat}(hk:k<n):cx (fun m=>if k=m then f m else 0) n=f k:=by
 induction n with
 |zero=>omega
 |succ n ih=>
  rw[dB]
  by_cases c:k=n
  ·subst c
   rw[if_pos rfl,na (fun i hi=>if_neg (by omega)),Int.zero_add]
  ·rw[if_neg c,ih (by omega),Int.add_zero]
theorem qq{f:Nat→Int}{n:Nat}(h: ∀i,i<n→0≤f i):0≤cx f n:=by
 induction n with
 |zero=>exact Int.le_refl 0
 |succ n ih=>
  have:=ih (fun i hi=>h i (by omega))
  have:=h n (by omega)
  rw[dB]
  omega
theorem nN{f:Nat→Int}{n:Nat}(h: ∀i,i<n→0≤f i)(hs:cx f n=0): ∀i,i<n→f i=0:=by
 induction n with
 |zero=>intro i hi;omega
 |succ n ih=>
  intro i hi
  have h1:0≤cx f n:=qq (fun i hi=>h i (by omega))
  have h2:=h n (by omega)
  rw[dB] at hs
  by_cases c:i=n
  ·subst c;omega
  ·exact ih (fun i hi=>h i (by omega)) (by omega) i (by omega)
theorem qv{P:Nat→Prop} [DecidablePred P]{n:Nat}(h: ∀i j,i<n→j<n→P i→P j→i=j):cx (fun i=>if P i then 1 else 0) n≤1:=by
 induction n with
 |zero=>show(0:Int)≤1;decide
 |succ n ih=>
  rw[dB]
  by_cases c:P n
  ·rw[if_pos c,na (fun i hi=>if_neg fun hp=>by have:=h i n (by omega) (by omega) hp c;omega)]
   decide
  ·rw[if_neg c,Int.add_zero]
   exact ih fun i j hi hj=>h i j (by omega) (by omega)
theorem nf(n:Nat):cx (fun _=>1) n=n:=by
 induction n with
 |zero=>rfl
 |succ n ih=>rw[dB,ih];omega
theorem tP{φ:Nat→Nat}{n:Nat}(hl: ∀i,i<n→φ i<n)(hi: ∀i j,i<n→j<n→φ i=φ j→i=j)(f:Nat→Int):cx (fun i=>f (φ i)) n=cx f n:=by
 have hc: ∀m,m<n→cx (fun i=>if φ i=m then(1:Int) else 0) n=1:=by
  have h0:cx (fun m=>1-cx (fun i=>if φ i=m then(1:Int) else 0) n) n=0:=by
   have e:cx (fun m=>1-cx (fun i=>if φ i=m then(1:Int) else 0) n) n=cx (fun m=>1+(-1)*cx (fun i=>if φ i=m then(1:Int) else 0) n) n:=cw fun m _=>by omega
   have e2:cx (fun m=>cx (fun i=>if φ i=m then(1:Int) else 0) n) n=n:=by
    rw[ka,cw (g:=fun _=>1) (fun i h=>mU (fun _=>1) (hl i h)),nf]
   rw[e,qR,iD,e2,nf]
   omega
  intro m hm
  have:=nN (fun m hm=>by have:=qv (P:=fun i=>φ i=m) (n:=n) (fun i j h h' e e'=>hi i j h h' (e.trans e'.symm));omega) h0 m hm
  omega
 have e1:cx (fun i=>f (φ i)) n=cx (fun i=>cx (fun m=>if φ i=m then f m else 0) n) n:=cw fun i h=>(mU f (hl i h)).symm
 rw[e1,ka]
 refine cw fun m hm=>?_
 have e2:cx (fun i=>if φ i=m then f m else 0) n=cx (fun i=>f m*(if φ i=m then 1 else 0)) n:=cw fun i _=>by
  by_cases c:φ i=m
  ·rw[if_pos c,if_pos c,Int.mul_one]
  ·rw[if_neg c,if_neg c,Int.mul_zero]
 rw[e2,iD,hc m hm,Int.mul_one]
theorem ng{a b i j:Nat}(h:Nat.Coprime a b)(hi:i<a)(hj:j<a)(e:b*i%a=b*j%a):i=j:=by
 have key: ∀x y:Nat,x≤y→y<a→b*x%a=b*y%a→x=y:=by
  intro x y hxy hy e
  have h1:(b*y-b*x)%a=0:=Nat.sub_mod_eq_zero_of_mod_eq e.symm
  rw[←Nat.mul_sub] at h1
  have h2:a∣y-x:=h.dvd_of_dvd_mul_left (Nat.dvd_of_mod_eq_zero h1)
  by_cases c:y-x=0
  ·omega
  ·have:=Nat.le_of_dvd (by omega) h2
   omega
 rcases Nat.le_total i j with c|c
 ·exact key i j c hj e
 ·exact(key j i c hi e.symm).symm
theorem uk{a b:Nat}(hab:Nat.Coprime a b){i j i' j':Nat}(hi:i<a)(hj:j<b)(hi':i'<a)(hj':j'<b)(h:(b*i+a*j)% (a*b)=(b*i'+a*j')% (a*b)):i=i'∧j=j':=by
 have ha:=congrArg (· %a) h
 have hb:=congrArg (· %b) h
 simp only[Nat.mod_mul_right_mod,Nat.mod_mul_left_mod,Nat.add_mul_mod_self_left,Nat.mul_add_mod] at ha hb
 exact⟨ng hab hi hi' ha,ng hab.symm hj hj' hb⟩
theorem rL{a b:Nat}(hab:Nat.Coprime a b)(f:Nat→Int):cx f (a*b)=cx (fun i=>cx (fun j=>f ((b*i+a*j)% (a*b))) b) a:=by
 have e:cx (fun i=>cx (fun j=>f ((b*i+a*j)% (a*b))) b) a=cx (fun t=>f ((b*(t/b)+a*(t%b))% (a*b))) (a*b):=by
  rw[Nat.mul_comm a b,mu]
  refine cw fun i hi=>cw fun j hj=>?_
  have h1:(i*b+j)/b=i:=by rw[Nat.mul_comm i b,Nat.mul_add_div (by omega),Nat.div_eq_of_lt hj,Nat.add_zero]
  have h2:(i*b+j)%b=j:=by rw[Nat.mul_comm i b,Nat.mul_add_mod,Nat.mod_eq_of_lt hj]
  show _=f ((b*((i*b+j)/b)+a*((i*b+j)%b))%_)
  rw[h1,h2]
 rw[e]
 refine(tP (φ:=fun t=>(b*(t/b)+a*(t%b))% (a*b)) (fun t ht=>Nat.mod_lt _ (by omega)) (fun s t hs ht h=>?_) f).symm
 have hb:0<b:=Nat.pos_of_ne_zero fun c=>by subst c;omega
 have d1:s/b<a:=Nat.div_lt_of_lt_mul (by rw[Nat.mul_comm];exact hs)
 have d2:t/b<a:=Nat.div_lt_of_lt_mul (by rw[Nat.mul_comm];exact ht)
 obtain⟨h1,h2⟩:=uk hab d1 (Nat.mod_lt _ hb) d2 (Nat.mod_lt _ hb) h
 rw[←Nat.div_add_mod s b,←Nat.div_add_mod t b,h1,h2]
theorem tw{p w:Int}{a b:Nat}(hp:(1:Int)%p=1)(hab:Nat.Coprime a b)(hw:w^(a*b)%p=1)(f:Nat→Int)(k:Nat):
  cQ w f (a*b) k%p=cQ (w^b) (fun i=>cQ (w^a) (fun j=>f ((b*i+a*j)% (a*b))) b (k%b)) a (k%a)%p:=by
 have ha:(w^b)^a%p=1:=by rw[←Int.pow_mul,Nat.mul_comm];exact hw
 have hb:(w^a)^b%p=1:=by rw[←Int.pow_mul];exact hw
 rw[←lO hp ha]
 have e:cQ w f (a*b) k=cx (fun i=>cx (fun j=>w^(k*((b*i+a*j)% (a*b)))*f ((b*i+a*j)% (a*b))) b) a:=rL hab (fun m=>w^(k*m)*f m)
 rw[e]
 refine fB fun i _=>?_
 have e2:(w^b)^(k*i)*cQ (w^a) (fun j=>f ((b*i+a*j)% (a*b))) b (k%b)%p=(w^b)^(k*i)*cQ (w^a) (fun j=>f ((b*i+a*j)% (a*b))) b k%p:=eL rfl (lO hp hb _ _).symm
 rw[e2]
 unfold cQ
 rw[←iD]
 refine fB fun j _=>?_
 rw[←Int.mul_assoc]
 refine eL ?_ rfl
 rw[←Int.pow_mul,←Int.pow_mul,←Int.pow_add,fA hp hw,fA hp hw (b*(k*i)+a*(k*j))]
 rw[Nat.mul_mod k,Nat.mod_mod,←Nat.mul_mod,Nat.mul_add,Nat.mul_left_comm k b i,Nat.mul_left_comm k a j]
end Go.Proofs.YtndkmnjbjlfeaaaGreat.D11
end
section
namespace Go.Proofs.YtndkmnjbjlfeaaaGreat.XW
open Go Go.RowKit Go.Proofs.YtndkmnjbjlfeaaaGreatW.PrintWords Go.Proofs.YtndkmnjbjlfeaaaGreatW.PrintLast Go.Proofs.YtndkmnjbjlfeaaaGreatW.PrintMore Go.Proofs.YtndkmnjbjlfeaaaGreat.Given Go.Proofs.YtndkmnjbjlfeaaaGreat.M Go.Proofs.YtndkmnjbjlfeaaaGreat.Mont Go.Proofs.YtndkmnjbjlfeaaaGreat.XS Go.Proofs.YtndkmnjbjlfeaaaGreat.XT Go.Proofs.YtndkmnjbjlfeaaaGreat.XR Go.Proofs.YtndkmnjbjlfeaaaGreat.F06
def ks(l0:List ct)(x:Int):Int:=match l0 with
 |[]=>0
 |F::_=>iM F.p x
theorem xw{l0:List ct}{x:Int}(h:U x):ck.f l0 x=some (ks l0 x):=by
 unfold ck.f ks
 rw[if_pos h]
 cases l0<;>rfl
noncomputable def dS.f(k:Nat)(l0:List ct)(a1:Int)(a2:Bool):Option (List Int×Int):=
 (cA.f k l0 a1 a2).bind fun t=>if(∀x∈t.1,U x)∧t.1.length≤1000000 then some (t.1.map (ks l0),t.2) else none
def my(l0:List ct)(t:List Int)(i:Nat):List Int:=(t.take i).map (ks l0)++t.drop i
theorem yo(l0:List ct){t:List Int}{i:Nat}(h:i≤t.length):(my l0 t i).length=t.length:=by
 unfold my
 rw[List.length_append,List.length_map,List.length_take,List.length_drop]
 omega
theorem zZ(l0:List ct){t:List Int}{i:Nat}(h:i<t.length):(my l0 t i).getD i 0=t[i]:=by
 unfold my
 have hl:((t.take i).map (ks l0)).length=i:=by rw[List.length_map,List.length_take];omega
 rw[List.getD_eq_getElem?_getD,List.getElem?_append_right (by omega),hl,Nat.sub_self,List.getElem?_drop,Nat.add_zero,List.getElem?_eq_getElem h]
 rfl
theorem ye(l0:List ct){t:List Int}{i:Nat}(h:i<t.length):(my l0 t i).set i (ks l0 t[i])=my l0 t (i+1):=by
 unfold my
 have hl:((t.take i).map (ks l0)).length=i:=by rw[List.length_map,List.length_take];omega
 rw[List.set_append_right _ _ (by omega),hl,Nat.sub_self,List.drop_eq_getElem_cons h,List.set_cons_zero,List.take_succ_eq_append_getElem h,List.map_append,List.append_assoc]
 rfl
set_option maxHeartbeats 4000000 in
set_option maxRecDepth 100000 in
theorem dS.calls(k:Nat)(A0:Option Addr)(c0:Nat)(l0:List (ct))(a1:Int)(a2:Bool)(r1:List Int)(r2:Int)(w:World)(hr0:Kd.C fK w A0 l0.length l0)(hc0:l0.length≤c0)(h:dS.f k l0 a1 a2=some (r1,r2)):
  Calls Tryz.prog 66 #[bh (.slice A0 l0.length c0), .int .i64 a1, .bool a2] w fun e w'=> ∃v0_:Value,e= .returned (.tuple #[v0_, .int .i64 r2])∧Kd.R (Kd.int .u64) 22 w' w.heap.size (fun _=>True) v0_ r1∧Below w.heap.size w w':=by
 unfold dS.f at h
 obtain⟨⟨t1,t2⟩,hA,h⟩:=Option.bind_eq_some_iff.1 h
 simp only at h
 split at h
 case isFalse=>cases h
 rename_i hu
 obtain⟨rfl,rfl⟩:=Prod.mk.inj (Option.some.inj h)
 obtain⟨hu,hn⟩:=hu
 have HA:=aa.mk hA
 have HR0:=aa.mk hr0
 have HC0:=aa.mk hc0
 have HU:=aa.mk hu
 have HN:=aa.mk hn
 clear hA hr0 hc0 hu hn h
 go_enter Tryz.func66,Tryz.ntmps66
 go_wp2_with (first
  |(go_at_call 103;(with_reducible refine(cA.calls k A0 c0 l0 a1 a2 t1 t2 _ HR0.out HC0.out HA.out).mono ?_);rintro e w1 ⟨v1,rfl,ho,hb⟩;obtain⟨A1,c1,rfl⟩:=Kd.bF ho;have HO1:=aa.mk ho;have HB1:=aa.mk hb;clear ho hb))
 clear HA
 go_loopw [21] (fun v21 wr=> ∃(x:Int),v21= .int .i64 x∧0≤x∧x≤(t1.length:Int)∧aa (Kd.R (Kd.int .u64) 22 wr w.heap.size (fun _=>True) (.slice A1 t1.length c1) (my l0 t1 x.toNat))∧aa (Below w.heap.size w wr)) (fun v21 _=>t1.length-(intOf v21).toNat)
 case atStart=>exact⟨0,rfl,Int.le_refl _,Int.natCast_nonneg _,⟨HO1.out⟩,⟨HB1.out⟩⟩
 case round=>
  clear HO1 HB1
  obtain⟨x,rfl,h0,hx,HO,HB⟩:=hrel
  by_cases hlt:x<(t1.length:Int)
  ·have c1b0:decide (x<(t1.length:Int))=true:=decide_eq_true hlt
   have hi:x.toNat<t1.length:=by omega
   obtain⟨y,hy⟩: ∃y,y=t1[x.toNat]:=⟨_,rfl⟩
   have hL:=xw (l0:=l0) (HU.out y (by rw[hy];exact List.getElem_mem hi))
   have hset:=ye l0 hi
   have hrd:=zZ l0 hi
   rw[←hy] at hset hrd
   have HL:=aa.mk hL
   have HS:=aa.mk hset
   have ml:=yo l0 (t:=t1) (i:=x.toNat) (by omega)
   obtain⟨g,cap,eo,gb,gl,HG⟩:=Kd.gu HO.out (by omega)
   injection eo with ea en ec
   subst ea
   have GB:=aa.mk gb
   obtain⟨hx_0,hf_0⟩:=Kd.eR 0 HO.out x h0 hlt
   have erd:uR 0 (my l0 t1 x.toNat) x=y:=hrd
   rw[erd] at hx_0
   have p1:=eq_true h0
   have q1:=eq_true hlt
   have HLT:=aa.mk hlt
   have H0:=aa.mk h0
   clear hL hset hrd ml en ec gb gl HG erd hy hi hlt hx h0
   go_wp2_with (first
    |(go_at_call 60;(with_reducible refine(ck.calls A0 c0 l0 y (ks l0 y) _ (Kd.bl HR0.out HB.out) HC0.out HL.out).mono ?_);rintro e w2 ⟨rfl,⟨nd,hnd⟩⟩;have HO2:aa (Kd.R (Kd.int .u64) 22 w2 w.heap.size (fun _=>True) (.slice (some ⟨g,0,none⟩) t1.length c1) (my l0 t1 x.toNat)):=⟨by rw[hnd];exact Kd.bL HO.out nd⟩;have HB2:aa (Below w.heap.size w w2):=⟨by rw[hnd];exact ay HB.out nd⟩;have hf2:w2.frozen? ⟨g,x.toNat,none⟩=false:=(by rw[hnd];exact hf_0);have hx2:w2.cell? ⟨g,x.toNat,none⟩=some (.int .u64 y):=(by rw[hnd];exact hx_0);clear hnd))
   go_roundw
   case rel=>
    have:=HLT.out
    have:=H0.out
    have hn:=HN.out
    exact⟨x+1,congrArg (Value.int .i64) (dd (x+1) (by omega) (by omega)),by omega,by omega,⟨by rw[show(x+1).toNat=x.toNat+1 by omega,←HS.out];exact(Kd.iZ HO2.out x (ks l0 y)).1⟩,⟨cq HB2.out GB.out⟩⟩
   case measure=>
    have:=HLT.out
    have:=H0.out
    have hn:=HN.out
    rw[dd (x+1) (by omega) (by omega)]
    simp[intOf];omega
  ·have c1b0:decide (x<(t1.length:Int))=false:=decide_eq_false hlt
   have hm:my l0 t1 x.toNat=t1.map (ks l0):=by
    unfold my
    rw[List.take_of_length_le (by omega),List.drop_eq_nil_of_le (by omega),List.append_nil]
   have HM:=aa.mk hm
   clear hm hlt hx h0
   go_wp2
   go_ret2
   exact⟨_,by first|rfl|(simp;done),by rw[←HM.out];exact HO.out,HB.out⟩
end Go.Proofs.YtndkmnjbjlfeaaaGreat.XW
end
section
namespace Go.Proofs.YtndkmnjbjlfeaaaGreat.XG
open Go.RowKit Go.Proofs.YtndkmnjbjlfeaaaGreat.Given Go.Proofs.YtndkmnjbjlfeaaaGreat.Row05 Go.Proofs.YtndkmnjbjlfeaaaGreat.XS Go.Proofs.YtndkmnjbjlfeaaaGreat.XT Go.Proofs.YtndkmnjbjlfeaaaGreat.XR Go.Proofs.YtndkmnjbjlfeaaaGreat.F06 Go.Proofs.YtndkmnjbjlfeaaaGreat.XK Go.Proofs.YtndkmnjbjlfeaaaGreat.XW Go.Proofs.YtndkmnjbjlfeaaaGreatW.PrintWords Go.Proofs.YtndkmnjbjlfeaaaGreatW.PrintLast Go.Proofs.YtndkmnjbjlfeaaaGreatW.PrintMore
attribute [local go_sem] bZ bW cC cB bG bH bX ca
set_option linter.unusedVariables false
set_option linter.unusedSimpArgs false
noncomputable def cU.f(a0:Int)(a1:Int)(a2:Int):Option (Int):=if a1<1 then(some 1) else(if a1>a2 then(some 13) else(if(IntKind.u64.wrap (a1))=0 then(none) else(if(Int.tmod (IntKind.u64.wrap (a0-1)) (IntKind.u64.wrap (a1)))=0 then(some 0) else(some 4))))
set_option maxHeartbeats 8000000 in
set_option maxRecDepth 100000 in
theorem cU.calls(a0:Int)(a1:Int)(a2:Int)(r:Int)(w:World)(h:cU.f a0 a1 a2=some r):
  Calls Tryz.prog 20 #[.int .u64 a0, .int .i64 a1, .int .i64 a2] w fun e w'=>e= .returned (.int .i64 r)∧al w w':=by
 have H:(if a1<1 then(some 1) else(if a1>a2 then(some 13) else(if(IntKind.u64.wrap (a1))=0 then(none) else(if(Int.tmod (IntKind.u64.wrap (a0-1)) (IntKind.u64.wrap (a1)))=0 then(some 0) else(some 4)))))=some r:=h
 clear h
 by_cases c4:a1<1
 ·rw[if_pos c4] at H
  have c4b0:decide (a1<1)=true:=decide_eq_true c4
  clear c4
  obtain rfl:=Option.some.inj H
  go_enter Tryz.func20,Tryz.ntmps20
  go_wp2
  go_ret
  exact⟨by first|rfl|(simp;done)|(simp[*];done),by repeat(first|exact al.refl _|apply al.step)⟩
 ·rw[if_neg c4] at H
  have c4b0:decide (a1<1)=false:=decide_eq_false c4
  clear c4
  by_cases c5:a1>a2
  ·rw[if_pos c5] at H
   have c5b0:decide (a2<a1)=true:=decide_eq_true c5
   clear c5
   obtain rfl:=Option.some.inj H
   go_enter Tryz.func20,Tryz.ntmps20
   go_wp2
   go_ret
   exact⟨by first|rfl|(simp;done)|(simp[*];done),by repeat(first|exact al.refl _|apply al.step)⟩
  ·rw[if_neg c5] at H
   have c5b0:decide (a2<a1)=false:=decide_eq_false c5
   clear c5
   by_cases c6:(IntKind.u64.wrap (a1))=0
   ·rw[if_pos c6] at H
    exact absurd H (by simp)
   ·rw[if_neg c6] at H
    have c6b0:((IntKind.u64.wrap (a1))==0)=false:=beq_eq_false_iff_ne.mpr c6
    have c6b1:((IntKind.u64.wrap (a1)) !=0)=true:=bne_iff_ne.mpr c6
    by_cases c7:(Int.tmod (IntKind.u64.wrap (a0-1)) (IntKind.u64.wrap (a1)))=0
    ·rw[if_pos c7] at H
     have c7b0:((Int.tmod (IntKind.u64.wrap (a0-1)) (IntKind.u64.wrap (a1)))==0)=true:=beq_iff_eq.mpr c7
     have c7b1:((Int.tmod (IntKind.u64.wrap (a0-1)) (IntKind.u64.wrap (a1))) !=0)=false:=bne_eq_false_iff_eq.mpr c7
     clear c7
     obtain rfl:=Option.some.inj H
     go_enter Tryz.func20,Tryz.ntmps20
     go_wp2
     go_ret
     exact⟨by first|rfl|(simp;done)|(simp[*];done),by repeat(first|exact al.refl _|apply al.step)⟩
    ·rw[if_neg c7] at H
     have c7b0:((Int.tmod (IntKind.u64.wrap (a0-1)) (IntKind.u64.wrap (a1)))==0)=false:=beq_eq_false_iff_ne.mpr c7
     have c7b1:((Int.tmod (IntKind.u64.wrap (a0-1)) (IntKind.u64.wrap (a1))) !=0)=true:=bne_iff_ne.mpr c7
     obtain rfl:=Option.some.inj H
     go_enter Tryz.func20,Tryz.ntmps20
     go_wp2
     go_ret
     exact⟨by first|rfl|(simp;done)|(simp[*];done),by repeat(first|exact al.refl _|apply al.step)⟩
noncomputable def bJ.l0:Nat→Int→List Int→Int→Int→Option (Bool)
 |0,_,_,_,_=>none
 |k+1,x0,x7,x8,x9=>if x9<x8 then(if 0≤x9 then(if x9<(x7.length:Int) then(if(rd x7 x9)≥x0 then(some false) else(bJ.l0 k x0 x7 x8 (wrap64 (x9+1)))) else(none)) else(none)) else(some true)
noncomputable def bJ.f(k:Nat)(a0:Int)(l1:List Int):Option (Bool):=bJ.l0 k a0 l1 (l1.length:Int) 0
set_option maxHeartbeats 8000000 in
set_option maxRecDepth 100000 in
theorem bJ.calls(k:Nat)(a0:Int)(A1:Option Addr)(c1:Nat)(l1:List Int)(r:Bool)(w:World)(hr1:Kd.C (Kd.int .u64) w A1 l1.length l1)(hc1:l1.length≤c1)(h:bJ.f k a0 l1=some r):
  Calls Tryz.prog 21 #[.int .u64 a0, .slice A1 l1.length c1] w fun e w'=>e= .returned (.bool r)∧al w w':=by
 have HR1:=aa.mk hr1
 have HC1:=aa.mk hc1
 clear hr1 hc1
 have H:(bJ.l0 k a0 l1 (l1.length:Int) 0)=some r:=h
 clear h
 have H':=aa.mk H
 clear H
 go_enter Tryz.func21,Tryz.ntmps21
 go_wp2
 go_loopg [9] k (fun kq v9 w'=> ∃(x9_1:Int),v9= .int .i64 x9_1∧aa (bJ.l0 kq a0 l1 (l1.length:Int) x9_1=some r)∧aa (kq≤k)∧al w w')
 case atStart=>exact⟨(0),(by first|rfl|(simp;done)|(simp[*];done)),H',⟨Nat.le_refl _⟩,by repeat(first|exact al.refl _|apply al.step)⟩
 case round=>
  clear H'
  try clear c1
  try clear c2
  try clear p2
  obtain⟨x9_1,rfl,HA,HK1,⟨m1,rfl⟩⟩:=hrel
  cases gk with
  |zero=>exact absurd HA.out (by simp[bJ.l0])
  |succ k1=>
   have H:=HA.out
   clear HA
   simp only[bJ.l0] at H
   by_cases c3:x9_1<(l1.length:Int)
   ·rw[if_pos c3] at H
    have c3b0:decide (x9_1<(l1.length:Int))=true:=decide_eq_true c3
    clear c3
    by_cases c4:0≤x9_1
    ·rw[if_pos c4] at H
     have c4b0:decide (0≤x9_1)=true:=decide_eq_true c4
     clear c4
     by_cases c5:x9_1<(l1.length:Int)
     ·rw[if_pos c5] at H
      have c5b0:decide (x9_1<(l1.length:Int))=true:=decide_eq_true c5
      clear c5
      by_cases c6:(rd l1 x9_1)≥a0
      ·rw[if_pos c6] at H
       have c6b0:decide (a0≤(rd l1 x9_1))=true:=decide_eq_true c6
       clear c6
       obtain rfl:=Option.some.inj H
       have p179:0≤(x9_1:Int):=of_decide_eq_true (by first|(with_reducible assumption)|assumption)
       have q179:x9_1<(l1.length:Int):=of_decide_eq_true (by first|(with_reducible assumption)|assumption)
       obtain⟨ad179,e179,hx179_0⟩:=Kd.cS HR1.out x9_1 p179 q179
       cases e179
       replace p179:=eq_true p179
       replace q179:=eq_true q179
       go_wp2
       go_ret
       exact⟨by first|rfl|(simp;done)|(simp[*];done),by repeat(first|exact al.refl _|apply al.step)⟩
      ·rw[if_neg c6] at H
       have c6b0:decide (a0≤(rd l1 x9_1))=false:=decide_eq_false c6
       clear c6
       have H':=aa.mk H
       clear H
       have p179:0≤(x9_1:Int):=of_decide_eq_true (by first|(with_reducible assumption)|assumption)
       have q179:x9_1<(l1.length:Int):=of_decide_eq_true (by first|(with_reducible assumption)|assumption)
       obtain⟨ad179,e179,hx179_0⟩:=Kd.cS HR1.out x9_1 p179 q179
       cases e179
       replace p179:=eq_true p179
       replace q179:=eq_true q179
       go_wp2
       go_roundg k1
       case measure=>have:=HK1.out;omega
       case rel=>exact⟨(wrap64 (x9_1+1)),(by first|rfl|(simp;done)|(simp[*];done)),H',⟨by have:=HK1.out;omega⟩,by repeat(first|exact al.refl _|apply al.step)⟩
     ·rw[if_neg c5] at H
      exact absurd H (by simp)
    ·rw[if_neg c4] at H
     exact absurd H (by simp)
   ·rw[if_neg c3] at H
    have c3b0:decide (x9_1<(l1.length:Int))=false:=decide_eq_false c3
    clear c3
    obtain rfl:=Option.some.inj H
    go_wp2
    go_ret
    exact⟨by first|rfl|(simp;done)|(simp[*];done),by repeat(first|exact al.refl _|apply al.step)⟩
noncomputable def bu.j0:Nat→Int→Int→Int→Bool→Option (Int)
 |0,_,_,_,_=>none
 |k+1,x0,x1,x2,x16=>if x16=true then(some 0) else(if(IntKind.u64.wrap (x2))=0 then(none) else((aM.f k x1 (IntKind.u64.wrap (Int.tdiv (IntKind.u64.wrap (x0-1)) (IntKind.u64.wrap (x2)))) x0).bind fun t180=>(some t180)))
noncomputable def bu.f(k:Nat)(a0:Int)(a1:Int)(a2:Int):Option (Int):=if a2<1 then(bu.j0 k a0 a1 a2 true) else(if(IntKind.u64.wrap (a2))=0 then(none) else(bu.j0 k a0 a1 a2 ((Int.tmod (IntKind.u64.wrap (a0-1)) (IntKind.u64.wrap (a2))) !=0)))
set_option maxHeartbeats 8000000 in
set_option maxRecDepth 100000 in
theorem bu.calls(k:Nat)(a0:Int)(a1:Int)(a2:Int)(r:Int)(w:World)(h:bu.f k a0 a1 a2=some r):
  Calls Tryz.prog 97 #[.int .u64 a0, .int .u64 a1, .int .i64 a2] w fun e w'=>e= .returned (.int .u64 r)∧al w w':=by
 have H:(if a2<1 then(bu.j0 k a0 a1 a2 true) else(if(IntKind.u64.wrap (a2))=0 then(none) else(bu.j0 k a0 a1 a2 ((Int.tmod (IntKind.u64.wrap (a0-1)) (IntKind.u64.wrap (a2))) !=0))))=some r:=h
 clear h
 have HC4:=aa.mk H
 clear H
 go_enter Tryz.func97,Tryz.ntmps97
 go_upto_region 1 with(fail)
 go_cut [16] (fun v16 wc=> ∃(kq:Nat) (x16_3:Bool),v16= .bool x16_3∧aa (bu.j0 kq a0 a1 a2 x16_3=some r)∧aa (kq≤k)∧al w wc)
 case first=>
  have H:=HC4.out
  clear HC4
  by_cases c5:a2<1
  ·rw[if_pos c5] at H
   have c5b0:decide (a2<1)=true:=decide_eq_true c5
   clear c5
   (first|rw[c5b0]|(simp only[bs,bY];rw[c5b0])|skip)
   have H':=aa.mk H
   clear H
   go_wp2
   go_meet
   case rel=>exact⟨_,(true),(by first|rfl|(simp;done)|(simp[*];done)),H',⟨by first|omega|exact Nat.le_refl _⟩,by repeat(first|exact al.refl _|apply al.step)⟩
  ·rw[if_neg c5] at H
   have c5b0:decide (a2<1)=false:=decide_eq_false c5
   clear c5
   (first|rw[c5b0]|(simp only[bs,bY];rw[c5b0])|skip)
   by_cases c6:(IntKind.u64.wrap (a2))=0
   ·rw[if_pos c6] at H
    exact absurd H (by simp)
   ·rw[if_neg c6] at H
    have c6b0:((IntKind.u64.wrap (a2))==0)=false:=beq_eq_false_iff_ne.mpr c6
    have c6b1:((IntKind.u64.wrap (a2)) !=0)=true:=bne_iff_ne.mpr c6
    have H':=aa.mk H
    clear H
    go_wp2
    go_meet
    case rel=>exact⟨_,(((Int.tmod (IntKind.u64.wrap (a0-1)) (IntKind.u64.wrap (a2))) !=0)),(by first|rfl|(simp;done)|(simp[*];done)),H',⟨by first|omega|exact Nat.le_refl _⟩,by repeat(first|exact al.refl _|apply al.step)⟩
 case rest=>
  clear HC4
  try clear p2
  try clear c5
  try clear c5b0
  try clear c6
  try clear c6b0
  try clear c6b1
  obtain⟨kq,x16_3,rfl,HA,HJ3,⟨mc3,rfl⟩⟩:=hcut
  cases kq with
  |zero=>exact absurd HA.out (by simp[bu.j0])
  |succ kj3=>
   have H:=HA.out
   clear HA
   simp only[bu.j0] at H
   by_cases c7:x16_3=true
   ·subst c7
    have H1:(some 0)=some r:=by rw[if_pos rfl] at H<;>exact H
    clear H
    have H:=H1
    clear H1
    obtain rfl:=Option.some.inj H
    go_wp2
    go_ret
    exact⟨by first|rfl|(simp;done)|(simp[*];done),by repeat(first|exact al.refl _|apply al.step)⟩
   ·replace c7:=Bool.eq_false_iff.mpr c7
    subst c7
    have H1:(if(IntKind.u64.wrap (a2))=0 then(none) else((aM.f kj3 a1 (IntKind.u64.wrap (Int.tdiv (IntKind.u64.wrap (a0-1)) (IntKind.u64.wrap (a2)))) a0).bind fun t180=>(some t180)))=some r:=by rw[if_neg (show¬(false=true) by decide)] at H<;>exact H
    clear H
    have H:=H1
    clear H1
    by_cases c8:(IntKind.u64.wrap (a2))=0
    ·rw[if_pos c8] at H
     exact absurd H (by simp)
    ·rw[if_neg c8] at H
     have c8b0:((IntKind.u64.wrap (a2))==0)=false:=beq_eq_false_iff_ne.mpr c8
     have c8b1:((IntKind.u64.wrap (a2)) !=0)=true:=bne_iff_ne.mpr c8
     replace H:=Option.bind_eq_some_iff.mp H
     obtain⟨t180,A90,H⟩:=H
     replace H:(some t180)=some r:=H
     have A9:=aa.mk A90
     clear A90
     obtain rfl:=Option.some.inj H
     go_wp2_with (first|((with_reducible refine aC (f:=30) rfl ?_);refine cf (some 24) rfl rfl Tryz.func30 (by kernel_rfl) rfl #[.int .u64 a1, .int .u64 (IntKind.u64.wrap (Int.tdiv (IntKind.u64.wrap (a0-1)) (IntKind.u64.wrap (a2)))), .int .u64 a0] rfl (by(try simp only[List.map_toArray,List.map_cons,List.map_nil]);first|done|rfl|(simp only[List.length_drop,List.length_take];rfl)) ?_;(with_reducible refine(aM.calls kj3 a1 (IntKind.u64.wrap (Int.tdiv (IntKind.u64.wrap (a0-1)) (IntKind.u64.wrap (a2)))) a0 t180 _ A9.out).mono ?_);rintro e w' ⟨rfl,⟨nd,rfl⟩⟩;refine⟨_,rfl,?_⟩))
     go_ret
     exact⟨by first|rfl|(simp;done)|(simp[*];done),by repeat(first|exact al.refl _|apply al.step)⟩
noncomputable def eA.f(k:Nat)(a0:Int)(a1:Int)(a2:Int)(a3:Bool):Option (Int×Int):=if a2<1 then(some (0,1)) else(if a2>4096 then(some (0,13)) else(if(IntKind.u64.wrap (a2))=0 then(none) else(if(Int.tmod (IntKind.u64.wrap (a0-1)) (IntKind.u64.wrap (a2)))=0 then((bu.f k a0 a1 a2).bind fun t181=>(if a3=true then((aM.f k t181 (IntKind.u64.wrap (wrap64 (a2-1))) a0).bind fun t182=>(some (t182,0))) else(some (t181,0)))) else(some (0,4)))))
set_option maxHeartbeats 8000000 in
set_option maxRecDepth 100000 in
theorem eA.calls(k:Nat)(a0:Int)(a1:Int)(a2:Int)(a3:Bool)(r1:Int)(r2:Int)(w:World)(h:eA.f k a0 a1 a2 a3=some (r1,r2)):
  Calls Tryz.prog 54 #[.int .u64 a0, .int .u64 a1, .int .i64 a2, .bool a3] w fun e w'=>e= .returned (.tuple #[.int .u64 r1, .int .i64 r2])∧al w w':=by
 have H:(if a2<1 then(some (0,1)) else(if a2>4096 then(some (0,13)) else(if(IntKind.u64.wrap (a2))=0 then(none) else(if(Int.tmod (IntKind.u64.wrap (a0-1)) (IntKind.u64.wrap (a2)))=0 then((bu.f k a0 a1 a2).bind fun t181=>(if a3=true then((aM.f k t181 (IntKind.u64.wrap (wrap64 (a2-1))) a0).bind fun t182=>(some (t182,0))) else(some (t181,0)))) else(some (0,4))))))=some (r1,r2):=h
 clear h
 by_cases c5:a2<1
 ·rw[if_pos c5] at H
  have c5b0:decide (a2<1)=true:=decide_eq_true c5
  clear c5
  simp only[Option.some.injEq,Prod.mk.injEq] at H
  obtain⟨rfl,rfl⟩:=H
  go_enter Tryz.func54,Tryz.ntmps54
  go_wp2
  go_ret2
  exact⟨by first|rfl|(simp;done)|(simp[*];done),by repeat(first|exact al.refl _|apply al.step)⟩
 ·rw[if_neg c5] at H
  have c5b0:decide (a2<1)=false:=decide_eq_false c5
  clear c5
  by_cases c6:a2>4096
  ·rw[if_pos c6] at H
   have c6b0:decide (4096<a2)=true:=decide_eq_true c6
   clear c6
   simp only[Option.some.injEq,Prod.mk.injEq] at H
   obtain⟨rfl,rfl⟩:=H
   go_enter Tryz.func54,Tryz.ntmps54
   go_wp2
   go_ret2
   exact⟨by first|rfl|(simp;done)|(simp[*];done),by repeat(first|exact al.refl _|apply al.step)⟩
  ·rw[if_neg c6] at H
   have c6b0:decide (4096<a2)=false:=decide_eq_false c6
   clear c6
   by_cases c7:(IntKind.u64.wrap (a2))=0
   ·rw[if_pos c7] at H
    exact absurd H (by simp)
   ·rw[if_neg c7] at H
    have c7b0:((IntKind.u64.wrap (a2))==0)=false:=beq_eq_false_iff_ne.mpr c7
    have c7b1:((IntKind.u64.wrap (a2)) !=0)=true:=bne_iff_ne.mpr c7
    by_cases c8:(Int.tmod (IntKind.u64.wrap (a0-1)) (IntKind.u64.wrap (a2)))=0
    ·rw[if_pos c8] at H
     have c8b0:((Int.tmod (IntKind.u64.wrap (a0-1)) (IntKind.u64.wrap (a2)))==0)=true:=beq_iff_eq.mpr c8
     have c8b1:((Int.tmod (IntKind.u64.wrap (a0-1)) (IntKind.u64.wrap (a2))) !=0)=false:=bne_eq_false_iff_eq.mpr c8
     clear c8
     replace H:=Option.bind_eq_some_iff.mp H
     obtain⟨t181,A90,H⟩:=H
     replace H:(if a3=true then((aM.f k t181 (IntKind.u64.wrap (wrap64 (a2-1))) a0).bind fun t182=>(some (t182,0))) else(some (t181,0)))=some (r1,r2):=H
     have A9:=aa.mk A90
     clear A90
     by_cases dR:a3=true
     ·subst dR
      have H1:((aM.f k t181 (IntKind.u64.wrap (wrap64 (a2-1))) a0).bind fun t182=>(some (t182,0)))=some (r1,r2):=by rw[if_pos rfl] at H<;>exact H
      clear H
      have H:=H1
      clear H1
      replace H:=Option.bind_eq_some_iff.mp H
      obtain⟨t182,A110,H⟩:=H
      replace H:(some (t182,0))=some (r1,r2):=H
      have A11:=aa.mk A110
      clear A110
      simp only[Option.some.injEq,Prod.mk.injEq] at H
      obtain⟨rfl,rfl⟩:=H
      go_enter Tryz.func54,Tryz.ntmps54
      go_wp2_with (first|((with_reducible refine aC (f:=97) rfl ?_);refine cf (some 24) rfl rfl Tryz.func97 (by kernel_rfl) rfl #[.int .u64 a0, .int .u64 a1, .int .i64 a2] rfl (by(try simp only[List.map_toArray,List.map_cons,List.map_nil]);first|done|rfl|(simp only[List.length_drop,List.length_take];rfl)) ?_;(with_reducible refine(bu.calls k a0 a1 a2 t181 _ A9.out).mono ?_);rintro e w' ⟨rfl,⟨nd,rfl⟩⟩;refine⟨_,rfl,?_⟩)|((with_reducible refine aC (f:=30) rfl ?_);refine cf (some 31) rfl rfl Tryz.func30 (by kernel_rfl) rfl #[.int .u64 t181, .int .u64 (IntKind.u64.wrap (wrap64 (a2-1))), .int .u64 a0] rfl (by(try simp only[List.map_toArray,List.map_cons,List.map_nil]);first|done|rfl|(simp only[List.length_drop,List.length_take];rfl)) ?_;(with_reducible refine(aM.calls k t181 (IntKind.u64.wrap (wrap64 (a2-1))) a0 t182 _ A11.out).mono ?_);rintro e w' ⟨rfl,⟨nd,rfl⟩⟩;refine⟨_,rfl,?_⟩))
      go_ret2
      exact⟨by first|rfl|(simp;done)|(simp[*];done),by repeat(first|exact al.refl _|apply al.step)⟩
     ·replace dR:=Bool.eq_false_iff.mpr dR
      subst dR
      have H1:(some (t181,0))=some (r1,r2):=by rw[if_neg (show¬(false=true) by decide)] at H<;>exact H
      clear H
      have H:=H1
      clear H1
      simp only[Option.some.injEq,Prod.mk.injEq] at H
      obtain⟨rfl,rfl⟩:=H
      go_enter Tryz.func54,Tryz.ntmps54
      go_wp2_with (first|((with_reducible refine aC (f:=97) rfl ?_);refine cf (some 24) rfl rfl Tryz.func97 (by kernel_rfl) rfl #[.int .u64 a0, .int .u64 a1, .int .i64 a2] rfl (by(try simp only[List.map_toArray,List.map_cons,List.map_nil]);first|done|rfl|(simp only[List.length_drop,List.length_take];rfl)) ?_;(with_reducible refine(bu.calls k a0 a1 a2 t181 _ A9.out).mono ?_);rintro e w' ⟨rfl,⟨nd,rfl⟩⟩;refine⟨_,rfl,?_⟩))
      go_ret2
      exact⟨by first|rfl|(simp;done)|(simp[*];done),by repeat(first|exact al.refl _|apply al.step)⟩
    ·rw[if_neg c8] at H
     have c8b0:((Int.tmod (IntKind.u64.wrap (a0-1)) (IntKind.u64.wrap (a2)))==0)=false:=beq_eq_false_iff_ne.mpr c8
     have c8b1:((Int.tmod (IntKind.u64.wrap (a0-1)) (IntKind.u64.wrap (a2))) !=0)=true:=bne_iff_ne.mpr c8
     simp only[Option.some.injEq,Prod.mk.injEq] at H
     obtain⟨rfl,rfl⟩:=H
     go_enter Tryz.func54,Tryz.ntmps54
     go_wp2
     go_ret2
     exact⟨by first|rfl|(simp;done)|(simp[*];done),by repeat(first|exact al.refl _|apply al.step)⟩
end Go.Proofs.YtndkmnjbjlfeaaaGreat.XG
end
section
namespace Go.Proofs.YtndkmnjbjlfeaaaGreat.XG
open Go.RowKit Go.Proofs.YtndkmnjbjlfeaaaGreat.Given Go.Proofs.YtndkmnjbjlfeaaaGreat.Row05 Go.Proofs.YtndkmnjbjlfeaaaGreat.XS Go.Proofs.YtndkmnjbjlfeaaaGreat.XT Go.Proofs.YtndkmnjbjlfeaaaGreat.XR Go.Proofs.YtndkmnjbjlfeaaaGreat.F06 Go.Proofs.YtndkmnjbjlfeaaaGreat.XK Go.Proofs.YtndkmnjbjlfeaaaGreat.XW Go.Proofs.YtndkmnjbjlfeaaaGreatW.PrintWords Go.Proofs.YtndkmnjbjlfeaaaGreatW.PrintLast Go.Proofs.YtndkmnjbjlfeaaaGreatW.PrintMore
attribute [local go_sem] bZ bW cC cB bG bH bX ca
set_option linter.unusedVariables false
set_option linter.unusedSimpArgs false
noncomputable def bB.l0:Nat→Int→Int→Int→List Int→Int→Int→Option (List Int)
 |0,_,_,_,_,_,_=>none
 |k+1,x0,x1,x2,x7,x8,x9=>if x9<x2 then(if x7.length<17592186044416 then((aD.f k x8 x1 x0).bind fun t186=>(bB.l0 k x0 x1 x2 (x7++[x8]) t186 (wrap64 (x9+1)))) else(none)) else(some x7)
noncomputable def bB.f(k:Nat)(a0:Int)(a1:Int)(a2:Int):Option (List Int):=bB.l0 k a0 a1 a2 ([]:List Int) 1 0
set_option maxHeartbeats 8000000 in
set_option maxRecDepth 100000 in
theorem bB.calls(k:Nat)(a0:Int)(a1:Int)(a2:Int)(r:List Int)(w:World)(h:bB.f k a0 a1 a2=some r):
  Calls Tryz.prog 55 #[.int .u64 a0, .int .u64 a1, .int .i64 a2] w fun e w'=> ∃v0_:Value,e= .returned (v0_)∧Kd.R (Kd.int .u64) 22 w' w.heap.size (fun _=>True) v0_ r∧Below w.heap.size w w':=by
 have HB:=aa.mk (Below.refl w.heap.size w)
 have H:=h;unfold bB.f at H
 clear h
 have H':=aa.mk H
 clear H
 go_enter Tryz.func55,Tryz.ntmps55
 go_wp2
 go_loopg [7,8,9] k (fun kq v7 v8 v9 w'=> ∃(x7_1:List Int) (x8_1:Int) (x9_1:Int),v8= .int .u64 x8_1∧v9= .int .i64 x9_1∧aa (bB.l0 kq a0 a1 a2 x7_1 x8_1 x9_1=some r)∧aa (kq≤k)∧aa (Kd.R (Kd.int .u64) 22 w' w.heap.size (fun _=>True) v7 x7_1)∧aa (Below w.heap.size w w'))
 case atStart=>exact⟨(([]:List Int)),(1),(0),ba,ba,H',⟨Nat.le_refl _⟩,⟨rQ⟩,⟨aj⟩⟩
 case round=>
  clear H'
  obtain⟨x7_1,x8_1,x9_1,rfl,rfl,HA,HK1,HO_7,HB⟩:=hrel
  cases gk with
  |zero=>exact absurd HA.out (by simp[bB.l0])
  |succ k1=>
   have H:=HA.out
   clear HA
   simp only[bB.l0] at H
   by_cases c4:x9_1<a2
   ·rw[if_pos c4] at H
    have c4b0:=decide_eq_true c4
    clear c4
    by_cases c5:x7_1.length<17592186044416
    ·rw[if_pos c5] at H
     have LMc5:=aa.mk c5
     clear c5
     obtain⟨y183,hy183⟩: ∃y_:List Int,y_=(x7_1++[x8_1]):=⟨_,rfl⟩
     replace H:((aD.f k1 x8_1 a1 a0).bind fun t186=>(bB.l0 k1 a0 a1 a2 y183 t186 (wrap64 (x9_1+1))))=some r:=by first|(rw[hy183];with_reducible exact H)|(have H2_:=(Option.bind_some _ _).symm.trans H;rw[hy183];with_reducible exact H2_)|(have H2_:=(Option.bind_some _ _).symm.trans H;with_reducible exact H2_)|with_reducible exact H|(rw[hy183];exact H)|exact H
     have Ny183:=aa.mk hy183
     clear hy183
     replace H:=Option.bind_eq_some_iff.mp H
     obtain⟨t186,A60,H⟩:=H
     (try dsimp only at H)
     have A6:=aa.mk A60
     clear A60
     have H':=aa.mk H
     clear H
     go_wp2_with (first|((with_reducible refine dm (b:= .append) (xs:= #[.tmp 15, .tmp 17]) rfl ?_);at_builtin;refine Kd.gP (Kd.int .u64) (w0:=w) w.heap.size rfl (.tmp 15) (.tmp 17) 26 22 (.int .u64 0) 8 rfl Tryz.underlying26 ff rfl (by decide) (by omega) u7 x7_1 x8_1 [.int .u64 x8_1] (fun _=>True) (fun _=>False) rfl rfl ?aP (fun _ hk=>hk.elim) ?aF ?aO ?aB ?aS ?aL ?_;(case aP=>exact rfl);(case aB=>exact aj);(case aF=>exact(fun _ _=>trivial));(case aO=>exact(bw HO_7.out));(case aS=>exact(ah aj));(case aL=>have:=LMc5.out;omega);intro v184 w7 ho hb hg hat;rw[←Ny183.out] at ho;have n0_:=aa.mk (hb);have n1_:=aa.mk (ho);clear HB;clear HO_7;have HB:=n0_;have HO185:=n1_;clear n0_ n1_;clear ho hb hg hat)|(refine ez 22 Tryz.func26 #[.int .u64 x8_1, .int .u64 a1, .int .u64 a0] rfl ?_;(with_reducible refine(aD.calls k1 x8_1 a1 a0 t186 _ A6.out).mono ?_);rintro e w' ⟨rfl,⟨nd,rfl⟩⟩;refine⟨_,rfl,?_⟩))
     go_roundg k1
     case measure=>have:=HK1.out;omega
     case rel=>exact⟨(y183),(t186),(wrap64 (x9_1+1)),ba,ba,H',⟨by have:=HK1.out;omega⟩,⟨bw HO185.out⟩,⟨aj⟩⟩
    ·rw[if_neg c5] at H
     exact absurd H (by simp)
   ·rw[if_neg c4] at H
    have c4b0:=decide_eq_false c4
    clear c4
    obtain rfl:=Option.some.inj H
    go_wp2
    go_ret
    exact⟨_,ba,bw HO_7.out,aj⟩
noncomputable def bM.l0:Nat→Int→List Int→List Int→Int→Int→List Int→Int→Int→Option (Int)
 |0,_,_,_,_,_,_,_,_=>none
 |k+1,x0,x1,x2,x3,x9,x12,x13,x14=>if x14<x13 then(if 0≤x14 then(if x14<(x12.length:Int) then(if(x2.length:Int)=0 then(none) else(if 0≤(Int.tmod (wrap64 (x3*x14)) (x2.length:Int)) then(if(Int.tmod (wrap64 (x3*x14)) (x2.length:Int))<(x1.length:Int) then((aD.f k (rd x12 x14) (rd x1 (Int.tmod (wrap64 (x3*x14)) (x2.length:Int))) x0).bind fun t189=>((cp.f x9 t189 x0).bind fun t190=>(bM.l0 k x0 x1 x2 x3 t190 x12 x13 (wrap64 (x14+1))))) else(none)) else(none))) else(none)) else(none)) else(some x9)
noncomputable def bM.f(k:Nat)(a0:Int)(l1:List Int)(l2:List Int)(a3:Int):Option (Int):=bM.l0 k a0 l1 l2 a3 0 l2 (l2.length:Int) 0
set_option maxHeartbeats 8000000 in
set_option maxRecDepth 100000 in
theorem bM.calls(k:Nat)(a0:Int)(A1:Option Addr)(c1:Nat)(l1:List Int)(A2:Option Addr)(c2:Nat)(l2:List Int)(a3:Int)(r:Int)(w:World)(hr1:Kd.C (Kd.int .u64) w A1 l1.length l1)(hc1:l1.length≤c1)(hr2:Kd.C (Kd.int .u64) w A2 l2.length l2)(hc2:l2.length≤c2)(h:bM.f k a0 l1 l2 a3=some r):
  Calls Tryz.prog 56 #[.int .u64 a0, .slice A1 l1.length c1, .slice A2 l2.length c2, .int .i64 a3] w fun e w'=>e= .returned (.int .u64 r)∧al w w':=by
 have HR1:=aa.mk hr1
 have HC1:=aa.mk hc1
 clear hr1 hc1
 have HR2:=aa.mk hr2
 have HC2:=aa.mk hc2
 clear hr2 hc2
 have H:=h;unfold bM.f at H
 clear h
 have H':=aa.mk H
 clear H
 go_enter Tryz.func56,Tryz.ntmps56
 go_wp2
 go_loopg [9,14] k (fun kq v9 v14 w'=> ∃(x9_1:Int) (x14_1:Int),v9= .int .u64 x9_1∧v14= .int .i64 x14_1∧aa (bM.l0 kq a0 l1 l2 a3 x9_1 l2 (l2.length:Int) x14_1=some r)∧aa (kq≤k)∧al w w')
 case atStart=>exact⟨(0),(0),ba,ba,H',⟨Nat.le_refl _⟩,dA⟩
 case round=>
  clear H'
  obtain⟨x9_1,x14_1,rfl,rfl,HA,HK1,⟨m1,rfl⟩⟩:=hrel
  cases gk with
  |zero=>exact absurd HA.out (by simp[bM.l0])
  |succ k1=>
   have H:=HA.out
   clear HA
   simp only[bM.l0] at H
   by_cases c5:x14_1<(l2.length:Int)
   ·rw[if_pos c5] at H
    have c5b0:=decide_eq_true c5
    clear c5
    by_cases c6:0≤x14_1
    ·rw[if_pos c6] at H
     have c6b0:=decide_eq_true c6
     clear c6
     by_cases c7:x14_1<(l2.length:Int)
     ·rw[if_pos c7] at H
      have c7b0:=decide_eq_true c7
      clear c7
      by_cases c8:(l2.length:Int)=0
      ·rw[if_pos c8] at H
       exact absurd H (by simp)
      ·rw[if_neg c8] at H
       have c8b0:=beq_eq_false_iff_ne.mpr c8
       have c8b1:=bne_iff_ne.mpr c8
       have c8b2: ¬(l2=[]):=fun h_=>c8 (by rw[h_];rfl)
       obtain⟨ji9,hji9⟩: ∃j_:Int,(Int.tmod (wrap64 (a3*x14_1)) (l2.length:Int))=j_:=⟨_,rfl⟩
       (first|rw[hji9] at H|simp only[hji9] at H)
       have hji9v:(Int.tmod (IntKind.i64.wrap (a3*x14_1)) (l2.length:Int))=ji9:=by simp only[bs];exact hji9
       by_cases dR:0≤(ji9)
       ·rw[if_pos dR] at H
        have c10b0:=decide_eq_true dR
        clear dR
        by_cases eI:(ji9)<(l1.length:Int)
        ·rw[if_pos eI] at H
         have c11b0:=decide_eq_true eI
         clear eI
         replace H:=Option.bind_eq_some_iff.mp H
         obtain⟨t189,A120,H⟩:=H
         (try dsimp only at H)
         have A12:=aa.mk A120
         clear A120
         replace H:=Option.bind_eq_some_iff.mp H
         obtain⟨t190,A130,H⟩:=H
         (try dsimp only at H)
         have A13:=aa.mk A130
         clear A130
         have H':=aa.mk H
         clear H
         have p187:0≤(x14_1:Int):=of_decide_eq_true (by assumption)
         have q187:x14_1<(l2.length:Int):=of_decide_eq_true (by assumption)
         obtain⟨ad187,e187,hx187_0⟩:=Kd.cS HR2.out x14_1 p187 q187
         cases e187
         replace p187:=eq_true p187
         replace q187:=eq_true q187
         have p188:0≤((ji9):Int):=of_decide_eq_true (by assumption)
         have q188:(ji9)<(l1.length:Int):=of_decide_eq_true (by assumption)
         obtain⟨ad188,e188,hx188_0⟩:=Kd.cS HR1.out (ji9) p188 q188
         cases e188
         replace p188:=eq_true p188
         replace q188:=eq_true q188
         go_wp2_with (first|((with_reducible refine aC (f:=26) rfl ?_);refine cf (some 31) rfl rfl Tryz.func26 (by kernel_rfl) rfl #[.int .u64 (rd l2 x14_1), .int .u64 (rd l1 (ji9)), .int .u64 a0] rfl (by(try simp only[List.map_toArray,List.map_cons,List.map_nil]);first|done|(simp only[hji9];rfl)|rfl|(simp only[List.length_drop,List.length_take];rfl)) ?_;(with_reducible refine(aD.calls k1 (rd l2 x14_1) (rd l1 (ji9)) a0 t189 _ A12.out).mono ?_);rintro e w' ⟨rfl,⟨nd,rfl⟩⟩;refine⟨_,rfl,?_⟩)|(refine ez 33 Tryz.func28 #[.int .u64 x9_1, .int .u64 t189, .int .u64 a0] rfl ?_;(with_reducible refine(cp.calls x9_1 t189 a0 t190 _ A13.out).mono ?_);rintro e w' ⟨rfl,⟨nd,rfl⟩⟩;refine⟨_,rfl,?_⟩))
         go_roundg k1
         case measure=>have:=HK1.out;omega
         case rel=>exact⟨(t190),(wrap64 (x14_1+1)),ba,ba,H',⟨by have:=HK1.out;omega⟩,dA⟩
        ·rw[if_neg eI] at H
         exact absurd H (by simp)
       ·rw[if_neg dR] at H
        exact absurd H (by simp)
     ·rw[if_neg c7] at H
      exact absurd H (by simp)
    ·rw[if_neg c6] at H
     exact absurd H (by simp)
   ·rw[if_neg c5] at H
    have c5b0:=decide_eq_false c5
    clear c5
    obtain rfl:=Option.some.inj H
    go_wp2
    go_ret
    exact⟨ba,dA⟩
noncomputable def dK.f(k:Nat)(a0:Int)(a1:Int):Option (Int):=(aM.f k a0 (IntKind.u64.wrap (a1-2)) a1).bind fun t191=>(some t191)
set_option maxHeartbeats 8000000 in
set_option maxRecDepth 100000 in
theorem dK.calls(k:Nat)(a0:Int)(a1:Int)(r:Int)(w:World)(h:dK.f k a0 a1=some r):
  Calls Tryz.prog 57 #[.int .u64 a0, .int .u64 a1] w fun e w'=>e= .returned (.int .u64 r)∧al w w':=by
 have H:=h;unfold dK.f at H
 clear h
 replace H:=Option.bind_eq_some_iff.mp H
 obtain⟨t191,A30,H⟩:=H
 (try dsimp only at H)
 have A3:=aa.mk A30
 clear A30
 obtain rfl:=Option.some.inj H
 go_enter Tryz.func57,Tryz.ntmps57
 go_wp2_with (first|(refine ez 9 Tryz.func30 #[.int .u64 a0, .int .u64 (IntKind.u64.wrap (a1-2)), .int .u64 a1] rfl ?_;(with_reducible refine(aM.calls k a0 (IntKind.u64.wrap (a1-2)) a1 t191 _ A3.out).mono ?_);rintro e w' ⟨rfl,⟨nd,rfl⟩⟩;refine⟨_,rfl,?_⟩))
 go_ret
 exact⟨ba,dA⟩
noncomputable def bt.l0:Nat→Int→List Int→Bool→List Int→List Int→Int→Int→Option (List Int)
 |0,_,_,_,_,_,_,_=>none
 |k+1,x0,x2,x3,x11,x12,x30,x31=>if x31<x30 then((bM.f k x0 x11 x2 x31).bind fun t197=>(if x3=true then((dK.f k (IntKind.u64.wrap ((x2.length:Int))) x0).bind fun t198=>((aD.f k t197 t198 x0).bind fun t199=>(if x12.length<17592186044416 then(bt.l0 k x0 x2 x3 x11 (x12++[t199]) x30 (wrap64 (x31+1))) else(none)))) else(if x12.length<17592186044416 then(bt.l0 k x0 x2 x3 x11 (x12++[t197]) x30 (wrap64 (x31+1))) else(none)))) else(some x12)
noncomputable def bt.f(k:Nat)(a0:Int)(a1:Int)(l2:List Int)(a3:Bool):Option (List Int):=(eA.f k a0 a1 (l2.length:Int) a3).bind fun bt192=>((bB.f k a0 bt192.1 (l2.length:Int)).bind fun t194=>(bt.l0 k a0 l2 a3 t194 ([]:List Int) (l2.length:Int) 0))
set_option maxHeartbeats 8000000 in
set_option maxRecDepth 100000 in
theorem bt.calls(k:Nat)(a0:Int)(a1:Int)(A2:Option Addr)(c2:Nat)(l2:List Int)(a3:Bool)(r:List Int)(w:World)(hr2:Kd.C (Kd.int .u64) w A2 l2.length l2)(hc2:l2.length≤c2)(h:bt.f k a0 a1 l2 a3=some r):
  Calls Tryz.prog 22 #[.int .u64 a0, .int .u64 a1, .slice A2 l2.length c2, .bool a3] w fun e w'=> ∃v0_:Value,e= .returned (v0_)∧Kd.R (Kd.int .u64) 22 w' w.heap.size (fun _=>True) v0_ r∧Below w.heap.size w w':=by
 have HR2:=aa.mk hr2
 have HC2:=aa.mk hc2
 clear hr2 hc2
 have HB:=aa.mk (Below.refl w.heap.size w)
 have H:=h;unfold bt.f at H
 clear h
 replace H:=Option.bind_eq_some_iff.mp H
 obtain⟨⟨t192,t193⟩,A50,H⟩:=H
 (try dsimp only at H)
 have A5:=aa.mk A50
 clear A50
 replace H:=Option.bind_eq_some_iff.mp H
 obtain⟨t194,A60,H⟩:=H
 (try dsimp only at H)
 have A6:=aa.mk A60
 clear A60
 have H':=aa.mk H
 clear H
 go_enter Tryz.func22,Tryz.ntmps22
 go_wp2_with (first|(refine ez 21 Tryz.func54 #[.int .u64 a0, .int .u64 a1, .int .i64 (l2.length:Int), .bool a3] rfl ?_;(with_reducible refine(eA.calls k a0 a1 (l2.length:Int) a3 t192 t193 _ A5.out).mono ?_);rintro e w' ⟨rfl,⟨nd,rfl⟩⟩;refine⟨_,rfl,?_⟩)|(refine ez 28 Tryz.func55 #[.int .u64 a0, .int .u64 t192, .int .i64 (l2.length:Int)] rfl ?_;(with_reducible refine(bB.calls k a0 t192 (l2.length:Int) t194 _ A6.out).mono ?_);rintro e w7 ⟨v195,rfl,ho0,hb⟩;refine⟨_,rfl,?_⟩;have n0_:=aa.mk (Kd.bA ho0 (ah aj));have n1_:=aa.mk (ai aj hb);clear HB;have HO196:=n0_;have HB:=n1_;clear n0_ n1_;(try clear ho0)))
 go_loopg [12,31] k (fun kq v12 v31 w'=> ∃(x12_1:List Int) (x31_1:Int),v31= .int .i64 x31_1∧aa (bt.l0 kq a0 l2 a3 t194 x12_1 (l2.length:Int) x31_1=some r)∧aa (kq≤k)∧aa (Kd.R (Kd.int .u64) 22 w' w.heap.size (fun k_=>some k_≠(v12:Value).ownBlock) v195 t194)∧aa (Kd.R (Kd.int .u64) 22 w' w.heap.size (fun k_=>some k_≠(v195:Value).ownBlock) v12 x12_1)∧aa (Below w.heap.size w w'))
 case atStart=>exact⟨(([]:List Int)),(0),ba,H',⟨Nat.le_refl _⟩,⟨by(with_reducible repeat(first|apply Kd.bE|apply Kd.bL|apply Kd.bO));exact Kd.bz HO196.out (fun _ hk=>(by simp[Value.ownBlock]))⟩,⟨rQ⟩,⟨aj⟩⟩
 case round=>
  clear H'
  obtain⟨x12_1,x31_1,rfl,HA,HK1,HO_11,HO_12,HB⟩:=hrel
  cases gk with
  |zero=>exact absurd HA.out (by simp[bt.l0])
  |succ k1=>
   have H:=HA.out
   clear HA
   simp only[bt.l0] at H
   by_cases c8:x31_1<(l2.length:Int)
   ·rw[if_pos c8] at H
    have c8b0:=decide_eq_true c8
    clear c8
    replace H:=Option.bind_eq_some_iff.mp H
    obtain⟨t197,A90,H⟩:=H
    (try dsimp only at H)
    have A9:=aa.mk A90
    clear A90
    by_cases dR:a3=true
    ·subst dR
     have H1:=H;rw[if_pos rfl] at H1
     clear H
     have H:=H1
     clear H1
     replace H:=Option.bind_eq_some_iff.mp H
     obtain⟨t198,A110,H⟩:=H
     (try dsimp only at H)
     have A11:=aa.mk A110
     clear A110
     replace H:=Option.bind_eq_some_iff.mp H
     obtain⟨t199,A120,H⟩:=H
     (try dsimp only at H)
     have A12:=aa.mk A120
     clear A120
     by_cases js:x12_1.length<17592186044416
     ·rw[if_pos js] at H
      have LMc13:=aa.mk js
      clear js
      obtain⟨y200,hy200⟩: ∃y_:List Int,y_=(x12_1++[t199]):=⟨_,rfl⟩
      replace H:(bt.l0 k1 a0 l2 true t194 y200 (l2.length:Int) (wrap64 (x31_1+1)))=some r:=by first|(rw[hy200];with_reducible exact H)|(have H2_:=(Option.bind_some _ _).symm.trans H;rw[hy200];with_reducible exact H2_)|(have H2_:=(Option.bind_some _ _).symm.trans H;with_reducible exact H2_)|with_reducible exact H|(rw[hy200];exact H)|exact H
      have Ny200:=aa.mk hy200
      clear hy200
      have H':=aa.mk H
      clear H
      obtain⟨Ao14,co14,eo14⟩:=Kd.bF HO_11.out
      subst eo14
      go_wp2_with (first|(refine ez 38 Tryz.func56 #[.int .u64 a0, .slice Ao14 t194.length co14, .slice A2 l2.length c2, .int .i64 x31_1] rfl ?_;(with_reducible refine(bM.calls k1 a0 _ _ t194 _ _ l2 x31_1 t197 _ ?side1 ?side2 ?side3 ?side4 A9.out).mono ?_);(case side1=>repeat(first|exact(Kd.aA HO_11.out).2.2|(with_reducible refine Kd.cM ?_ _)|(with_reducible refine Kd.db ?_ _)|(with_reducible refine Kd.dC ?_)));(case side2=>exact(Kd.aA HO_11.out).2.1);(case side3=>exact cr (Kd.bl HR2.out HB.out));(case side4=>exact HC2.out);rintro e w' ⟨rfl,⟨nd,rfl⟩⟩;refine⟨_,rfl,?_⟩)|(refine ez 45 Tryz.func57 #[.int .u64 (IntKind.u64.wrap ((l2.length:Int))), .int .u64 a0] rfl ?_;(with_reducible refine(dK.calls k1 (IntKind.u64.wrap ((l2.length:Int))) a0 t198 _ A11.out).mono ?_);rintro e w' ⟨rfl,⟨nd,rfl⟩⟩;refine⟨_,rfl,?_⟩)|(refine ez 47 Tryz.func26 #[.int .u64 t197, .int .u64 t198, .int .u64 a0] rfl ?_;(with_reducible refine(aD.calls k1 t197 t198 a0 t199 _ A12.out).mono ?_);rintro e w' ⟨rfl,⟨nd,rfl⟩⟩;refine⟨_,rfl,?_⟩)|((with_reducible refine dm (b:= .append) (xs:= #[.tmp 48, .tmp 50]) rfl ?_);at_builtin;refine Kd.gP (Kd.int .u64) (w0:=w) w.heap.size rfl (.tmp 48) (.tmp 50) 26 22 (.int .u64 0) 8 rfl Tryz.underlying26 ff rfl (by decide) (by omega) u12 x12_1 t199 [.int .u64 t199] (fun k_=>some k_≠(.slice Ao14 t194.length co14:Value).ownBlock) (fun _=>False) rfl rfl ?aP (fun _ hk=>hk.elim) ?aF ?aO ?aB ?aS ?aL ?_;(case aP=>exact rfl);(case aB=>exact aj);(case aF=>exact(fun k_ hk=>Kd.xf (Kd.gI (bw HO_11.out)) k_ hk));(case aO=>exact(bw HO_12.out));(case aS=>exact(ah aj));(case aL=>have:=LMc13.out;omega);intro v201 w15 ho hb hg hat;rw[←Ny200.out] at ho;have n0_:=aa.mk (Kd.iO (ok:=(fun _=>True)) (by(with_reducible repeat(first|apply Kd.bE|apply Kd.bL|apply Kd.bO));exact Kd.bz HO_11.out (fun _ hk=>⟨trivial,hk⟩)) hg hat);have n1_:=aa.mk (hb);have n2_:=aa.mk (ho);clear HO_11;clear HB;clear HO_12;have HO_11:=n0_;have HB:=n1_;have HO202:=n2_;clear n0_ n1_ n2_;clear ho hb hg hat))
      go_roundg k1
      case measure=>have:=HK1.out;omega
      case rel=>exact⟨(y200),(wrap64 (x31_1+1)),ba,H',⟨by have:=HK1.out;omega⟩,⟨by(with_reducible repeat(first|apply Kd.bE|apply Kd.bL|apply Kd.bO));exact Kd.bz HO_11.out (fun _ hk=>hk.2)⟩,⟨bw HO202.out⟩,⟨aj⟩⟩
     ·rw[if_neg js] at H
      exact absurd H (by simp)
    ·replace dR:=Bool.eq_false_iff.mpr dR
     subst dR
     have H1:=H;rw[if_neg (show¬(false=true) by decide)] at H1
     clear H
     have H:=H1
     clear H1
     by_cases ji:x12_1.length<17592186044416
     ·rw[if_pos ji] at H
      have LMc16:=aa.mk ji
      clear ji
      obtain⟨y203,hy203⟩: ∃y_:List Int,y_=(x12_1++[t197]):=⟨_,rfl⟩
      replace H:(bt.l0 k1 a0 l2 false t194 y203 (l2.length:Int) (wrap64 (x31_1+1)))=some r:=by first|(rw[hy203];with_reducible exact H)|(have H2_:=(Option.bind_some _ _).symm.trans H;rw[hy203];with_reducible exact H2_)|(have H2_:=(Option.bind_some _ _).symm.trans H;with_reducible exact H2_)|with_reducible exact H|(rw[hy203];exact H)|exact H
      have Ny203:=aa.mk hy203
      clear hy203
      have H':=aa.mk H
      clear H
      obtain⟨Ao17,co17,eo17⟩:=Kd.bF HO_11.out
      subst eo17
      go_wp2_with (first|(refine ez 38 Tryz.func56 #[.int .u64 a0, .slice Ao17 t194.length co17, .slice A2 l2.length c2, .int .i64 x31_1] rfl ?_;(with_reducible refine(bM.calls k1 a0 _ _ t194 _ _ l2 x31_1 t197 _ ?side1 ?side2 ?side3 ?side4 A9.out).mono ?_);(case side1=>repeat(first|exact(Kd.aA HO_11.out).2.2|(with_reducible refine Kd.cM ?_ _)|(with_reducible refine Kd.db ?_ _)|(with_reducible refine Kd.dC ?_)));(case side2=>exact(Kd.aA HO_11.out).2.1);(case side3=>exact cr (Kd.bl HR2.out HB.out));(case side4=>exact HC2.out);rintro e w' ⟨rfl,⟨nd,rfl⟩⟩;refine⟨_,rfl,?_⟩)|((with_reducible refine dm (b:= .append) (xs:= #[.tmp 48, .tmp 50]) rfl ?_);at_builtin;refine Kd.gP (Kd.int .u64) (w0:=w) w.heap.size rfl (.tmp 48) (.tmp 50) 26 22 (.int .u64 0) 8 rfl Tryz.underlying26 ff rfl (by decide) (by omega) u12 x12_1 t197 [.int .u64 t197] (fun k_=>some k_≠(.slice Ao17 t194.length co17:Value).ownBlock) (fun _=>False) rfl rfl ?aP (fun _ hk=>hk.elim) ?aF ?aO ?aB ?aS ?aL ?_;(case aP=>exact rfl);(case aB=>exact aj);(case aF=>exact(fun k_ hk=>Kd.xf (Kd.gI (bw HO_11.out)) k_ hk));(case aO=>exact(bw HO_12.out));(case aS=>exact(ah aj));(case aL=>have:=LMc16.out;omega);intro v204 w18 ho hb hg hat;rw[←Ny203.out] at ho;have n0_:=aa.mk (Kd.iO (ok:=(fun _=>True)) (by(with_reducible repeat(first|apply Kd.bE|apply Kd.bL|apply Kd.bO));exact Kd.bz HO_11.out (fun _ hk=>⟨trivial,hk⟩)) hg hat);have n1_:=aa.mk (hb);have n2_:=aa.mk (ho);clear HO_11;clear HB;clear HO_12;have HO_11:=n0_;have HB:=n1_;have HO205:=n2_;clear n0_ n1_ n2_;clear ho hb hg hat))
      go_roundg k1
      case measure=>have:=HK1.out;omega
      case rel=>exact⟨(y203),(wrap64 (x31_1+1)),ba,H',⟨by have:=HK1.out;omega⟩,⟨by(with_reducible repeat(first|apply Kd.bE|apply Kd.bL|apply Kd.bO));exact Kd.bz HO_11.out (fun _ hk=>hk.2)⟩,⟨bw HO205.out⟩,⟨aj⟩⟩
     ·rw[if_neg ji] at H
      exact absurd H (by simp)
   ·rw[if_neg c8] at H
    have c8b0:=decide_eq_false c8
    clear c8
    obtain rfl:=Option.some.inj H
    go_wp2
    go_ret
    exact⟨_,ba,by(with_reducible repeat(first|apply Kd.bE|apply Kd.bL|apply Kd.bO));exact Kd.bz HO_12.out (fun _ hk=>trivial),aj⟩
end Go.Proofs.YtndkmnjbjlfeaaaGreat.XG
end
section
namespace Go.Proofs.YtndkmnjbjlfeaaaGreat.T10
open Go Go.RowKit Go.Proofs.YtndkmnjbjlfeaaaGreatW.PrintWords Go.Proofs.YtndkmnjbjlfeaaaGreatW.PrintLast Go.Proofs.YtndkmnjbjlfeaaaGreatW.PrintMore Go.Proofs.YtndkmnjbjlfeaaaGreat.Given Go.Proofs.YtndkmnjbjlfeaaaGreat.M Go.Proofs.YtndkmnjbjlfeaaaGreat.Mont Go.Proofs.YtndkmnjbjlfeaaaGreat.XS Go.Proofs.YtndkmnjbjlfeaaaGreat.XT Go.Proofs.YtndkmnjbjlfeaaaGreat.XR Go.Proofs.YtndkmnjbjlfeaaaGreat.Num Go.Proofs.YtndkmnjbjlfeaaaGreat.XK Go.Proofs.YtndkmnjbjlfeaaaGreat.F06 Go.Proofs.YtndkmnjbjlfeaaaGreat.XW Go.Proofs.YtndkmnjbjlfeaaaGreat.XG
set_option linter.unusedVariables false
theorem zW{F:ct}(hg:aJ F)(w:Int)(n:Nat): ∀x∈iT F.p w n,U x:=fun x hx=>by
 unfold iT at hx
 obtain⟨i,_,rfl⟩:=List.mem_map.1 hx
 exact hg.uE _
theorem oC{F:ct}(hg:aJ F){n:Int}(h1:1≤n)(h2:n≤4096)(hd:(F.p-1)%n=0)(inv:Bool):Ev (fun k=>dS.f k [F] n inv) ((iT F.p (bV F n inv) n.toNat).map (iM F.p),0):=by
 refine Ev.congr (fun k=>rfl) (Ev.bind (wJ hg h1 h2 hd inv) (dJ ⟨zW hg _ _,by rw[gR];omega⟩ (Ev.now _)))
theorem vq{F:ct}(hg:aJ F){n:Int}(hn:AU n)(inv:Bool):Ev (fun k=>eA.f k F.p F.g n inv) (jO F n inv):=by
 have hlo:=hg.lo
 have hhi:=hg.hi
 unfold jO
 by_cases h1:n<1
 ·rw[if_pos h1];exact Ev.congr (fun k=>rfl) (dJ h1 (Ev.now _))
 rw[if_neg h1]
 by_cases h2:n>4096
 ·rw[if_pos h2];exact Ev.congr (fun k=>rfl) (fM h1 (dJ h2 (Ev.now _)))
 rw[if_neg h2]
 have wn:IntKind.u64.wrap n=n:=aX _ (by omega) (by omega)
 have w1:IntKind.u64.wrap (F.p-1)=F.p-1:=aX _ (by omega) (by omega)
 have wm:IntKind.u64.wrap (wrap64 (n-1))=n-1:=by rw[dd _ (by omega) (by omega)];exact aX _ (by omega) (by omega)
 have em:Int.tmod (IntKind.u64.wrap (F.p-1)) (IntKind.u64.wrap n)=(F.p-1)%n:=by rw[w1,wn,bQ (by omega)]
 by_cases hd:(F.p-1)%n=0
 ·rw[if_pos hd]
  have hn0:0<n:=by omega
  have c1:(Int.tmod (IntKind.u64.wrap (F.p-1)) (IntKind.u64.wrap n) !=0)=false:=by rw[em,hd];rfl
  have RR:Ev (fun k=>bu.f k F.p F.g n) (eP F n):=by
   refine Ev.congr (f:=fun k=>bu.j0 k F.p F.g n false) (fun k=>?_) (Ev.step (f:=fun k=>aM.f k F.g ((F.p-1)/n) F.p) (fun k=>?_) ?_)
   ·unfold bu.f
    rw[if_neg (by omega),if_neg (by rw[wn];omega),c1]
   ·simp only[bu.j0]
    rw[if_neg (by decide),if_neg (by rw[wn];omega),w1,wn,dG (by omega)]
    have:IntKind.u64.wrap ((F.p-1)/n)=(F.p-1)/n:=aX _ (Int.ediv_nonneg (by omega) (by omega)) (by have:=Int.ediv_le_self n (show 0≤F.p-1 by omega);omega)
    rw[this]
    cases aM.f k F.g ((F.p-1)/n) F.p<;>rfl
   ·exact gy hg.uG ⟨Int.ediv_nonneg (by omega) (by omega),by have:=Int.ediv_le_self n (show 0≤F.p-1 by omega);omega⟩ hg.uP hg.ne
  refine Ev.congr (fun k=>rfl) (fM h1 (fM h2 (fM (by rw[wn];omega) (dJ (by rw[em];exact hd) (Ev.bind RR ?_)))))
  cases inv with
  |false=>exact fM (by decide) (Ev.now _)
  |true=>
   have P:=gy (hg.y6 n) (e:=n-1) (by unfold U;omega) hg.uP hg.ne
   rw[←wm] at P
   refine dJ rfl (Ev.bind P (uF (Ev.now _) ?_))
   refine congrArg (fun z=>(z,(0:Int))) ?_
   show eP F n^(IntKind.u64.wrap (wrap64 (n-1))).toNat%F.p=fi F.p (eP F n)
   rw[wm]
   have hne:=hg.o9 hn0 hd
   obtain⟨_,i1,_,i3,i4⟩:=hg.inv hne
   have:=hg.cancel (a:=eP F n^(n-1).toNat) (b:=fi F.p (eP F n)) hne (by
    rw[i1,←Int.pow_succ,show(n-1).toNat.succ=n.toNat by omega]
    exact(hg.kW hn0 hd _).2 (Nat.dvd_refl _))
   rw[this,Int.emod_eq_of_lt i3 i4]
 ·rw[if_neg hd]
  exact Ev.congr (fun k=>rfl) (fM h1 (fM h2 (fM (by rw[wn];omega) (fM (by rw[em];exact hd) (Ev.now _)))))
theorem uq{F:ct}(hg:aJ F){w:Int}(uw:U w){n:Nat}(hn:n≤4096)(d:Nat): ∀i:Nat,i+d=n→
  Ev (fun k=>bB.l0 k F.p w (n:Int) (iT F.p w i) (w^i%F.p) (i:Int)) (iT F.p w n):=by
 induction d with
 |zero=>
  intro i hi
  exact bU ⟨_,fun k=>by simp only[bB.l0];rw[if_neg (by omega)],uF (Ev.now _) (by rw[show i=n by omega])⟩
 |succ d ih=>
  intro i hi
  have Mu:=gw (hg.uE (w^i)) uw hg.uP hg.ne
  rw[bj,←Int.pow_succ] at Mu
  have e:iT F.p w i++[w^i%F.p]=iT F.p w (i+1):=by unfold iT;rw[List.range_succ,List.map_append];rfl
  have hl:=gR F.p w i
  have IH:=ih (i+1) (by omega)
  rw[←e] at IH
  exact bU ⟨_,fun k=>by simp only[bB.l0];rw[if_pos (by omega),if_pos (by omega),cu (by omega)],Ev.bind Mu IH⟩
theorem uA{F:ct}(hg:aJ F){w:Int}(uw:U w){n:Nat}(hn:n≤4096):Ev (fun k=>bB.f k F.p w (n:Int)) (iT F.p w n):=by
 have RT:=uq hg uw (n:=n) hn n 0 (by omega)
 rw[Int.pow_zero,hg.one] at RT
 exact Ev.congr (fun k=>rfl) RT
end Go.Proofs.YtndkmnjbjlfeaaaGreat.T10
end
section
namespace Go.Proofs.YtndkmnjbjlfeaaaGreat.XG
open Go.RowKit Go.Proofs.YtndkmnjbjlfeaaaGreat.Given Go.Proofs.YtndkmnjbjlfeaaaGreat.Row05 Go.Proofs.YtndkmnjbjlfeaaaGreat.XS Go.Proofs.YtndkmnjbjlfeaaaGreat.XT Go.Proofs.YtndkmnjbjlfeaaaGreat.XR Go.Proofs.YtndkmnjbjlfeaaaGreat.F06 Go.Proofs.YtndkmnjbjlfeaaaGreat.XK Go.Proofs.YtndkmnjbjlfeaaaGreat.XW Go.Proofs.YtndkmnjbjlfeaaaGreatW.PrintWords Go.Proofs.YtndkmnjbjlfeaaaGreatW.PrintLast Go.Proofs.YtndkmnjbjlfeaaaGreatW.PrintMore
attribute [local go_sem] bZ bW cC cB bG bH bX ca
set_option linter.unusedVariables false
set_option linter.unusedSimpArgs false
noncomputable def dc.f(l0:List (ct))(a1:Int)(a2:Int):Option (Int):=if(l0.length:Int)=0 then(some 2) else(if a1<1 then(some 1) else(if a1>a2 then(some 13) else((dk.f l0 a1).bind fun t101=>(if t101=true then(some 0) else(some 4)))))
set_option maxHeartbeats 8000000 in
set_option maxRecDepth 100000 in
theorem dc.calls(A0:Option Addr)(c0:Nat)(l0:List (ct))(a1:Int)(a2:Int)(r:Int)(w:World)(hr0:Kd.C fK w A0 l0.length l0)(hc0:l0.length≤c0)(h:dc.f l0 a1 a2=some r):
  Calls Tryz.prog 23 #[bh (.slice A0 l0.length c0), .int .i64 a1, .int .i64 a2] w fun e w'=>e= .returned (.int .i64 r)∧al w w':=by
 have HR0:=aa.mk hr0
 have HC0:=aa.mk hc0
 clear hr0 hc0
 have H:=h;unfold dc.f at H
 clear h
 by_cases c4:(l0.length:Int)=0
 ·rw[if_pos c4] at H
  have c4b0:=beq_iff_eq.mpr c4
  have c4b1:=bne_eq_false_iff_eq.mpr c4
  have hT_HR0:=iJ A0 c0 (show l0.length=0 by omega)
  (try rw[hT_HR0])
  clear c4
  obtain rfl:=Option.some.inj H
  go_enter Tryz.func23,Tryz.ntmps23
  go_wp2
  go_ret
  exact⟨ba,dA⟩
 ·rw[if_neg c4] at H
  have c4b0:=beq_eq_false_iff_ne.mpr c4
  have c4b1:=bne_iff_ne.mpr c4
  have c4b2: ¬(l0=[]):=fun h_=>c4 (by rw[h_];rfl)
  obtain⟨aT_HR0,hT_HR0⟩:=j6 A0 c0 (show¬(l0.length=0) by omega)
  (try rw[hT_HR0])
  by_cases c5:a1<1
  ·rw[if_pos c5] at H
   have c5b0:=decide_eq_true c5
   clear c5
   obtain rfl:=Option.some.inj H
   go_enter Tryz.func23,Tryz.ntmps23
   go_wp2
   go_ret
   exact⟨ba,dA⟩
  ·rw[if_neg c5] at H
   have c5b0:=decide_eq_false c5
   clear c5
   by_cases c6:a1>a2
   ·rw[if_pos c6] at H
    have c6b0:=decide_eq_true c6
    clear c6
    obtain rfl:=Option.some.inj H
    go_enter Tryz.func23,Tryz.ntmps23
    go_wp2
    go_ret
    exact⟨ba,dA⟩
   ·rw[if_neg c6] at H
    have c6b0:=decide_eq_false c6
    clear c6
    replace H:=Option.bind_eq_some_iff.mp H
    obtain⟨t101,A70,H⟩:=H
    (try dsimp only at H)
    have A7:=aa.mk A70
    clear A70
    by_cases c8:t101=true
    ·subst c8
     have H1:=H;rw[if_pos rfl] at H1
     clear H
     have H:=H1
     clear H1
     obtain rfl:=Option.some.inj H
     go_enter Tryz.func23,Tryz.ntmps23
     go_wp2_with (first|((with_reducible refine aC (f:=58) rfl ?_);refine cf (some 20) rfl rfl Tryz.func58 (by kernel_rfl) rfl #[bh (.slice A0 l0.length c0), .int .i64 a1] rfl (jK hT_HR0) ?_;(try rw[←hT_HR0]);(with_reducible refine(dk.calls _ _ l0 a1 true _ ?side1 ?side2 A7.out).mono ?_);(case side1=>exact cr HR0.out);(case side2=>exact HC0.out);rintro e w' ⟨rfl,⟨nd,rfl⟩⟩;refine⟨_,rfl,?_⟩))
     go_ret
     exact⟨ba,dA⟩
    ·replace c8:=Bool.eq_false_iff.mpr c8
     subst c8
     have H1:=H;rw[if_neg (show¬(false=true) by decide)] at H1
     clear H
     have H:=H1
     clear H1
     obtain rfl:=Option.some.inj H
     go_enter Tryz.func23,Tryz.ntmps23
     go_wp2_with (first|((with_reducible refine aC (f:=58) rfl ?_);refine cf (some 20) rfl rfl Tryz.func58 (by kernel_rfl) rfl #[bh (.slice A0 l0.length c0), .int .i64 a1] rfl (jK hT_HR0) ?_;(try rw[←hT_HR0]);(with_reducible refine(dk.calls _ _ l0 a1 false _ ?side1 ?side2 A7.out).mono ?_);(case side1=>exact cr HR0.out);(case side2=>exact HC0.out);rintro e w' ⟨rfl,⟨nd,rfl⟩⟩;refine⟨_,rfl,?_⟩))
     go_ret
     exact⟨ba,dA⟩
noncomputable def cR.l0:Nat→List (ct)→List Int→Int→Int→Option (Bool)
 |0,_,_,_,_=>none
 |k+1,x0,x7,x8,x9=>if x9<x8 then(if 0≤x9 then(if x9<(x7.length:Int) then((dF.f x0 (rd x7 x9)).bind fun t103=>(if t103=true then(cR.l0 k x0 x7 x8 (wrap64 (x9+1))) else(some false))) else(none)) else(none)) else(if(x0.length:Int)=0 then(some false) else(some true))
noncomputable def cR.f(k:Nat)(l0:List (ct))(l1:List Int):Option (Bool):=if(l0.length:Int)=0 then(cR.l0 k l0 l1 (l1.length:Int) 0) else(cR.l0 k l0 l1 (l1.length:Int) 0)
set_option maxHeartbeats 8000000 in
set_option maxRecDepth 100000 in
theorem cR.calls(k:Nat)(A0:Option Addr)(c0:Nat)(l0:List (ct))(A1:Option Addr)(c1:Nat)(l1:List Int)(r:Bool)(w:World)(hr0:Kd.C fK w A0 l0.length l0)(hc0:l0.length≤c0)(hr1:Kd.C (Kd.int .u64) w A1 l1.length l1)(hc1:l1.length≤c1)(h:cR.f k l0 l1=some r):
  Calls Tryz.prog 24 #[bh (.slice A0 l0.length c0), .slice A1 l1.length c1] w fun e w'=>e= .returned (.bool r)∧al w w':=by
 have HR0:=aa.mk hr0
 have HC0:=aa.mk hc0
 clear hr0 hc0
 have HR1:=aa.mk hr1
 have HC1:=aa.mk hc1
 clear hr1 hc1
 have H:=h;unfold cR.f at H
 clear h
 by_cases c3:(l0.length:Int)=0
 ·rw[if_pos c3] at H
  have c3b0:=beq_iff_eq.mpr c3
  have c3b1:=bne_eq_false_iff_eq.mpr c3
  have hT_HR0:=iJ A0 c0 (show l0.length=0 by omega)
  (try rw[hT_HR0])
  clear c3
  have H':=aa.mk H
  clear H
  go_enter Tryz.func24,Tryz.ntmps24
  go_wp2
  go_loopg [9] k (fun kq v9 w'=> ∃(x9_1:Int),v9= .int .i64 x9_1∧aa (cR.l0 kq l0 l1 (l1.length:Int) x9_1=some r)∧aa (kq≤k)∧al w w')
  case atStart=>exact⟨(0),ba,H',⟨Nat.le_refl _⟩,dA⟩
  case round=>
   clear H'
   obtain⟨x9_1,rfl,HA,HK1,⟨m1,rfl⟩⟩:=hrel
   cases gk with
   |zero=>exact absurd HA.out (by simp[cR.l0])
   |succ k1=>
    have H:=HA.out
    clear HA
    simp only[cR.l0] at H
    by_cases c4:x9_1<(l1.length:Int)
    ·rw[if_pos c4] at H
     have c4b0:=decide_eq_true c4
     clear c4
     by_cases c5:0≤x9_1
     ·rw[if_pos c5] at H
      have c5b0:=decide_eq_true c5
      clear c5
      by_cases c6:x9_1<(l1.length:Int)
      ·rw[if_pos c6] at H
       have c6b0:=decide_eq_true c6
       clear c6
       replace H:=Option.bind_eq_some_iff.mp H
       obtain⟨t103,A70,H⟩:=H
       (try dsimp only at H)
       have A7:=aa.mk A70
       clear A70
       by_cases c8:t103=true
       ·subst c8
        have H1:=H;rw[if_pos rfl] at H1
        clear H
        have H:=H1
        clear H1
        have H':=aa.mk H
        clear H
        have p102:0≤(x9_1:Int):=of_decide_eq_true (by assumption)
        have q102:x9_1<(l1.length:Int):=of_decide_eq_true (by assumption)
        obtain⟨ad102,e102,hx102_0⟩:=Kd.cS HR1.out x9_1 p102 q102
        cases e102
        replace p102:=eq_true p102
        replace q102:=eq_true q102
        go_wp2_with (first|((with_reducible refine aC (f:=59) rfl ?_);refine cf (some 15) rfl rfl Tryz.func59 (by kernel_rfl) rfl #[bh (.slice A0 l0.length c0), .int .u64 (rd l1 x9_1)] rfl (jK hT_HR0) ?_;(try rw[←hT_HR0]);(with_reducible refine(dF.calls _ _ l0 (rd l1 x9_1) true _ ?side1 ?side2 A7.out).mono ?_);(case side1=>exact cr HR0.out);(case side2=>exact HC0.out);rintro e w' ⟨rfl,⟨nd,rfl⟩⟩;refine⟨_,rfl,?_⟩))
        go_roundg k1
        case measure=>have:=HK1.out;omega
        case rel=>exact⟨(wrap64 (x9_1+1)),ba,H',⟨by have:=HK1.out;omega⟩,dA⟩
       ·replace c8:=Bool.eq_false_iff.mpr c8
        subst c8
        have H1:=H;rw[if_neg (show¬(false=true) by decide)] at H1
        clear H
        have H:=H1
        clear H1
        obtain rfl:=Option.some.inj H
        have p102:0≤(x9_1:Int):=of_decide_eq_true (by assumption)
        have q102:x9_1<(l1.length:Int):=of_decide_eq_true (by assumption)
        obtain⟨ad102,e102,hx102_0⟩:=Kd.cS HR1.out x9_1 p102 q102
        cases e102
        replace p102:=eq_true p102
        replace q102:=eq_true q102
        go_wp2_with (first|((with_reducible refine aC (f:=59) rfl ?_);refine cf (some 15) rfl rfl Tryz.func59 (by kernel_rfl) rfl #[bh (.slice A0 l0.length c0), .int .u64 (rd l1 x9_1)] rfl (jK hT_HR0) ?_;(try rw[←hT_HR0]);(with_reducible refine(dF.calls _ _ l0 (rd l1 x9_1) false _ ?side1 ?side2 A7.out).mono ?_);(case side1=>exact cr HR0.out);(case side2=>exact HC0.out);rintro e w' ⟨rfl,⟨nd,rfl⟩⟩;refine⟨_,rfl,?_⟩))
        go_ret
        exact⟨ba,dA⟩
      ·rw[if_neg c6] at H
       exact absurd H (by simp)
     ·rw[if_neg c5] at H
      exact absurd H (by simp)
    ·rw[if_neg c4] at H
     have c4b0:=decide_eq_false c4
     clear c4
     by_cases c9:(l0.length:Int)=0
     ·rw[if_pos c9] at H
      have c9b0:=beq_iff_eq.mpr c9
      have c9b1:=bne_eq_false_iff_eq.mpr c9
      have hT_HR0:=iJ A0 c0 (show l0.length=0 by omega)
      (try rw[hT_HR0])
      clear c9
      obtain rfl:=Option.some.inj H
      go_wp2
      go_ret
      exact⟨ba,dA⟩
     ·rw[if_neg c9] at H
      have c9b0:=beq_eq_false_iff_ne.mpr c9
      have c9b1:=bne_iff_ne.mpr c9
      have c9b2: ¬(l0=[]):=fun h_=>c9 (by rw[h_];rfl)
      obtain⟨_,hq_⟩:=j6 A0 c0 (show¬(l0.length=0) by omega)
      exact absurd (hT_HR0.symm.trans hq_) (by simp)
 ·rw[if_neg c3] at H
  have c3b0:=beq_eq_false_iff_ne.mpr c3
  have c3b1:=bne_iff_ne.mpr c3
  have c3b2: ¬(l0=[]):=fun h_=>c3 (by rw[h_];rfl)
  obtain⟨aT_HR0,hT_HR0⟩:=j6 A0 c0 (show¬(l0.length=0) by omega)
  (try rw[hT_HR0])
  have H':=aa.mk H
  clear H
  go_enter Tryz.func24,Tryz.ntmps24
  go_wp2
  go_loopg [9] k (fun kq v9 w'=> ∃(x9_1:Int),v9= .int .i64 x9_1∧aa (cR.l0 kq l0 l1 (l1.length:Int) x9_1=some r)∧aa (kq≤k)∧al w w')
  case atStart=>exact⟨(0),ba,H',⟨Nat.le_refl _⟩,dA⟩
  case round=>
   clear H'
   try clear hx1
   try clear hx102_0
   obtain⟨x9_1,rfl,HA,HK1,⟨m1,rfl⟩⟩:=hrel
   cases gk with
   |zero=>exact absurd HA.out (by simp[cR.l0])
   |succ k1=>
    have H:=HA.out
    clear HA
    simp only[cR.l0] at H
    by_cases dR:x9_1<(l1.length:Int)
    ·rw[if_pos dR] at H
     have c10b0:=decide_eq_true dR
     clear dR
     by_cases eI:0≤x9_1
     ·rw[if_pos eI] at H
      have c11b0:=decide_eq_true eI
      clear eI
      by_cases ja:x9_1<(l1.length:Int)
      ·rw[if_pos ja] at H
       have c12b0:=decide_eq_true ja
       clear ja
       replace H:=Option.bind_eq_some_iff.mp H
       obtain⟨t103,A130,H⟩:=H
       (try dsimp only at H)
       have A13:=aa.mk A130
       clear A130
       by_cases fu:t103=true
       ·subst fu
        have H1:=H;rw[if_pos rfl] at H1
        clear H
        have H:=H1
        clear H1
        have H':=aa.mk H
        clear H
        have p102:0≤(x9_1:Int):=of_decide_eq_true (by assumption)
        have q102:x9_1<(l1.length:Int):=of_decide_eq_true (by assumption)
        obtain⟨ad102,e102,hx102_0⟩:=Kd.cS HR1.out x9_1 p102 q102
        cases e102
        replace p102:=eq_true p102
        replace q102:=eq_true q102
        go_wp2_with (first|((with_reducible refine aC (f:=59) rfl ?_);refine cf (some 15) rfl rfl Tryz.func59 (by kernel_rfl) rfl #[bh (.slice A0 l0.length c0), .int .u64 (rd l1 x9_1)] rfl (jK hT_HR0) ?_;(try rw[←hT_HR0]);(with_reducible refine(dF.calls _ _ l0 (rd l1 x9_1) true _ ?side1 ?side2 A13.out).mono ?_);(case side1=>exact cr HR0.out);(case side2=>exact HC0.out);rintro e w' ⟨rfl,⟨nd,rfl⟩⟩;refine⟨_,rfl,?_⟩))
        go_roundg k1
        case measure=>have:=HK1.out;omega
        case rel=>exact⟨(wrap64 (x9_1+1)),ba,H',⟨by have:=HK1.out;omega⟩,dA⟩
       ·replace fu:=Bool.eq_false_iff.mpr fu
        subst fu
        have H1:=H;rw[if_neg (show¬(false=true) by decide)] at H1
        clear H
        have H:=H1
        clear H1
        obtain rfl:=Option.some.inj H
        have p102:0≤(x9_1:Int):=of_decide_eq_true (by assumption)
        have q102:x9_1<(l1.length:Int):=of_decide_eq_true (by assumption)
        obtain⟨ad102,e102,hx102_0⟩:=Kd.cS HR1.out x9_1 p102 q102
        cases e102
        replace p102:=eq_true p102
        replace q102:=eq_true q102
        go_wp2_with (first|((with_reducible refine aC (f:=59) rfl ?_);refine cf (some 15) rfl rfl Tryz.func59 (by kernel_rfl) rfl #[bh (.slice A0 l0.length c0), .int .u64 (rd l1 x9_1)] rfl (jK hT_HR0) ?_;(try rw[←hT_HR0]);(with_reducible refine(dF.calls _ _ l0 (rd l1 x9_1) false _ ?side1 ?side2 A13.out).mono ?_);(case side1=>exact cr HR0.out);(case side2=>exact HC0.out);rintro e w' ⟨rfl,⟨nd,rfl⟩⟩;refine⟨_,rfl,?_⟩))
        go_ret
        exact⟨ba,dA⟩
      ·rw[if_neg ja] at H
       exact absurd H (by simp)
     ·rw[if_neg eI] at H
      exact absurd H (by simp)
    ·rw[if_neg dR] at H
     have c10b0:=decide_eq_false dR
     clear dR
     by_cases im:(l0.length:Int)=0
     ·rw[if_pos im] at H
      have c15b0:=beq_iff_eq.mpr im
      have c15b1:=bne_eq_false_iff_eq.mpr im
      have hq_:=iJ A0 c0 (show l0.length=0 by omega)
      exact absurd (hT_HR0.symm.trans hq_) (by simp)
     ·rw[if_neg im] at H
      have c15b0:=beq_eq_false_iff_ne.mpr im
      have c15b1:=bne_iff_ne.mpr im
      have c15b2: ¬(l0=[]):=fun h_=>im (by rw[h_];rfl)
      obtain⟨aT_HR0,hT_HR0⟩:=j6 A0 c0 (show¬(l0.length=0) by omega)
      (try rw[hT_HR0])
      obtain rfl:=Option.some.inj H
      go_wp2
      go_ret
      exact⟨ba,dA⟩
noncomputable def dr.l0:Nat→List (ct)→Int→List Int→List Int→Int→Int→Option (List Int)
 |0,_,_,_,_,_,_=>none
 |k+1,x0,x5,x6,x19,x20,x21=>if x21<x20 then(if 0≤x21 then(if x21<(x19.length:Int) then((bd.f x0 x5 (rd x19 x21)).bind fun t110=>(if x21<(x6.length:Int) then(dr.l0 k x0 x5 (x6.set (x21:Int).toNat t110) x19 x20 (wrap64 (x21+1))) else(none))) else(none)) else(none)) else(some x6)
noncomputable def dr.f(k:Nat)(l0:List (ct))(l1:List Int):Option (List Int):=(cV.f l0 (IntKind.u64.wrap ((l1.length:Int)))).bind fun t104=>((ck.f l0 t104).bind fun t105=>(if 0≤(l1.length:Int) then(if((l1.length:Int):Int).toNat≤35184372088832 then(dr.l0 k l0 t105 (List.replicate ((l1.length:Int):Int).toNat 0) l1 (l1.length:Int) 0) else(none)) else(none)))
set_option maxHeartbeats 8000000 in
set_option maxRecDepth 100000 in
theorem dr.calls(k:Nat)(A0:Option Addr)(c0:Nat)(l0:List (ct))(A1:Option Addr)(c1:Nat)(l1:List Int)(r:List Int)(w:World)(hr0:Kd.C fK w A0 l0.length l0)(hc0:l0.length≤c0)(hr1:Kd.C (Kd.int .u64) w A1 l1.length l1)(hc1:l1.length≤c1)(h:dr.f k l0 l1=some r):
  Calls Tryz.prog 25 #[bh (.slice A0 l0.length c0), .slice A1 l1.length c1] w fun e w'=> ∃v0_:Value,e= .returned (v0_)∧Kd.R (Kd.int .u64) 22 w' w.heap.size (fun _=>True) v0_ r∧Below w.heap.size w w':=by
 have HR0:=aa.mk hr0
 have HC0:=aa.mk hc0
 clear hr0 hc0
 have HR1:=aa.mk hr1
 have HC1:=aa.mk hc1
 clear hr1 hc1
 have HB:=aa.mk (Below.refl w.heap.size w)
 have H:=h;unfold dr.f at H
 clear h
 replace H:=Option.bind_eq_some_iff.mp H
 obtain⟨t104,A30,H⟩:=H
 (try dsimp only at H)
 have A3:=aa.mk A30
 clear A30
 replace H:=Option.bind_eq_some_iff.mp H
 obtain⟨t105,A40,H⟩:=H
 (try dsimp only at H)
 have A4:=aa.mk A40
 clear A40
 by_cases c5:0≤(l1.length:Int)
 ·rw[if_pos c5] at H
  have c5b0:=eq_true c5
  have c5b1:=decide_eq_true c5
  clear c5
  by_cases c6:((l1.length:Int):Int).toNat≤35184372088832
  ·rw[if_pos c6] at H
   have c6b0:=eq_true c6
   have c6b1:=decide_eq_true c6
   clear c6
   obtain⟨y106,hy106⟩: ∃y_:List Int,y_=(List.replicate ((l1.length:Int):Int).toNat 0):=⟨_,rfl⟩
   replace H:(dr.l0 k l0 t105 y106 l1 (l1.length:Int) 0)=some r:=by first|(rw[hy106];with_reducible exact H)|(have H2_:=(Option.bind_some _ _).symm.trans H;rw[hy106];with_reducible exact H2_)|(have H2_:=(Option.bind_some _ _).symm.trans H;with_reducible exact H2_)|with_reducible exact H|(rw[hy106];exact H)|exact H
   have Ny106:=aa.mk hy106
   clear hy106
   have H':=aa.mk H
   clear H
   go_enter Tryz.func25,Tryz.ntmps25
   go_wp2_with (first|((with_reducible refine aC (f:=61) rfl ?_);refine cf (some 14) rfl rfl Tryz.func61 (by kernel_rfl) rfl #[bh (.slice A0 l0.length c0), .int .u64 (IntKind.u64.wrap ((l1.length:Int)))] rfl (by(try simp only[List.map_toArray,List.map_cons,List.map_nil]);first|done|(rw[hT_HR0]<;>rfl)|rfl|(simp only[List.length_drop,List.length_take];rfl)) ?_;(try rw[←hT_HR0]);(with_reducible refine(cV.calls _ _ l0 (IntKind.u64.wrap ((l1.length:Int))) t104 _ ?side1 ?side2 A3.out).mono ?_);(case side1=>exact cr HR0.out);(case side2=>exact HC0.out);rintro e w' ⟨rfl,⟨nd,rfl⟩⟩;refine⟨_,rfl,?_⟩)|((with_reducible refine aC (f:=60) rfl ?_);refine cf (some 15) rfl rfl Tryz.func60 (by kernel_rfl) rfl #[bh (.slice A0 l0.length c0), .int .u64 t104] rfl (by(try simp only[List.map_toArray,List.map_cons,List.map_nil]);first|done|(rw[hT_HR0]<;>rfl)|rfl|(simp only[List.length_drop,List.length_take];rfl)) ?_;(try rw[←hT_HR0]);(with_reducible refine(ck.calls _ _ l0 t104 t105 _ ?side1 ?side2 A4.out).mono ?_);(case side1=>exact cr HR0.out);(case side2=>exact HC0.out);rintro e w' ⟨rfl,⟨nd,rfl⟩⟩;refine⟨_,rfl,?_⟩)|((with_reducible refine a8 (N:=18) rfl ?_);refine Kd.jl (Kd.int .u64) _ 22 rfl (N:=18) rfl 26 _ _ rfl (l1.length:Int) rfl rfl Tryz.underlying26 (.int .u64 0) 8 ff rfl (by decide) (by omega) 0 (ok:=fun _=>True) (okp:=fun _=>True) rfl (fun _ hk=>hk) trivial (of_decide_eq_true (by assumption)) (Nat.le_trans (Nat.mul_le_mul_right _ (of_decide_eq_true (by assumption):(l1.length:Int).toNat≤35184372088832)) (by omega)) (Below.refl _ _) (Nat.le_refl _) ?_;intro v107 w7 ho8 hb hg_ hnew_;clear hg_ hnew_;(first|rw[←Ny106.out] at ho8|(simp only[Int.reduceToNat] at ho8;rw[←Ny106.out] at ho8));have n0_:=aa.mk (Kd.bA ho8 (ah aj));have n1_:=aa.mk (ai aj hb);clear HB;have HO108:=n0_;have HB:=n1_;clear n0_ n1_;clear hb ho8))
   go_loopg [21] k (fun kq v21 w'=> ∃(x6_1:List Int) (x21_1:Int),v21= .int .i64 x21_1∧aa (dr.l0 kq l0 t105 x6_1 l1 (l1.length:Int) x21_1=some r)∧aa (kq≤k)∧aa (Kd.R (Kd.int .u64) 22 w' w.heap.size (fun _=>True) v107 x6_1)∧aa (Below w.heap.size w w'))
   case atStart=>exact⟨(y106),(0),ba,H',⟨Nat.le_refl _⟩,⟨bw HO108.out⟩,⟨aj⟩⟩
   case round=>
    clear H'
    obtain⟨x6_1,x21_1,rfl,HA,HK1,HO_6,HB⟩:=hrel
    cases gk with
    |zero=>exact absurd HA.out (by simp[dr.l0])
    |succ k1=>
     have H:=HA.out
     clear HA
     simp only[dr.l0] at H
     by_cases c9:x21_1<(l1.length:Int)
     ·rw[if_pos c9] at H
      have c9b0:=decide_eq_true c9
      clear c9
      by_cases dR:0≤x21_1
      ·rw[if_pos dR] at H
       have c10b0:=decide_eq_true dR
       clear dR
       by_cases eI:x21_1<(l1.length:Int)
       ·rw[if_pos eI] at H
        have c11b0:=decide_eq_true eI
        clear eI
        replace H:=Option.bind_eq_some_iff.mp H
        obtain⟨t110,A120,H⟩:=H
        (try dsimp only at H)
        have A12:=aa.mk A120
        clear A120
        by_cases js:x21_1<(x6_1.length:Int)
        ·rw[if_pos js] at H
         have c13b0:=decide_eq_true js
         clear js
         obtain⟨y111,hy111⟩: ∃y_:List Int,y_=(x6_1.set (x21_1:Int).toNat t110):=⟨_,rfl⟩
         replace H:(dr.l0 k1 l0 t105 y111 l1 (l1.length:Int) (wrap64 (x21_1+1)))=some r:=by first|(rw[hy111];with_reducible exact H)|(have H2_:=(Option.bind_some _ _).symm.trans H;rw[hy111];with_reducible exact H2_)|(have H2_:=(Option.bind_some _ _).symm.trans H;with_reducible exact H2_)|with_reducible exact H|(rw[hy111];exact H)|exact H
         have Ny111:=aa.mk hy111
         clear hy111
         have H':=aa.mk H
         clear H
         have p109:0≤(x21_1:Int):=of_decide_eq_true (by assumption)
         have q109:x21_1<(l1.length:Int):=of_decide_eq_true (by assumption)
         obtain⟨ad109,e109,hx109_0⟩:=Kd.cS HR1.out x21_1 p109 q109
         cases e109
         replace hx109_0:=ej HB.out hx109_0
         replace p109:=eq_true p109
         replace q109:=eq_true q109
         go_wp2_with (first|((with_reducible refine aC (f:=62) rfl ?_);refine cf (some 31) rfl rfl Tryz.func62 (by kernel_rfl) rfl #[bh (.slice A0 l0.length c0), .int .u64 t105, .int .u64 (rd l1 x21_1)] rfl (by(try simp only[List.map_toArray,List.map_cons,List.map_nil]);first|done|(rw[hT_HR0]<;>rfl)|rfl|(simp only[List.length_drop,List.length_take];rfl)) ?_;(try rw[←hT_HR0]);(with_reducible refine(bd.calls _ _ l0 t105 (rd l1 x21_1) t110 _ ?side1 ?side2 A12.out).mono ?_);(case side1=>exact cr (Kd.bl HR0.out HB.out));(case side2=>exact HC0.out);rintro e w' ⟨rfl,⟨nd,rfl⟩⟩;refine⟨_,rfl,?_⟩;(try(rw[kD wr];generalize hq_:World.drewN wr _=wr;have n0_:aa (Kd.R (Kd.int .u64) 22 wr w.heap.size (fun _=>True) v107 x6_1):=⟨by rw[←hq_];exact(bw HO_6.out)⟩;have n1_:aa (Below w.heap.size w wr):=⟨by rw[←hq_];exact aj⟩;clear HO_6 HB hq_;have HO_6:=n0_;have HB:=n1_;clear n0_ n1_));have p14:0≤(x21_1:Int):=of_decide_eq_true (by assumption);have q14:(x21_1:Int)<((x6_1.length:Int):Int):=of_decide_eq_true (by assumption);obtain⟨go14,co14,eo14,gb14,gl14,cl14,HG14⟩:=Kd.gu HO_6.out (by omega);(first|cases eo14|(injection eo14 with ea_ en_ ec_;(first|subst ea_|(injection ea_ with ea_;subst ea_));subst ec_;clear en_));have GB14:=aa.mk gb14;have GG14:=aa.mk HG14;clear gb14 gl14 HG14;obtain⟨hx14_0,hf14_0⟩:=Kd.eR 0 HO_6.out (x21_1:Int) p14 q14;replace p14:=eq_true p14;replace q14:=eq_true q14;obtain⟨hy15_,hz15_⟩:=Kd.eR 0 HO_6.out (x21_1:Int) (of_decide_eq_true (by assumption)) (of_decide_eq_true (by assumption));have HP15:=Kd.iZ HO_6.out (x21_1:Int) t110)|((with_reducible refine e8 (t:=22) (p:=32) rfl ?_);refine eK (t:=22) (p:=32) (v:=?vo_w16) (w1:=(wr.setCell ⟨go14,(x21_1:Int).toNat,none⟩ (.int .u64 t110))) ?hg ?ho ?hn ?hr ?_;(case ho=>rfl);(case hg=>rfl);(case hn=>rfl);(case hr=>first|(go_simp;done)|(go_simp;rfl));intro w16 hw;have hg:wr.grownBy w16 (some go14):=(by rw[hw];exact HP15.2);have hp_:Kd.R (Kd.int .u64) 22 w16 w.heap.size (fun _=>True) (.slice (some ⟨go14,0,none⟩) x6_1.length co14) y111:=(by rw[hw,Ny111.out];exact HP15.1);clear HP15;have n0_:=aa.mk (hp_);have n1_:=aa.mk ((by rw[hw];exact cq (HB.out) GB14.out:Below w.heap.size w w16));clear HO_6;clear HB;have HO_6:=n0_;have HB:=n1_;clear n0_ n1_;clear hg hw hp_))
         go_roundg k1
         case measure=>have:=HK1.out;omega
         case rel=>exact⟨(y111),(wrap64 (x21_1+1)),ba,H',⟨by have:=HK1.out;omega⟩,⟨bw HO_6.out⟩,⟨aj⟩⟩
        ·rw[if_neg js] at H
         exact absurd H (by simp)
       ·rw[if_neg eI] at H
        exact absurd H (by simp)
      ·rw[if_neg dR] at H
       exact absurd H (by simp)
     ·rw[if_neg c9] at H
      have c9b0:=decide_eq_false c9
      clear c9
      obtain rfl:=Option.some.inj H
      go_wp2
      go_ret
      exact⟨_,ba,bw HO_6.out,aj⟩
  ·rw[if_neg c6] at H
   exact absurd H (by simp)
 ·rw[if_neg c5] at H
  exact absurd H (by simp)
end Go.Proofs.YtndkmnjbjlfeaaaGreat.XG
end
section
namespace Go.Proofs.YtndkmnjbjlfeaaaGreat.XG
open Go.RowKit Go.Proofs.YtndkmnjbjlfeaaaGreat.Given Go.Proofs.YtndkmnjbjlfeaaaGreat.Row05 Go.Proofs.YtndkmnjbjlfeaaaGreat.XS Go.Proofs.YtndkmnjbjlfeaaaGreat.XT Go.Proofs.YtndkmnjbjlfeaaaGreat.XR Go.Proofs.YtndkmnjbjlfeaaaGreat.F06 Go.Proofs.YtndkmnjbjlfeaaaGreat.XK Go.Proofs.YtndkmnjbjlfeaaaGreat.XW Go.Proofs.YtndkmnjbjlfeaaaGreatW.PrintWords Go.Proofs.YtndkmnjbjlfeaaaGreatW.PrintLast Go.Proofs.YtndkmnjbjlfeaaaGreatW.PrintMore
attribute [local go_sem] bZ bW cC cB bG bH bX ca
set_option linter.unusedVariables false
set_option linter.unusedSimpArgs false
mutual
noncomputable def cg.l0:Nat→List (ct)→List Int→Int→List Int→List Int→Int→Int→Option (List Int)
 |0,_,_,_,_,_,_,_=>none
 |k+1,x0,x1,x7,x8,x10,x27,x28=>if x28<x27 then(cg.l1 k x0 x1 x7 x8 x10 x28 0 x27 x28 x1 (x1.length:Int) 0) else(some x10)
noncomputable def cg.l1:Nat→List (ct)→List Int→Int→List Int→List Int→Int→Int→Int→Int→List Int→Int→Int→Option (List Int)
 |0,_,_,_,_,_,_,_,_,_,_,_,_=>none
 |k+1,x0,x1,x7,x8,x10,x11,x12,x27,x28,x31,x32,x33=>if x33<x32 then(if 0≤x33 then(if x33<(x31.length:Int) then(if 0≤x11 then(if x11<(x10.length:Int) then(if 0≤x12 then(if x12<(x8.length:Int) then((bd.f x0 (rd x8 x12) (rd x31 x33)).bind fun t122=>((cW.f x0 (rd x10 x11) t122).bind fun t123=>(if x7=0 then(none) else(cg.l1 k x0 x1 x7 x8 (x10.set (x11:Int).toNat t123) x11 (Int.tmod (wrap64 (x12+x11)) x7) x27 x28 x31 x32 (wrap64 (x33+1)))))) else(none)) else(none)) else(none)) else(none)) else(none)) else(none)) else(cg.l0 k x0 x1 x7 x8 x10 x27 (wrap64 (x28+1)))
end
noncomputable def cg.f(k:Nat)(l0:List (ct))(l1:List Int)(a2:Bool):Option (List Int):=(dS.f k l0 (l1.length:Int) a2).bind fun bt112=>(if 0≤(l1.length:Int) then(if((l1.length:Int):Int).toNat≤35184372088832 then((some (List.replicate ((l1.length:Int):Int).toNat 0:List Int)).bind fun y116=>(cg.l0 k l0 l1 (l1.length:Int) bt112.1 y116 (y116.length:Int) 0)) else(none)) else(none))
def cg.Bz:Bool×List (List Nat×List Nat):=(true,[([],[]),([],[]),([],[]),([],[]),([],[]),([3,4],[3,4]),([5],[5]),([],[]),([],[]),([],[]),([8,9],[8,9]),([10],[10]),([],[]),([7,11,12],[7,11,12]),([2,6,13,13],[2,6,13]),([0,1,0,1,2,3,4,5,6,7,8,9,10,11,12,13,14],[0,1]),([15,14,14,0,1,2,3,4,5,6,7,8,9,10,11,12,13,14],[14,15])])
def cg.BJ:List Nat:=[0,0,0,0,0,24,56,0,0,0,768,1792,0,8064,16380,32767,65535]
theorem cg.Am:gq .any (opsOf Tryz.f53 11)=cg.Bz:=by kernel_rfl
theorem cg.zL:fL cg.Bz.2 cg.BJ=true:=by kernel_rfl
set_option maxHeartbeats 8000000 in
set_option maxRecDepth 100000 in
theorem cg.calls(k:Nat)(A0:Option Addr)(c0:Nat)(l0:List (ct))(A1:Option Addr)(c1:Nat)(l1:List Int)(a2:Bool)(r:List Int)(w:World)(hr0:Kd.C fK w A0 l0.length l0)(hc0:l0.length≤c0)(hr1:Kd.C (Kd.int .u64) w A1 l1.length l1)(hc1:l1.length≤c1)(h:cg.f k l0 l1 a2=some r):
  Calls Tryz.prog 53 #[bh (.slice A0 l0.length c0), .slice A1 l1.length c1, .bool a2] w fun e w'=> ∃v0_:Value,e= .returned (v0_)∧Kd.R (Kd.int .u64) 22 w' w.heap.size (fun _=>True) v0_ r∧Below w.heap.size w w':=by
 have HR0:=aa.mk hr0
 have HC0:=aa.mk hc0
 clear hr0 hc0
 have HR1:=aa.mk hr1
 have HC1:=aa.mk hc1
 clear hr1 hc1
 have HB:=aa.mk (Below.refl w.heap.size w)
 have H:=h;unfold cg.f at H
 clear h
 replace H:=Option.bind_eq_some_iff.mp H
 obtain⟨⟨t112,t113⟩,A40,H⟩:=H
 (try dsimp only at H)
 have A4:=aa.mk A40
 clear A40
 by_cases c5:0≤(l1.length:Int)
 ·rw[if_pos c5] at H
  have c5b0:=eq_true c5
  have c5b1:=decide_eq_true c5
  clear c5
  by_cases c6:((l1.length:Int):Int).toNat≤35184372088832
  ·rw[if_pos c6] at H
   have c6b0:=eq_true c6
   have c6b1:=decide_eq_true c6
   clear c6
   obtain⟨y116,hy116⟩: ∃y_:List Int,y_=(List.replicate ((l1.length:Int):Int).toNat 0):=⟨_,rfl⟩
   replace H:(cg.l0 k l0 l1 (l1.length:Int) t112 y116 (y116.length:Int) 0)=some r:=by first|(rw[hy116];with_reducible exact H)|(have H2_:=(Option.bind_some _ _).symm.trans H;rw[hy116];with_reducible exact H2_)|(have H2_:=(Option.bind_some _ _).symm.trans H;with_reducible exact H2_)|with_reducible exact H|(rw[hy116];exact H)|exact H
   have Ny116:=aa.mk hy116
   clear hy116
   have H':=aa.mk H
   clear H
   go_enter Tryz.func53,Tryz.ntmps53
   go_wp2_with (first|((with_reducible refine aC (f:=66) rfl ?_);refine cf (some 21) rfl rfl Tryz.func66 (by kernel_rfl) rfl #[bh (.slice A0 l0.length c0), .int .i64 (l1.length:Int), .bool a2] rfl (by(try simp only[List.map_toArray,List.map_cons,List.map_nil]);first|done|(rw[hT_HR0]<;>rfl)|rfl|(simp only[List.length_drop,List.length_take];rfl)) ?_;(try rw[←hT_HR0]);(with_reducible refine(dS.calls k _ _ l0 (l1.length:Int) a2 t112 t113 _ ?side1 ?side2 A4.out).mono ?_);(case side1=>exact cr HR0.out);(case side2=>exact HC0.out);rintro e w7 ⟨v114,rfl,ho0,hb⟩;refine⟨_,rfl,?_⟩;have n0_:=aa.mk (Kd.bA ho0 (ah aj));have n1_:=aa.mk (ai aj hb);clear HB;have HO115:=n0_;have HB:=n1_;clear n0_ n1_;(try clear ho0))|((with_reducible refine a8 (N:=25) rfl ?_);refine Kd.jl (Kd.int .u64) _ 22 rfl (N:=25) rfl 26 _ _ rfl (l1.length:Int) rfl rfl Tryz.underlying26 (.int .u64 0) 8 ff rfl (by decide) (by omega) 0 (ok:=fun _=>True) (okp:=fun _=>True) rfl (fun _ hk=>hk) trivial (of_decide_eq_true (by assumption)) (Nat.le_trans (Nat.mul_le_mul_right _ (of_decide_eq_true (by assumption):(l1.length:Int).toNat≤35184372088832)) (by omega)) (Below.refl _ _) (Nat.le_refl _) ?_;intro v117 w8 ho9 hb hg_ hnew_;clear hg_ hnew_;(first|rw[←Ny116.out] at ho9|(simp only[Int.reduceToNat] at ho9;rw[←Ny116.out] at ho9));have n0_:=aa.mk (Kd.dp (bw HO115.out) (Kd.dP ho9) hb);have n1_:=aa.mk (Kd.bA (Kd.ek ho9 (Kd.gI (bw HO115.out))) (ah aj));have n2_:=aa.mk (ai aj hb);clear HO115;clear HB;have HO115:=n0_;have HO118:=n1_;have HB:=n2_;clear n0_ n1_ n2_;clear hb ho9;obtain⟨Ao10,co10,eo10⟩:=Kd.bF HO118.out;subst eo10))
   go_loopg [28] k (fun kq v28 w'=> ∃(x10_1:List Int) (x28_1:Int),v28= .int .i64 x28_1∧aa (cg.l0 kq l0 l1 (l1.length:Int) t112 x10_1 (y116.length:Int) x28_1=some r)∧aa (kq≤k)∧aa (Kd.R (Kd.int .u64) 22 w' w.heap.size (fun k_=>some k_≠((.slice Ao10 y116.length co10):Value).ownBlock) v114 t112)∧aa (Kd.R (Kd.int .u64) 22 w' w.heap.size (fun k_=>some k_≠(v114:Value).ownBlock) (.slice Ao10 y116.length co10) x10_1)∧aa (Below w.heap.size w w'))
   case atStart=>exact⟨(y116),(0),ba,H',⟨Nat.le_refl _⟩,⟨by(with_reducible repeat(first|apply Kd.bE|apply Kd.bL|apply Kd.bO));exact Kd.bz HO115.out (fun _ hk=>hk.2)⟩,⟨by(with_reducible repeat(first|apply Kd.bE|apply Kd.bL|apply Kd.bO));exact Kd.bz HO118.out (fun _ hk=>hk.2)⟩,⟨aj⟩⟩
   case round=>
    clear H'
    obtain⟨x10_1,x28_1,rfl,HA,HK1,HO_8,HO_10,HB⟩:=hrel
    have hl10_1:=(Kd.aA HO_10.out).1
    rw[hl10_1] at HO_10
    (try simp only[hl10_1])
    (try simp only[hl10_1] at HO_8)
    cases gk with
    |zero=>exact absurd HA.out (by simp[cg.l0])
    |succ k1=>
     have H:=HA.out
     clear HA
     simp only[cg.l0] at H
     by_cases eI:x28_1<(y116.length:Int)
     ·rw[if_pos eI] at H
      have c11b0:=decide_eq_true eI
      (try(have c11b0hl10_1:=c11b0;simp only[hl10_1] at c11b0hl10_1))
      clear eI
      have H':=aa.mk H
      clear H
      go_wp2
      go_loopg [12,33] k1 (fun kq v12 v33 w'=> ∃(x10_2:List Int) (x12_2:Int) (x33_2:Int),v12= .int .i64 x12_2∧v33= .int .i64 x33_2∧aa (cg.l1 kq l0 l1 (l1.length:Int) t112 x10_2 x28_1 x12_2 (y116.length:Int) x28_1 l1 (l1.length:Int) x33_2=some r)∧aa (kq≤k1)∧aa (Kd.R (Kd.int .u64) 22 w' w.heap.size (fun k_=>some k_≠((.slice Ao10 x10_1.length co10):Value).ownBlock) v114 t112)∧aa (Kd.R (Kd.int .u64) 22 w' w.heap.size (fun k_=>some k_≠(v114:Value).ownBlock) (.slice Ao10 x10_1.length co10) x10_2)∧aa (Below w.heap.size w w'))
      case atStart=>exact⟨(x10_1),(0),(0),ba,ba,H',⟨Nat.le_refl _⟩,⟨by(try simp only[hl10_1]);(with_reducible repeat(first|apply Kd.bE|apply Kd.bL|apply Kd.bO));exact HO_8.out⟩,⟨by(try simp only[hl10_1]);(with_reducible repeat(first|apply Kd.bE|apply Kd.bL|apply Kd.bO));exact HO_10.out⟩,⟨aj⟩⟩
      case round=>
       clear H'
       obtain⟨x10_2,x12_2,x33_2,rfl,rfl,HA,HK2,HO_8,HO_10,HB⟩:=hrel
       have hl10_2:=(Kd.aA HO_10.out).1
       rw[hl10_2] at HO_10
       (try simp only[hl10_2])
       (try simp only[hl10_2] at HO_8)
       cases gk with
       |zero=>exact absurd HA.out (by simp[cg.l1])
       |succ k2=>
        have H:=HA.out
        clear HA
        simp only[cg.l1] at H
        by_cases ja:x33_2<(l1.length:Int)
        ·rw[if_pos ja] at H
         have c12b0:=decide_eq_true ja
         (try(have c12b0hl10_1:=c12b0;simp only[hl10_1] at c12b0hl10_1))
         (try(have c12b0hl10_2:=c12b0;simp only[hl10_2] at c12b0hl10_2))
         clear ja
         by_cases js:0≤x33_2
         ·rw[if_pos js] at H
          have c13b0:=decide_eq_true js
          clear js
          by_cases fu:x33_2<(l1.length:Int)
          ·rw[if_pos fu] at H
           have c14b0:=decide_eq_true fu
           (try(have c14b0hl10_1:=c14b0;simp only[hl10_1] at c14b0hl10_1))
           (try(have c14b0hl10_2:=c14b0;simp only[hl10_2] at c14b0hl10_2))
           clear fu
           by_cases im:0≤x28_1
           ·rw[if_pos im] at H
            have c15b0:=decide_eq_true im
            clear im
            by_cases ji:x28_1<(x10_2.length:Int)
            ·rw[if_pos ji] at H
             have c16b0:=decide_eq_true ji
             (try(have c16b0hl10_1:=c16b0;simp only[hl10_1] at c16b0hl10_1))
             (try(have c16b0hl10_2:=c16b0;simp only[hl10_2] at c16b0hl10_2))
             clear ji
             by_cases gQ:0≤x12_2
             ·rw[if_pos gQ] at H
              have c17b0:=decide_eq_true gQ
              clear gQ
              by_cases jy:x12_2<(t112.length:Int)
              ·rw[if_pos jy] at H
               have c18b0:=decide_eq_true jy
               (try(have c18b0hl10_1:=c18b0;simp only[hl10_1] at c18b0hl10_1))
               (try(have c18b0hl10_2:=c18b0;simp only[hl10_2] at c18b0hl10_2))
               clear jy
               replace H:=Option.bind_eq_some_iff.mp H
               obtain⟨t122,A190,H⟩:=H
               (try dsimp only at H)
               have A19:=aa.mk A190
               clear A190
               replace H:=Option.bind_eq_some_iff.mp H
               obtain⟨t123,A200,H⟩:=H
               (try dsimp only at H)
               have A20:=aa.mk A200
               clear A200
               obtain⟨y124,hy124⟩: ∃y_:List Int,y_=(x10_2.set (x28_1:Int).toNat t123):=⟨_,rfl⟩
               replace H:(if(l1.length:Int)=0 then(none) else(cg.l1 k2 l0 l1 (l1.length:Int) t112 y124 x28_1 (Int.tmod (wrap64 (x12_2+x28_1)) (l1.length:Int)) (y116.length:Int) x28_1 l1 (l1.length:Int) (wrap64 (x33_2+1))))=some r:=by first|(rw[hy124];with_reducible exact H)|(have H2_:=(Option.bind_some _ _).symm.trans H;rw[hy124];with_reducible exact H2_)|(have H2_:=(Option.bind_some _ _).symm.trans H;with_reducible exact H2_)|with_reducible exact H|(rw[hy124];exact H)|exact H
               have Ny124:=aa.mk hy124
               clear hy124
               by_cases pN:(l1.length:Int)=0
               ·rw[if_pos pN] at H
                exact absurd H (by simp)
               ·rw[if_neg pN] at H
                have c22b0:=beq_eq_false_iff_ne.mpr pN
                have c22b1:=bne_iff_ne.mpr pN
                have c22b2: ¬(l1=[]):=fun h_=>pN (by rw[h_];rfl)
                (try(have c22b0hl10_1:=c22b0;simp only[hl10_1] at c22b0hl10_1))
                (try(have c22b1hl10_1:=c22b1;simp only[hl10_1] at c22b1hl10_1))
                (try(have c22b0hl10_2:=c22b0;simp only[hl10_2] at c22b0hl10_2))
                (try(have c22b1hl10_2:=c22b1;simp only[hl10_2] at c22b1hl10_2))
                have H':=aa.mk H
                clear H
                have p119:0≤(x33_2:Int):=of_decide_eq_true (by assumption)
                have q119:x33_2<(l1.length:Int):=of_decide_eq_true (by assumption)
                obtain⟨ad119,e119,hx119_0⟩:=Kd.cS HR1.out x33_2 p119 q119
                cases e119
                replace hx119_0:=ej HB.out hx119_0
                replace p119:=eq_true p119
                replace q119:=eq_true q119
                try go_wp2
                have n0_:=aa.mk (Kd.bO HO_8.out)
                have n1_:=aa.mk (Kd.bO HO_10.out)
                have n2_:=aa.mk (bx HB.out)
                clear HO_8
                clear HO_10
                clear HB
                have HO_8:=n0_
                have HO_10:=n1_
                have HB:=n2_
                clear n0_ n1_ n2_
                have p120:0≤(x28_1:Int):=of_decide_eq_true (by assumption)
                have q120:x28_1<(x10_2.length:Int):=of_decide_eq_true (by assumption)
                obtain⟨ad120,e120,hx120_0⟩:=Kd.cS (Kd.aA HO_10.out).2.2 x28_1 p120 q120
                cases e120
                replace p120:=eq_true p120
                replace q120:=eq_true q120
                obtain⟨Ao24,co24,eo24⟩:=Kd.bF HO_8.out
                (first|subst eo24|(injection eo24 with f1_ f2_ f3_;have f4_:=f1_.symm;have f5_:=f3_.symm;clear f1_ f2_ f3_;subst f4_;subst f5_))
                have p121:0≤(x12_2:Int):=of_decide_eq_true (by assumption)
                have q121:x12_2<(t112.length:Int):=of_decide_eq_true (by assumption)
                obtain⟨ad121,e121,hx121_0⟩:=Kd.cS (Kd.aA HO_8.out).2.2 x12_2 p121 q121
                cases e121
                replace p121:=eq_true p121
                replace q121:=eq_true q121
                refine fN (n:=17) (S:=fun w'=>w'.cell? (ad120.add (x28_1).toNat)=some (.int .u64 (rd x10_2 x28_1))∧w'.cell? (ad121.add (x12_2).toNat)=some (.int .u64 (rd t112 x12_2))) (ds:=[16]) #[false,false,false,false,false,false,false,false,false,false,false,false,false,false,false,false,false] (by kernel_rfl) rfl rfl ⟨hx120_0,hx121_0⟩ (fun hHeld=>?_);refine ey cg.Am cg.zL (fun HT_ HW_=>?_)
                generalize wr.drew=w23 at HO_8 HO_10 HB hx120_0 hx121_0 hHeld ⊢
                refine dt 0 37 HT_ rfl rfl ?_
                refine dt 1 38 HT_ rfl rfl ?_
                refine dt 2 39 HT_ rfl rfl ?_
                refine dt 3 40 HT_ rfl rfl ?_
                refine dt 4 41 HT_ rfl rfl ?_
                refine dt 5 42 HT_ rfl rfl ?_
                refine dt 7 44 HT_ rfl rfl ?_
                refine dt 8 45 HT_ rfl rfl ?_
                refine dt 9 46 HT_ rfl rfl ?_
                refine dt 10 47 HT_ rfl rfl ?_
                refine dt 12 49 HT_ rfl rfl ?_
                refine jC 6 43 (cm HT_.out HW_.out (by kernel_rfl)) hHeld (by rintro w' ⟨s0,s1⟩;go_simp;with_reducible rfl) rfl rfl ?_
                refine jC 11 48 (cm HT_.out HW_.out (by kernel_rfl)) hHeld (by rintro w' ⟨s0,s1⟩;go_simp;with_reducible rfl) rfl rfl ?_
                refine jG (i:=13) (N:=some 50) #[true,true,true,true,true,true,true,true,true,true,true,true,true,true,false,false,false] rfl rfl (fe HT_.out (by kernel_rfl)) (by decide) (fun K hK=>?_)
                refine gN Tryz.func62 (by kernel_rfl) rfl #[bh (.slice A0 l0.length c0), .int .u64 (rd t112 x12_2), .int .u64 (rd l1 x33_2)] (by rfl) rfl rfl (by(try simp only[List.map_toArray,List.map_cons,List.map_nil]);first|done|(rw[hT_HR0]<;>rfl)|(rw[hT_HR0]<;>rfl)|rfl|(simp only[List.length_drop,List.length_take];rfl)) ?_
                (try rw[←hT_HR0])
                with_reducible refine(bd.calls _ _ l0 (rd t112 x12_2) (rd l1 x33_2) t122 _ ?side1 ?side2 A19.out).mono ?_
                (case side1=>exact cr (Kd.bl HR0.out HB.out))
                (case side2=>exact HC0.out)
                rintro e w' ⟨rfl,⟨nd,rfl⟩⟩
                refine⟨_,rfl,?_⟩
                refine hK.out _ _ ⟨hHeld.1,hHeld.2⟩ (fun hHeld=>?_)
                clear hK K
                refine qU ?_
                refine jG (i:=14) (N:=some 51) #[true,true,true,true,true,true,true,true,true,true,true,true,true,true,true,false,false] rfl rfl (fe HT_.out (by kernel_rfl)) (by decide) (fun K hK=>?_)
                refine gN Tryz.func96 (by kernel_rfl) rfl #[bh (.slice A0 l0.length c0), .int .u64 (rd x10_2 x28_1), .int .u64 t122] (by rfl) rfl rfl (by(try simp only[List.map_toArray,List.map_cons,List.map_nil]);first|done|(rw[hT_HR0]<;>rfl)|(rw[hT_HR0]<;>rfl)|rfl|(simp only[List.length_drop,List.length_take];rfl)) ?_
                (try rw[←hT_HR0])
                with_reducible refine(cW.calls _ _ l0 (rd x10_2 x28_1) t122 t123 _ ?side1 ?side2 A20.out).mono ?_
                (case side1=>exact cr (Kd.bl HR0.out aj))
                (case side2=>exact HC0.out)
                rintro e w' ⟨rfl,⟨nd,rfl⟩⟩
                refine⟨_,rfl,?_⟩
                have p21:0≤(x28_1:Int):=of_decide_eq_true (by assumption)
                have q21:(x28_1:Int)<((x10_2.length:Int):Int):=of_decide_eq_true (by assumption)
                obtain⟨go21,co21,eo21,gb21,gl21,cl21,HG21⟩:=Kd.gu HO_10.out (by omega)
                (first|cases eo21|(injection eo21 with ea_ en_ ec_;(first|subst ea_|(injection ea_ with ea_;subst ea_));subst ec_;clear en_))
                have GB21:=aa.mk gb21
                have GG21:=aa.mk HG21
                clear gb21 gl21 HG21
                (first|simp only[add_plain] at hx120_0|skip)
                obtain⟨hx21_0,hf21_0⟩:=Kd.eR 0 HO_10.out (x28_1:Int) p21 q21
                replace p21:=eq_true p21
                replace q21:=eq_true q21
                have HP25:=Kd.pv HO_10.out (x28_1:Int) t123
                rw[←Ny124.out] at HP25
                have HQ25:=aa.mk HP25
                clear HP25
                refine hK.out _ _ ⟨hHeld.1,hHeld.2⟩ (fun hHeld=>?_)
                clear hK K
                refine qU ?_
                refine dt 15 52 HT_ rfl rfl ?_
                refine qa (i:=16) (N:=none) #[true,true,true,true,true,true,true,true,true,true,true,true,true,true,true,true,true] rfl rfl (fe HT_.out (by kernel_rfl)) (by decide) (fun K hK=>?_)
                refine pY (w1:=?_) (by rfl) rfl ?_ ?_
                rotate_left
                ·go_simp
                 rfl
                refine hK.out _ _ ?_
                clear hK K
                refine ic (fH HT_.out (by kernel_rfl)) ?_
                try go_wp2
                (try simp only[←hl10_2])
                go_roundg k2
                case measure=>have:=HK1.out;have:=HK2.out;omega
                case rel=>exact⟨(y124),(Int.tmod (wrap64 (x12_2+x28_1)) (l1.length:Int)),(wrap64 (x33_2+1)),ba,ba,H',⟨by have:=HK1.out;have:=HK2.out;omega⟩,⟨by(try simp only[hl10_1]);(try simp only[hl10_2]);(with_reducible repeat(first|apply Kd.bE|apply Kd.bL|apply Kd.bO));exact Kd.bz (Kd.nE (p:=⟨go21,(x28_1:Int).toNat,none⟩) (Kd.bz HO_8.out (fun k_ hk=>(⟨hk,fun e_=>hk (by rw[e_];rfl)⟩:_∧k_≠go21))) (fun _ hk=>hk.2) (.int .u64 t123)) (fun _ hk=>hk.1)⟩,⟨by(try simp only[hl10_1]);(try simp only[hl10_2]);(with_reducible repeat(first|apply Kd.bE|apply Kd.bL|apply Kd.bO));exact HQ25.out⟩,⟨by repeat(first|(with_reducible first|exact HB.out|apply aW|apply ay|apply bx|refine cq ?_ GB21.out)|exact HB.out)⟩⟩
              ·rw[if_neg jy] at H
               exact absurd H (by simp)
             ·rw[if_neg gQ] at H
              exact absurd H (by simp)
            ·rw[if_neg ji] at H
             exact absurd H (by simp)
           ·rw[if_neg im] at H
            exact absurd H (by simp)
          ·rw[if_neg fu] at H
           exact absurd H (by simp)
         ·rw[if_neg js] at H
          exact absurd H (by simp)
        ·rw[if_neg ja] at H
         have c12b0:=decide_eq_false ja
         (try(have c12b0hl10_1:=c12b0;simp only[hl10_1] at c12b0hl10_1))
         (try(have c12b0hl10_2:=c12b0;simp only[hl10_2] at c12b0hl10_2))
         clear ja
         have H':=aa.mk H
         clear H
         go_wp2
         (try simp only[←hl10_1,←hl10_2])
         go_roundg k2
         case measure=>have:=HK1.out;have:=HK2.out;omega
         case rel=>exact⟨(x10_2),(wrap64 (x28_1+1)),ba,H',⟨by have:=HK1.out;have:=HK2.out;omega⟩,⟨by(try simp only[hl10_1]);(try simp only[hl10_2]);(with_reducible repeat(first|apply Kd.bE|apply Kd.bL|apply Kd.bO));exact HO_8.out⟩,⟨by(try simp only[hl10_1]);(try simp only[hl10_2]);(with_reducible repeat(first|apply Kd.bE|apply Kd.bL|apply Kd.bO));exact HO_10.out⟩,⟨aj⟩⟩
     ·rw[if_neg eI] at H
      have c11b0:=decide_eq_false eI
      (try(have c11b0hl10_1:=c11b0;simp only[hl10_1] at c11b0hl10_1))
      clear eI
      obtain rfl:=Option.some.inj H
      go_wp2
      go_ret
      exact⟨_,ba,by(with_reducible repeat(first|apply Kd.bE|apply Kd.bL|apply Kd.bO));exact Kd.bz HO_10.out (fun _ hk=>trivial),aj⟩
  ·rw[if_neg c6] at H
   exact absurd H (by simp)
 ·rw[if_neg c5] at H
  exact absurd H (by simp)
noncomputable def kg.f(k:Nat)(l0:List (ct))(l1:List Int)(a2:Bool):Option (List Int×Int):=(dc.f l0 (l1.length:Int) 1024).bind fun t125=>(if t125=0 then((cR.f k l0 l1).bind fun t126=>(if t126=true then((cg.f k l0 l1 a2).bind fun t127=>(if a2=true then((dr.f k l0 t127).bind fun t130=>(some (t130,0))) else(some (t127,0)))) else(some (([]:List Int),9)))) else(some (([]:List Int),t125)))
set_option maxHeartbeats 8000000 in
set_option maxRecDepth 100000 in
theorem kg.calls(k:Nat)(A0:Option Addr)(c0:Nat)(l0:List (ct))(A1:Option Addr)(c1:Nat)(l1:List Int)(a2:Bool)(r1:List Int)(r2:Int)(w:World)(hr0:Kd.C fK w A0 l0.length l0)(hc0:l0.length≤c0)(hr1:Kd.C (Kd.int .u64) w A1 l1.length l1)(hc1:l1.length≤c1)(h:kg.f k l0 l1 a2=some (r1,r2)):
  Calls Tryz.prog 18 #[bh (.slice A0 l0.length c0), .slice A1 l1.length c1, .bool a2] w fun e w'=> ∃v0_:Value,e= .returned (.tuple #[v0_, .int .i64 r2])∧Kd.R (Kd.int .u64) 22 w' w.heap.size (fun _=>True) v0_ r1∧Below w.heap.size w w':=by
 have HR0:=aa.mk hr0
 have HC0:=aa.mk hc0
 clear hr0 hc0
 have HR1:=aa.mk hr1
 have HC1:=aa.mk hc1
 clear hr1 hc1
 have HB:=aa.mk (Below.refl w.heap.size w)
 have H:=h;unfold kg.f at H
 clear h
 replace H:=Option.bind_eq_some_iff.mp H
 obtain⟨t125,A40,H⟩:=H
 (try dsimp only at H)
 have A4:=aa.mk A40
 clear A40
 by_cases c5:t125=0
 ·rw[if_pos c5] at H
  have c5b0:=beq_iff_eq.mpr c5
  have c5b1:=bne_eq_false_iff_eq.mpr c5
  clear c5
  replace H:=Option.bind_eq_some_iff.mp H
  obtain⟨t126,A60,H⟩:=H
  (try dsimp only at H)
  have A6:=aa.mk A60
  clear A60
  by_cases c7:t126=true
  ·subst c7
   have H1:=H;rw[if_pos rfl] at H1
   clear H
   have H:=H1
   clear H1
   replace H:=Option.bind_eq_some_iff.mp H
   obtain⟨t127,A80,H⟩:=H
   (try dsimp only at H)
   have A8:=aa.mk A80
   clear A80
   by_cases c9:a2=true
   ·subst c9
    have H1:=H;rw[if_pos rfl] at H1
    clear H
    have H:=H1
    clear H1
    replace H:=Option.bind_eq_some_iff.mp H
    obtain⟨t130,A100,H⟩:=H
    (try dsimp only at H)
    have A10:=aa.mk A100
    clear A100
    simp only[Option.some.injEq,Prod.mk.injEq] at H
    obtain⟨rfl,rfl⟩:=H
    go_enter Tryz.func18,Tryz.ntmps18
    go_wp2_with (first|((with_reducible refine aC (f:=23) rfl ?_);refine cf (some 13) rfl rfl Tryz.func23 (by kernel_rfl) rfl #[bh (.slice A0 l0.length c0), .int .i64 (l1.length:Int), .int .i64 1024] rfl (by(try simp only[List.map_toArray,List.map_cons,List.map_nil]);first|done|(rw[hT_HR0]<;>rfl)|rfl|(simp only[List.length_drop,List.length_take];rfl)) ?_;(try rw[←hT_HR0]);(with_reducible refine(dc.calls _ _ l0 (l1.length:Int) 1024 t125 _ ?side1 ?side2 A4.out).mono ?_);(case side1=>exact cr HR0.out);(case side2=>exact HC0.out);rintro e w' ⟨rfl,⟨nd,rfl⟩⟩;refine⟨_,rfl,?_⟩)|((with_reducible refine aC (f:=24) rfl ?_);refine cf (some 19) rfl rfl Tryz.func24 (by kernel_rfl) rfl #[bh (.slice A0 l0.length c0), .slice A1 l1.length c1] rfl (by(try simp only[List.map_toArray,List.map_cons,List.map_nil]);first|done|(rw[hT_HR0]<;>rfl)|rfl|(simp only[List.length_drop,List.length_take];rfl)) ?_;(try rw[←hT_HR0]);(with_reducible refine(cR.calls k _ _ l0 _ _ l1 true _ ?side1 ?side2 ?side3 ?side4 A6.out).mono ?_);(case side1=>exact cr HR0.out);(case side2=>exact HC0.out);(case side3=>exact cr HR1.out);(case side4=>exact HC1.out);rintro e w' ⟨rfl,⟨nd,rfl⟩⟩;refine⟨_,rfl,?_⟩)|((with_reducible refine aC (f:=53) rfl ?_);refine cf (some 24) rfl rfl Tryz.func53 (by kernel_rfl) rfl #[bh (.slice A0 l0.length c0), .slice A1 l1.length c1, .bool true] rfl (by(try simp only[List.map_toArray,List.map_cons,List.map_nil]);first|done|(rw[hT_HR0]<;>rfl)|rfl|(simp only[List.length_drop,List.length_take];rfl)) ?_;(try rw[←hT_HR0]);(with_reducible refine(cg.calls k _ _ l0 _ _ l1 true t127 _ ?side1 ?side2 ?side3 ?side4 A8.out).mono ?_);(case side1=>exact cr HR0.out);(case side2=>exact HC0.out);(case side3=>exact cr HR1.out);(case side4=>exact HC1.out);rintro e w11 ⟨v128,rfl,ho0,hb⟩;refine⟨_,rfl,?_⟩;have n0_:=aa.mk (Kd.bA ho0 (ah aj));have n1_:=aa.mk (ai aj hb);clear HB;have HO129:=n0_;have HB:=n1_;clear n0_ n1_;(try clear ho0);obtain⟨Ao12,co12,eo12⟩:=Kd.bF HO129.out;subst eo12)|((with_reducible refine aC (f:=25) rfl ?_);refine cf (some 28) rfl rfl Tryz.func25 (by kernel_rfl) rfl #[bh (.slice A0 l0.length c0), .slice Ao12 t127.length co12] rfl (by(try simp only[List.map_toArray,List.map_cons,List.map_nil]);first|done|(rw[hT_HR0]<;>rfl)|rfl|(simp only[List.length_drop,List.length_take];rfl)) ?_;(try rw[←hT_HR0]);(with_reducible refine(dr.calls k _ _ l0 _ _ t127 t130 _ ?side1 ?side2 ?side3 ?side4 A10.out).mono ?_);(case side1=>exact cr (Kd.bl HR0.out HB.out));(case side2=>exact HC0.out);(case side3=>repeat(first|exact(Kd.aA HO129.out).2.2|(with_reducible refine Kd.cM ?_ _)|(with_reducible refine Kd.db ?_ _)|(with_reducible refine Kd.dC ?_)));(case side4=>exact(Kd.aA HO129.out).2.1);rintro e w13 ⟨v131,rfl,ho0,hb⟩;refine⟨_,rfl,?_⟩;have n0_:=aa.mk (Kd.dp (bw HO129.out) (Kd.dP ho0) hb);have n1_:=aa.mk (Kd.bA (Kd.ek ho0 (Kd.gI (bw HO129.out))) (ah aj));have n2_:=aa.mk (ai aj hb);clear HO129;clear HB;have HO129:=n0_;have HO132:=n1_;have HB:=n2_;clear n0_ n1_ n2_;(try clear ho0)))
    go_ret2
    exact⟨_,ba,by(with_reducible repeat(first|apply Kd.bE|apply Kd.bL|apply Kd.bO));exact Kd.bz HO132.out (fun _ hk=>trivial),aj⟩
   ·replace c9:=Bool.eq_false_iff.mpr c9
    subst c9
    have H1:=H;rw[if_neg (show¬(false=true) by decide)] at H1
    clear H
    have H:=H1
    clear H1
    simp only[Option.some.injEq,Prod.mk.injEq] at H
    obtain⟨rfl,rfl⟩:=H
    go_enter Tryz.func18,Tryz.ntmps18
    go_wp2_with (first|((with_reducible refine aC (f:=23) rfl ?_);refine cf (some 13) rfl rfl Tryz.func23 (by kernel_rfl) rfl #[bh (.slice A0 l0.length c0), .int .i64 (l1.length:Int), .int .i64 1024] rfl (by(try simp only[List.map_toArray,List.map_cons,List.map_nil]);first|done|(rw[hT_HR0]<;>rfl)|rfl|(simp only[List.length_drop,List.length_take];rfl)) ?_;(try rw[←hT_HR0]);(with_reducible refine(dc.calls _ _ l0 (l1.length:Int) 1024 t125 _ ?side1 ?side2 A4.out).mono ?_);(case side1=>exact cr HR0.out);(case side2=>exact HC0.out);rintro e w' ⟨rfl,⟨nd,rfl⟩⟩;refine⟨_,rfl,?_⟩)|((with_reducible refine aC (f:=24) rfl ?_);refine cf (some 19) rfl rfl Tryz.func24 (by kernel_rfl) rfl #[bh (.slice A0 l0.length c0), .slice A1 l1.length c1] rfl (by(try simp only[List.map_toArray,List.map_cons,List.map_nil]);first|done|(rw[hT_HR0]<;>rfl)|rfl|(simp only[List.length_drop,List.length_take];rfl)) ?_;(try rw[←hT_HR0]);(with_reducible refine(cR.calls k _ _ l0 _ _ l1 true _ ?side1 ?side2 ?side3 ?side4 A6.out).mono ?_);(case side1=>exact cr HR0.out);(case side2=>exact HC0.out);(case side3=>exact cr HR1.out);(case side4=>exact HC1.out);rintro e w' ⟨rfl,⟨nd,rfl⟩⟩;refine⟨_,rfl,?_⟩)|((with_reducible refine aC (f:=53) rfl ?_);refine cf (some 24) rfl rfl Tryz.func53 (by kernel_rfl) rfl #[bh (.slice A0 l0.length c0), .slice A1 l1.length c1, .bool false] rfl (by(try simp only[List.map_toArray,List.map_cons,List.map_nil]);first|done|(rw[hT_HR0]<;>rfl)|rfl|(simp only[List.length_drop,List.length_take];rfl)) ?_;(try rw[←hT_HR0]);(with_reducible refine(cg.calls k _ _ l0 _ _ l1 false t127 _ ?side1 ?side2 ?side3 ?side4 A8.out).mono ?_);(case side1=>exact cr HR0.out);(case side2=>exact HC0.out);(case side3=>exact cr HR1.out);(case side4=>exact HC1.out);rintro e w14 ⟨v128,rfl,ho0,hb⟩;refine⟨_,rfl,?_⟩;have n0_:=aa.mk (Kd.bA ho0 (ah aj));have n1_:=aa.mk (ai aj hb);clear HB;have HO129:=n0_;have HB:=n1_;clear n0_ n1_;(try clear ho0)))
    go_ret2
    exact⟨_,ba,bw HO129.out,aj⟩
  ·replace c7:=Bool.eq_false_iff.mpr c7
   subst c7
   have H1:=H;rw[if_neg (show¬(false=true) by decide)] at H1
   clear H
   have H:=H1
   clear H1
   simp only[Option.some.injEq,Prod.mk.injEq] at H
   obtain⟨rfl,rfl⟩:=H
   go_enter Tryz.func18,Tryz.ntmps18
   go_wp2_with (first|((with_reducible refine aC (f:=23) rfl ?_);refine cf (some 13) rfl rfl Tryz.func23 (by kernel_rfl) rfl #[bh (.slice A0 l0.length c0), .int .i64 (l1.length:Int), .int .i64 1024] rfl (by(try simp only[List.map_toArray,List.map_cons,List.map_nil]);first|done|(rw[hT_HR0]<;>rfl)|rfl|(simp only[List.length_drop,List.length_take];rfl)) ?_;(try rw[←hT_HR0]);(with_reducible refine(dc.calls _ _ l0 (l1.length:Int) 1024 t125 _ ?side1 ?side2 A4.out).mono ?_);(case side1=>exact cr HR0.out);(case side2=>exact HC0.out);rintro e w' ⟨rfl,⟨nd,rfl⟩⟩;refine⟨_,rfl,?_⟩)|((with_reducible refine aC (f:=24) rfl ?_);refine cf (some 19) rfl rfl Tryz.func24 (by kernel_rfl) rfl #[bh (.slice A0 l0.length c0), .slice A1 l1.length c1] rfl (by(try simp only[List.map_toArray,List.map_cons,List.map_nil]);first|done|(rw[hT_HR0]<;>rfl)|rfl|(simp only[List.length_drop,List.length_take];rfl)) ?_;(try rw[←hT_HR0]);(with_reducible refine(cR.calls k _ _ l0 _ _ l1 false _ ?side1 ?side2 ?side3 ?side4 A6.out).mono ?_);(case side1=>exact cr HR0.out);(case side2=>exact HC0.out);(case side3=>exact cr HR1.out);(case side4=>exact HC1.out);rintro e w' ⟨rfl,⟨nd,rfl⟩⟩;refine⟨_,rfl,?_⟩))
   go_ret2
   exact⟨_,ba,by first|exact Kd.gi _ _ _ _ _|exact Kd.l7 _ _ _ _ _|exact Kd.mr _ _ _ _ _|exact Kd.mi _ _ _ _ _|exact Kd.jV _ _ _ _ _,aj⟩
 ·rw[if_neg c5] at H
  have c5b0:=beq_eq_false_iff_ne.mpr c5
  have c5b1:=bne_iff_ne.mpr c5
  simp only[Option.some.injEq,Prod.mk.injEq] at H
  obtain⟨rfl,rfl⟩:=H
  go_enter Tryz.func18,Tryz.ntmps18
  go_wp2_with (first|((with_reducible refine aC (f:=23) rfl ?_);refine cf (some 13) rfl rfl Tryz.func23 (by kernel_rfl) rfl #[bh (.slice A0 l0.length c0), .int .i64 (l1.length:Int), .int .i64 1024] rfl (by(try simp only[List.map_toArray,List.map_cons,List.map_nil]);first|done|(rw[hT_HR0]<;>rfl)|rfl|(simp only[List.length_drop,List.length_take];rfl)) ?_;(try rw[←hT_HR0]);(with_reducible refine(dc.calls _ _ l0 (l1.length:Int) 1024 t125 _ ?side1 ?side2 A4.out).mono ?_);(case side1=>exact cr HR0.out);(case side2=>exact HC0.out);rintro e w' ⟨rfl,⟨nd,rfl⟩⟩;refine⟨_,rfl,?_⟩))
  go_ret2
  exact⟨_,ba,by first|exact Kd.gi _ _ _ _ _|exact Kd.l7 _ _ _ _ _|exact Kd.mr _ _ _ _ _|exact Kd.mi _ _ _ _ _|exact Kd.jV _ _ _ _ _,aj⟩
end Go.Proofs.YtndkmnjbjlfeaaaGreat.XG
end
section
namespace Go.Proofs.YtndkmnjbjlfeaaaGreat.D11
open Go Go.RowKit Go.Proofs.YtndkmnjbjlfeaaaGreatW.PrintWords Go.Proofs.YtndkmnjbjlfeaaaGreatW.PrintLast Go.Proofs.YtndkmnjbjlfeaaaGreatW.PrintMore Go.Proofs.YtndkmnjbjlfeaaaGreat.Given Go.Proofs.YtndkmnjbjlfeaaaGreat.M Go.Proofs.YtndkmnjbjlfeaaaGreat.Mont Go.Proofs.YtndkmnjbjlfeaaaGreat.XS Go.Proofs.YtndkmnjbjlfeaaaGreat.XT Go.Proofs.YtndkmnjbjlfeaaaGreat.XR Go.Proofs.YtndkmnjbjlfeaaaGreat.Num Go.Proofs.YtndkmnjbjlfeaaaGreat.XK Go.Proofs.YtndkmnjbjlfeaaaGreat.F06 Go.Proofs.YtndkmnjbjlfeaaaGreat.T10 Go.Proofs.YtndkmnjbjlfeaaaGreat.XW Go.Proofs.YtndkmnjbjlfeaaaGreat.XG
set_option linter.unusedVariables false
theorem gB{l:List Int}{i:Nat}(h:i<l.length):rd l (i:Int)=l[i]:=by
 rw[lI,List.getD_eq_getElem?_getD,List.getElem?_eq_getElem h]
 rfl
theorem ot{α:Type}{y:List α}{i:Nat}(v:α)(h:i<y.length):(y.set i v).take (i+1)=y.take i++[v]:=by
 have hl:(y.take i).length=i:=by rw[List.length_take];omega
 rw[List.take_set,List.take_succ_eq_append_getElem h,List.set_append_right _ _ (by omega),hl,Nat.sub_self,List.set_cons_zero]
theorem jr{y:List Int}{i:Nat}(v:Int)(h:i<y.length):rd (y.set i v) (i:Int)=v:=by
 rw[gB (by rw[List.length_set];exact h),List.getElem_set_self]
theorem eW{y:List Int}{i j:Nat}(v:Int)(h:i≠j):rd (y.set i v) (j:Int)=rd y (j:Int):=by
 rw[lI,lI,List.getD_eq_getElem?_getD,List.getD_eq_getElem?_getD,List.getElem?_set_ne h]
theorem zO(n:Nat)(j:Nat):rd (List.replicate n 0) (j:Int)=0:=by
 rw[lI,List.getD_eq_getElem?_getD,List.getElem?_replicate]
 split<;>rfl
theorem fJ{f:Nat→Int}{n i:Nat}(h:i<n):rd ((List.range n).map f) (i:Int)=f i:=by
 rw[gB (by rw[List.length_map,List.length_range];exact h),List.getElem_map,List.getElem_range]
def gV(p n most:Int):Int:=if n<1 then 1 else if n>most then 13 else if(p-1)%n=0 then 0 else 4
theorem iw{F:ct}{n most:Int}(hn:AU n):dc.f [F] n most=some (gV F.p n most):=by
 unfold dc.f gV
 rw[if_neg (by simp)]
 by_cases h1:n<1
 ·rw[if_pos h1,if_pos h1]
 rw[if_neg h1,if_neg h1]
 by_cases h2:n>most
 ·rw[if_pos h2,if_pos h2]
 rw[if_neg h2,if_neg h2,rI F hn.2]
 by_cases h3:(F.p-1)%n=0
 ·rw[if_pos h3,decide_eq_true ⟨by omega,h3⟩];rfl
 ·rw[if_neg h3,decide_eq_false (fun h=>h3 h.2)];rfl
theorem tv(n most:Int):dc.f [] n most=some 2:=by unfold dc.f;rw[if_pos (show((([]:List ct).length:Int)=0) from rfl)]
theorem tR{p n most:Int}(hp:3≤p)(hp':p<9223372036854775808)(hn:AU n):cU.f p n most=some (gV p n most):=by
 have hn2:=hn.2
 unfold cU.f gV
 by_cases h1:n<1
 ·rw[if_pos h1,if_pos h1]
 rw[if_neg h1,if_neg h1]
 by_cases h2:n>most
 ·rw[if_pos h2,if_pos h2]
 have wn:IntKind.u64.wrap n=n:=aX _ (by omega) (by omega)
 have w1:IntKind.u64.wrap (p-1)=p-1:=aX _ (by omega) (by omega)
 rw[if_neg h2,if_neg h2,wn,w1,if_neg (by omega),bQ (by omega)]
 by_cases h3:(p-1)%n=0
 ·rw[if_pos h3,if_pos h3]
 ·rw[if_neg h3,if_neg h3]
theorem AO{p n most:Int}(h:gV p n most=0):1≤n∧n≤most∧(p-1)%n=0:=by
 unfold gV at h
 split at h
 ·omega
 split at h
 ·omega
 split at h
 ·rename_i h3;exact⟨by omega,by omega,h3⟩
 ·omega
theorem q9{p n most:Int}(h1:1≤n)(h2:n≤most)(h3:(p-1)%n=0):gV p n most=0:=by
 unfold gV
 rw[if_neg (by omega),if_neg (by omega),if_pos h3]
def mx(p:Int)(l:List Int):Bool:=decide (∀x∈l,x<p)
theorem oE(p x:Int)(l:List Int):mx p (x::l)=(decide (x<p)&&mx p l):=by
 unfold mx
 rw[Bool.eq_iff_iff]
 simp
theorem qh(p:Int):mx p []=true:=by unfold mx;simp
theorem xS{F:ct}{l:List Int}(hn:l.length≤1000000)(d:Nat): ∀i:Nat,i+d=l.length→Ev (fun k=>cR.l0 k [F] l (l.length:Int) (i:Int)) (mx F.p (l.drop i)):=by
 induction d with
 |zero=>
  intro i hi
  refine bU ⟨_,fun k=>by simp only[cR.l0];rw[if_neg (by omega),if_neg (by simp)],uF (Ev.now _) ?_⟩
  rw[List.drop_eq_nil_of_le (by omega),qh]
 |succ d ih=>
  intro i hi
  have hlt:i<l.length:=by omega
  have G:dF.f [F] (rd l (i:Int))=some (decide (rd l (i:Int)<F.p)):=rfl
  have hr:=gB hlt
  rw[List.drop_eq_getElem_cons hlt,oE,←hr]
  refine bU ⟨_,fun k=>by simp only[cR.l0];rw[if_pos (by omega),if_pos (by omega),if_pos (by omega),cu (by omega)],jz G ?_⟩
  by_cases c:rd l (i:Int)<F.p
  ·rw[decide_eq_true c,Bool.true_and]
   exact dJ rfl (ih (i+1) (by omega))
  ·rw[decide_eq_false c,Bool.false_and]
   exact fM (by decide) (Ev.now _)
theorem mG{F:ct}{l:List Int}(hn:l.length≤1000000):Ev (fun k=>cR.f k [F] l) (mx F.p l):=by
 have h:=xS (F:=F) hn l.length 0 (by omega)
 rw[List.drop_zero] at h
 exact Ev.congr (fun k=>by unfold cR.f;rw[if_neg (by simp)];rfl) h
theorem wv{p:Int}{l:List Int}(hn:l.length≤1000000)(d:Nat): ∀i:Nat,i+d=l.length→Ev (fun k=>bJ.l0 k p l (l.length:Int) (i:Int)) (mx p (l.drop i)):=by
 induction d with
 |zero=>
  intro i hi
  refine bU ⟨_,fun k=>by simp only[bJ.l0];rw[if_neg (by omega)],uF (Ev.now _) ?_⟩
  rw[List.drop_eq_nil_of_le (by omega),qh]
 |succ d ih=>
  intro i hi
  have hlt:i<l.length:=by omega
  have hr:=gB hlt
  rw[List.drop_eq_getElem_cons hlt,oE,←hr]
  refine bU ⟨_,fun k=>by simp only[bJ.l0];rw[if_pos (by omega),if_pos (by omega),if_pos (by omega),cu (by omega)],?_⟩
  by_cases c:rd l (i:Int)<p
  ·rw[decide_eq_true c,Bool.true_and]
   exact fM (by omega) (ih (i+1) (by omega))
  ·rw[decide_eq_false c,Bool.false_and]
   exact dJ (by omega) (Ev.now _)
theorem wz{p:Int}{l:List Int}(hn:l.length≤1000000):Ev (fun k=>bJ.f k p l) (mx p l):=by
 have h:=wv (p:=p) hn l.length 0 (by omega)
 rw[List.drop_zero] at h
 exact Ev.congr (fun k=>rfl) h
theorem vR{L:List ct}{c:Int}{T:Int→Int}{l:List Int}(hn:l.length≤1000000)(hT: ∀x∈l,bd.f L c x=some (T x))(d:Nat): ∀(i:Nat) (y:List Int),i+d=l.length→y.length=l.length→
  Ev (fun k=>dr.l0 k L c y l (l.length:Int) (i:Int)) (y.take i++(l.drop i).map T):=by
 induction d with
 |zero=>
  intro i y hi hy
  exact bU ⟨_,fun k=>by simp only[dr.l0];rw[if_neg (by omega)],uF (Ev.now _) (by rw[List.drop_eq_nil_of_le (by omega),List.map_nil,List.append_nil,List.take_of_length_le (by omega)])⟩
 |succ d ih=>
  intro i y hi hy
  have hlt:i<l.length:=by omega
  have G:=hT l[i] (List.getElem_mem hlt)
  have hr:=gB hlt
  have e:(y.set i (T l[i])).take (i+1)++(l.drop (i+1)).map T=y.take i++(l.drop i).map T:=by
   rw[ot _ (by omega),List.drop_eq_getElem_cons hlt,List.map_cons,List.append_assoc]
   rfl
  have IH:=ih (i+1) (y.set i (T l[i])) (by omega) (by rw[List.length_set];exact hy)
  rw[e] at IH
  have hy2:(i:Int)<(y.length:Int):=by omega
  refine bU ⟨_,fun k=>by simp only[dr.l0];rw[if_pos (by omega),if_pos (by omega),if_pos (by omega),cu (by omega),Int.toNat_natCast,hr],?_⟩
  refine jz G ?_
  exact dJ hy2 IH
theorem qw{F:ct}(hg:aJ F){l:List Int}(hn:l.length≤1000000)(hu: ∀x∈l,U x):Ev (fun k=>dr.f k [F] l) (l.map fun x=>fi F.p (l.length:Int)*x%F.p):=by
 have wn:IntKind.u64.wrap (l.length:Int)=l.length:=aX _ (by omega) (by omega)
 have I:=cV.at_ (F:=F) (l:=[]) (a1:=(l.length:Int)) ⟨by omega,by omega⟩
 have Li:=ck.at_ (F:=F) (l:=[]) (hg.AM (l.length:Int))
 have S:=vR (L:=[F]) (c:=iM F.p (fi F.p l.length)) (T:=fun x=>fi F.p l.length*x%F.p) hn (fun x hx=>by
  rw[bd.at_ ⟨show U (iM F.p (fi F.p l.length)) from hg.uE _,hu x hx⟩,pk hg.m]) l.length 0 (List.replicate l.length 0) (by omega) List.length_replicate
 rw[List.take_zero,List.nil_append,List.drop_zero] at S
 refine Ev.congr (fun k=>rfl) (jz (by rw[wn];exact I) (jz Li (dJ (by omega) (dJ (by omega) (Ev.congr (fun k=>?_) S)))))
 rw[Int.toNat_natCast]
 rfl
theorem xZ{F:ct}(hg:aJ F){l:List Int}{n:Nat}(hn:l.length=n)(n1:1≤n)(n2:n≤1024)(hu: ∀x∈l,U x){w:Int}{tab:List Int}(ht:tab.length=n)(hT: ∀j,j<n→rd tab (j:Int)=iM F.p (w^j%F.p))(hw: ∀a,w^a%F.p=w^(a%n)%F.p){r:List Int}{i:Nat}(hi:i<n)(d:Nat): ∀(j:Nat) (y:List Int),j+d=n→y.length=n→rd y (i:Int)=cQ w (fun t=>rd l (t:Int)) j i%F.p→
  Ev (fun k=>cg.l0 k [F] l (n:Int) tab (y.set i (cQ w (fun t=>rd l (t:Int)) n i%F.p)) (n:Int) (wrap64 ((i:Int)+1))) r→
  Ev (fun k=>cg.l1 k [F] l (n:Int) tab y (i:Int) ((i*j%n:Nat):Int) (n:Int) (i:Int) l (l.length:Int) (j:Int)) r:=by
 induction d with
 |zero=>
  intro j y hj hy hr E
  obtain rfl:j=n:=by omega
  have e:y.set i (cQ w (fun t=>rd l (t:Int)) j i%F.p)=y:=by rw[←hr,gB (by omega),List.set_getElem_self]
  rw[e] at E
  exact bU ⟨_,fun k=>by simp only[cg.l1];rw[if_neg (by omega)],E⟩
 |succ d ih=>
  intro j y hj hy hr E
  have hjn:j<n:=by omega
  have hq:i*j%n<n:=Nat.mod_lt _ (by omega)
  have ut:=hu _ (hH (l:=l) (i:=j) (by omega))
  have T:=bd.at_ (F:=F) (l:=[]) ⟨show U (iM F.p (w^(i*j%n)%F.p)) from hg.uE _,ut⟩
  rw[pk hg.m,←hT _ hq] at T
  have A:=cW.at_ (F:=F) (l:=[]) ⟨show U (cQ w (fun t=>rd l (t:Int)) j i%F.p) from hg.uE _,hg.uE (w^(i*j%n)%F.p*rd l (j:Int))⟩
  have ev:(cQ w (fun t=>rd l (t:Int)) j i%F.p+w^(i*j%n)%F.p*rd l (j:Int)%F.p)%F.p=cQ w (fun t=>rd l (t:Int)) (j+1) i%F.p:=by
   have e1:cQ w (fun t=>rd l (t:Int)) (j+1) i=cQ w (fun t=>rd l (t:Int)) j i+w^(i*j)*rd l (j:Int):=rfl
   rw[e1]
   exact kV (Int.emod_emod _ _) (by rw[Int.emod_emod,←hw,bj])
  rw[ev,←hr] at A
  have em:Int.tmod (wrap64 (((i*j%n:Nat):Int)+(i:Int))) (n:Int)=((i*(j+1)%n:Nat):Int):=by
   rw[dd _ (by omega) (by omega),bQ (by omega),Nat.mul_succ,←Nat.mod_add_mod,Int.natCast_emod (i*j%n+i) n]
   rfl
  have IH:=ih (j+1) (y.set i (cQ w (fun t=>rd l (t:Int)) (j+1) i%F.p)) (by omega) (by rw[List.length_set];exact hy) (jr _ (by omega)) (by rw[List.set_set];exact E)
  have q0:(0:Int)≤((i*j%n:Nat):Int):=Int.natCast_nonneg _
  have q1:((i*j%n:Nat):Int)<(tab.length:Int):=by omega
  have p1:(j:Int)<(l.length:Int):=by omega
  have p2:(0:Int)≤(j:Int):=Int.natCast_nonneg _
  have p3:(0:Int)≤(i:Int):=Int.natCast_nonneg _
  have p4:(i:Int)<(y.length:Int):=by omega
  have ws:wrap64 ((j:Int)+1)=((j+1:Nat):Int):=cu (by omega)
  have n0: ¬(n:Int)=0:=by omega
  refine bU ⟨_,fun k=>by simp only[cg.l1];rw[if_pos p1,if_pos p2,if_pos p1,if_pos p3,if_pos p4,if_pos q0,if_pos q1,ws,Int.toNat_natCast,em],?_⟩
  refine jz T ?_
  refine jz A ?_
  exact fM n0 IH
theorem ym{F:ct}(hg:aJ F){l:List Int}{n:Nat}(hn:l.length=n)(n1:1≤n)(n2:n≤1024)(hu: ∀x∈l,U x){w:Int}{tab:List Int}(ht:tab.length=n)(hT: ∀j,j<n→rd tab (j:Int)=iM F.p (w^j%F.p))(hw: ∀a,w^a%F.p=w^(a%n)%F.p)(d:Nat): ∀(i:Nat) (y:List Int),i+d=n→y.length=n→(∀t:Nat,i≤t→t<n→rd y (t:Int)=0)→
  Ev (fun k=>cg.l0 k [F] l (n:Int) tab y (n:Int) (i:Int)) (y.take i++((List.range n).drop i).map fun i=>cQ w (fun t=>rd l (t:Int)) n i%F.p):=by
 induction d with
 |zero=>
  intro i y hi hy hz
  exact bU ⟨_,fun k=>by simp only[cg.l0];rw[if_neg (by omega)],uF (Ev.now _) (by rw[List.drop_eq_nil_of_le (by rw[List.length_range];omega),List.map_nil,List.append_nil,List.take_of_length_le (by omega)])⟩
 |succ d ih=>
  intro i y hi hy hz
  have hin:i<n:=by omega
  have hr:i<(List.range n).length:=by rw[List.length_range];exact hin
  have e:(y.set i (cQ w (fun t=>rd l (t:Int)) n i%F.p)).take (i+1)++((List.range n).drop (i+1)).map (fun i=>cQ w (fun t=>rd l (t:Int)) n i%F.p)=y.take i++((List.range n).drop i).map fun i=>cQ w (fun t=>rd l (t:Int)) n i%F.p:=by
   rw[ot _ (by omega),List.drop_eq_getElem_cons hr,List.getElem_range,List.map_cons,List.append_assoc]
   rfl
  have IH:=ih (i+1) (y.set i (cQ w (fun t=>rd l (t:Int)) n i%F.p)) (by omega) (by rw[List.length_set];exact hy) (fun t h1 h2=>by rw[eW _ (by omega)];exact hz t (by omega) h2)
  rw[e,←cu (by omega)] at IH
  have L1:=xZ hg hn n1 n2 hu ht hT hw hin n 0 y (by omega) hy (by rw[hz i (Nat.le_refl _) hin];exact(Int.zero_emod _).symm) IH
  rw[Nat.mul_zero,Nat.zero_mod] at L1
  refine bU ⟨_,fun k=>by simp only[cg.l0];rw[if_pos (by omega)],?_⟩
  exact L1
theorem roots{F:ct}(hg:aJ F){n:Nat}(n1:1≤n)(hd:(F.p-1)% (n:Int)=0)(inv:Bool):fo F n (bV F n inv) (bV F n (!inv)):=by
 have hlo:=hg.lo
 have one:=(hg.inv (hg.o9 (n:=(n:Int)) (by omega) hd)).2.1
 refine⟨hg,n1,?_,fun k=>ov hg (by omega) hd inv k,fun k=>ov hg (by omega) hd (!inv) k,?_⟩
 ·have:=Int.le_of_dvd (show 0<F.p-1 by omega) (Int.dvd_of_emod_eq_zero hd)
  omega
 ·cases inv with
  |false=>show eP F n*fi F.p (eP F n)%F.p=1;rw[Int.mul_comm];exact one
  |true=>exact one
theorem xN{F:ct}(hg:aJ F){l:List Int}(n1:1≤l.length)(n2:l.length≤1024)(hd:(F.p-1)% (l.length:Int)=0)(hu: ∀x∈l,U x)(inv:Bool):
  Ev (fun k=>cg.f k [F] l inv) ((List.range l.length).map fun i=>cQ (bV F l.length inv) (fun t=>rd l (t:Int)) l.length i%F.p):=by
 have R:=roots hg n1 hd inv
 have lt:((iT F.p (bV F l.length inv) (l.length:Int).toNat).map (iM F.p)).length=l.length:=by rw[List.length_map,gR,Int.toNat_natCast]
 have S:=ym hg (l:=l) rfl n1 n2 hu lt (fun j hj=>by rw[gB (by omega),List.getElem_map];congr 1;have:=oO (p:=F.p) (w:=bV F l.length inv) (n:=(l.length:Int).toNat) (i:=j) (by omega);rw[gB (by rw[gR];omega)] at this;exact this) R.zG l.length 0 (List.replicate l.length 0) (by omega) List.length_replicate (fun t _ _=>zO _ _)
 rw[List.take_zero,List.nil_append,List.drop_zero] at S
 refine Ev.congr (fun k=>rfl) (Ev.bind (oC hg (n:=(l.length:Int)) (by omega) (by omega) hd inv) (dJ (by omega) (dJ (by omega) (Ev.congr (fun k=>?_) S))))
 simp only[Option.bind_some,List.length_replicate,Int.toNat_natCast]
 rfl
noncomputable def cO(F:ct)(n:Nat)(inv:Bool):Int:=if inv=true then fi F.p (n:Int) else 1
noncomputable def gO(F:ct)(l:List Int)(inv:Bool):List Int:=(List.range l.length).map fun i=>cO F l.length inv*cQ (bV F l.length inv) (fun t=>rd l (t:Int)) l.length i%F.p
theorem fF(F:ct)(l:List Int)(inv:Bool):(gO F l inv).length=l.length:=by unfold gO;rw[List.length_map,List.length_range]
theorem lq{F:ct}{l:List Int}{inv:Bool}{i:Nat}(h:i<l.length):rd (gO F l inv) (i:Int)=cO F l.length inv*cQ (bV F l.length inv) (fun t=>rd l (t:Int)) l.length i%F.p:=fJ h
structure gT (F:ct) (l:List Int):Prop where
 pos:1≤l.length
 top:l.length≤1024
 div:(F.p-1)% (l.length:Int)=0
 res: ∀x∈l,0≤x∧x<F.p
theorem gT.u{F:ct}{l:List Int}(hg:aJ F)(h:gT F l): ∀x∈l,U x:=fun x hx=>by
 have:=h.res x hx
 have:=hg.hi
 unfold U;omega
theorem gT.all{F:ct}{l:List Int}(h:gT F l):mx F.p l=true:=decide_eq_true fun x hx=>(h.res x hx).2
theorem wM{F:ct}{l:List Int}(hg:aJ F)(h:gT F l)(inv:Bool):gT F (gO F l inv):=by
 have e:=fF F l inv
 have:=hg.lo
 refine⟨by rw[e];exact h.pos,by rw[e];exact h.top,by rw[e];exact h.div,fun x hx=>?_⟩
 unfold gO at hx
 obtain⟨i,_,rfl⟩:=List.mem_map.1 hx
 exact⟨Int.emod_nonneg _ hg.ne,Int.emod_lt_of_pos _ (by omega)⟩
theorem k9{l:List Int}(h:l.length≤1000000):AU (l.length:Int):=⟨by omega,by omega⟩
theorem zB{F:ct}(hg:aJ F){l:List Int}(h:gT F l)(inv:Bool):Ev (fun k=>kg.f k [F] l inv) (gO F l inv,0):=by
 have h1:=h.pos
 have h2:=h.top
 have C:=iw (F:=F) (most:=1024) (k9 (l:=l) (by omega))
 rw[q9 (by omega) (by omega) h.div] at C
 have G:=mG (F:=F) (l:=l) (by omega)
 rw[h.all] at G
 have S:=xN hg h1 h2 h.div (h.u hg) inv
 refine Ev.congr (fun k=>rfl) (jz C (dJ rfl (Ev.bind G (dJ rfl (Ev.bind S ?_)))))
 cases inv with
 |false=>
  refine fM (by decide) (uF (Ev.now _) ?_)
  congr 1
  unfold gO
  refine List.map_congr_left fun i _=>?_
  show _=1*cQ (bV F l.length false) (fun t=>rd l (t:Int)) l.length i%F.p
  rw[Int.one_mul]
 |true=>
  have ln:((List.range l.length).map fun i=>cQ (bV F l.length true) (fun t=>rd l (t:Int)) l.length i%F.p).length=l.length:=by rw[List.length_map,List.length_range]
  have Sc:=qw hg (l:=(List.range l.length).map fun i=>cQ (bV F l.length true) (fun t=>rd l (t:Int)) l.length i%F.p) (by omega) (fun x hx=>by
   obtain⟨i,_,rfl⟩:=List.mem_map.1 hx
   exact hg.uE _)
  refine dJ rfl (Ev.bind Sc (uF (Ev.now _) ?_))
  congr 1
  rw[ln,List.map_map]
  unfold gO
  refine List.map_congr_left fun i _=>?_
  show fi F.p l.length*(cQ (bV F l.length true) (fun t=>rd l (t:Int)) l.length i%F.p)%F.p=fi F.p l.length*cQ (bV F l.length true) (fun t=>rd l (t:Int)) l.length i%F.p
  rw[cj]
theorem yq{F:ct}(hg:aJ F){l:List Int}{n:Nat}(hn:l.length=n)(n1:1≤n)(n2:n≤1024)(hu: ∀x∈l,U x){w:Int}{tab:List Int}(ht:tab.length=n)(hT: ∀j,j<n→rd tab (j:Int)=w^j%F.p)(hw: ∀a,w^a%F.p=w^(a%n)%F.p){i:Nat}(hi:i<n)(d:Nat): ∀j:Nat,j+d=n→
  Ev (fun k=>bM.l0 k F.p tab l (i:Int) (cQ w (fun t=>rd l (t:Int)) j i%F.p) l (l.length:Int) (j:Int)) (cQ w (fun t=>rd l (t:Int)) n i%F.p):=by
 induction d with
 |zero=>
  intro j hj
  obtain rfl:j=n:=by omega
  exact bU ⟨_,fun k=>by simp only[bM.l0];rw[if_neg (by omega)],Ev.now _⟩
 |succ d ih=>
  intro j hj
  have hjn:j<n:=by omega
  have p1:(j:Int)<(l.length:Int):=by omega
  have p2:(0:Int)≤(j:Int):=Int.natCast_nonneg _
  have ws:wrap64 ((j:Int)+1)=((j+1:Nat):Int):=cu (by omega)
  have n0: ¬(l.length:Int)=0:=by omega
  have IH:=ih (j+1) (by omega)
  have hq:i*j%n<n:=Nat.mod_lt _ (by omega)
  have hij:i*j≤1048576:=Nat.le_trans (Nat.mul_le_mul (show i≤1024 by omega) (show j≤1024 by omega)) (by decide)
  have ut:=hu _ (hH (l:=l) (i:=j) (by omega))
  have em:Int.tmod (wrap64 ((i:Int)*(j:Int))) (l.length:Int)=((i*j%n:Nat):Int):=by
   clear ih hT hw hu
   generalize hm:i*j=m at*
   rw[←Int.natCast_mul,hm,dd _ (by omega) (by omega),bQ (Int.natCast_nonneg _),hn]
   rfl
  have M:=gw ut (hg.uE (w^(i*j%n))) hg.uP hg.ne
  rw[←hT _ hq] at M
  have A:=iq (hg.uE (cQ w (fun t=>rd l (t:Int)) j i)) (hg.uE (rd l (j:Int)*rd tab ((i*j%n:Nat):Int))) hg.uP hg.ne
  have ev:(cQ w (fun t=>rd l (t:Int)) j i%F.p+rd l (j:Int)*rd tab ((i*j%n:Nat):Int)%F.p)%F.p=cQ w (fun t=>rd l (t:Int)) (j+1) i%F.p:=by
   have e1:cQ w (fun t=>rd l (t:Int)) (j+1) i=cQ w (fun t=>rd l (t:Int)) j i+w^(i*j)*rd l (j:Int):=rfl
   rw[e1]
   exact kV (Int.emod_emod _ _) (by rw[Int.emod_emod,hT _ hq,←hw,cj,Int.mul_comm])
  rw[ev] at A
  have q0:(0:Int)≤((i*j%n:Nat):Int):=Int.natCast_nonneg _
  have q1:((i*j%n:Nat):Int)<(tab.length:Int):=by rw[ht];exact Int.ofNat_lt.2 hq
  refine bU ⟨_,fun k=>by simp only[bM.l0];rw[if_pos p1,if_pos p2,if_pos p1,if_neg n0,em,if_pos q0,if_pos q1,ws],?_⟩
  exact Ev.bind M (jz A IH)
theorem yc{F:ct}(hg:aJ F){l:List Int}(h:gT F l)(inv:Bool)(d:Nat): ∀i:Nat,i+d=l.length→
  Ev (fun k=>bt.l0 k F.p l inv (iT F.p (bV F l.length inv) l.length) ((gO F l inv).take i) (l.length:Int) (i:Int)) (gO F l inv):=by
 have h1:=h.pos
 have h2:=h.top
 have lr:=fF F l inv
 have R:=roots hg h1 h.div inv
 have hn0:(l.length:Int)%F.p≠0:=R.yg
 induction d with
 |zero=>
  intro i hi
  exact bU ⟨_,fun k=>by simp only[bt.l0];rw[if_neg (by omega)],uF (Ev.now _) (List.take_of_length_le (by omega))⟩
 |succ d ih=>
  intro i hi
  have hlt:i<l.length:=by omega
  have S0:=yq hg (l:=l) rfl h1 h2 (h.u hg) (gR F.p (bV F l.length inv) l.length) (fun j hj=>oO hj) R.zG hlt l.length 0 (by omega)
  have S:Ev (fun k=>bM.f k F.p (iT F.p (bV F l.length inv) l.length) l (i:Int)) (cQ (bV F l.length inv) (fun t=>rd l (t:Int)) l.length i%F.p):=by
   refine Ev.congr (fun k=>?_) S0
   unfold bM.f cQ
   rw[show cx (fun j=>bV F l.length inv^(i*j)*rd l (j:Int)) 0=0 from rfl,Int.zero_emod]
   rfl
  have IH:=ih (i+1) (by omega)
  have et:(gO F l inv).take (i+1)=(gO F l inv).take i++[rd (gO F l inv) (i:Int)]:=by rw[List.take_succ_eq_append_getElem (by omega),gB (by omega)]
  rw[et,lq hlt] at IH
  have lt:((gO F l inv).take i).length<17592186044416:=by rw[List.length_take];omega
  refine bU ⟨_,fun k=>by simp only[bt.l0];rw[if_pos (by omega),cu (by omega)],Ev.bind S ?_⟩
  cases inv with
  |false=>
   refine fM (by decide) (dJ lt ?_)
   rw[show cO F l.length false=1 from rfl,Int.one_mul] at IH
   exact IH
  |true=>
   have wn:IntKind.u64.wrap (l.length:Int)=l.length:=aX _ (by omega) (by omega)
   have hlo:=hg.lo
   have hhi:=hg.hi
   have w2:IntKind.u64.wrap (F.p-2)=F.p-2:=aX _ (by omega) (by omega)
   have P:=gy (a:=(l.length:Int)) ⟨by omega,by omega⟩ (e:=F.p-2) ⟨by omega,by omega⟩ hg.uP hg.ne
   rw[←(hg.inv hn0).1] at P
   have I:Ev (fun k=>dK.f k (IntKind.u64.wrap (l.length:Int)) F.p) (fi F.p (l.length:Int)):=by
    rw[wn]
    refine Ev.congr (fun k=>by unfold dK.f;rw[w2]) (Ev.bind P (Ev.now _))
   have M:=gw (hg.uE (cQ (bV F l.length true) (fun t=>rd l (t:Int)) l.length i)) (hg.AM (l.length:Int)) hg.uP hg.ne
   rw[bj,Int.mul_comm] at M
   exact dJ rfl (Ev.bind I (Ev.bind M (dJ lt IH)))
theorem yx{F:ct}(hg:aJ F){l:List Int}(h:gT F l)(inv:Bool):Ev (fun k=>bt.f k F.p F.g l inv) (gO F l inv):=by
 have h1:=h.pos
 have h2:=h.top
 have R:=vq hg (k9 (l:=l) (by omega)) inv
 have e:jO F (l.length:Int) inv=(bV F l.length inv,0):=by unfold jO;rw[if_neg (by omega),if_neg (by omega),if_pos h.div]
 rw[e] at R
 have T:=uA hg (sV hg (l.length:Int) inv) (n:=l.length) (by omega)
 have L0:=yc hg h inv l.length 0 (by omega)
 rw[List.take_zero] at L0
 exact Ev.congr (fun k=>rfl) (Ev.bind R (Ev.bind T L0))
theorem oX{F:ct}(hg:aJ F){n:Nat}(hn:(n:Int)%F.p≠0)(inv:Bool):cO F n inv*cO F n (!inv)*n%F.p=1:=by
 have h:=(hg.inv hn).2.1
 cases inv with
 |false=>show 1*fi F.p n*n%F.p=1;rw[Int.one_mul];exact h
 |true=>show fi F.p n*1*n%F.p=1;rw[Int.mul_one];exact h
theorem vk(w c:Int)(f:Nat→Int)(n i:Nat):cQ w (fun j=>c*f j) n i=c*cQ w f n i:=by
 unfold cQ
 rw[←iD]
 exact cw fun j _=>Int.mul_left_comm _ _ _
theorem jZ{a b:List Int}(hl:a.length=b.length)(h: ∀i,i<b.length→rd a (i:Int)=rd b (i:Int)):a=b:=by
 refine List.ext_getElem hl fun i h1 h2=>?_
 have:=h i h2
 rwa[gB h1,gB h2] at this
end Go.Proofs.YtndkmnjbjlfeaaaGreat.D11
end
section
namespace Go.Proofs.YtndkmnjbjlfeaaaGreat.D15
open Go Go.RowKit Go.Proofs.YtndkmnjbjlfeaaaGreatW.PrintWords Go.Proofs.YtndkmnjbjlfeaaaGreat.M Go.Proofs.YtndkmnjbjlfeaaaGreat.Mont Go.Proofs.YtndkmnjbjlfeaaaGreat.Num Go.Proofs.YtndkmnjbjlfeaaaGreat.F06 Go.Proofs.YtndkmnjbjlfeaaaGreat.T10 Go.Proofs.YtndkmnjbjlfeaaaGreat.D11
theorem qd{p x x' y z:Int}(h:x*y%p=1)(h':x'*z%p=1)(e:x%p=x'%p):y%p=z%p:=by
 have e1:y*(x'*z)%p=z%p:=by
  have:y*(x'*z)%p=(x*y)*z%p:=by
   rw[Int.mul_comm x y,Int.mul_assoc]
   exact eL rfl (eL e.symm rfl)
  rw[this,Int.mul_emod,h,Int.one_mul,Int.emod_emod]
 have e2:y*(x'*z)%p=y%p:=by rw[Int.mul_emod,h',Int.mul_one,Int.emod_emod]
 rw[←e2,e1]
theorem ub{F:ct}(hg:aJ F){n r:Nat}(hn:1≤n)(hr:1≤r)(hd:(F.p-1)% ((r*n:Nat):Int)=0):eP F ((r*n:Nat):Int)^r%F.p=eP F (n:Int):=by
 obtain⟨q,hq⟩:=Int.dvd_of_emod_eq_zero hd
 have hlo:=hg.lo
 have hrn:1≤r*n:=Nat.mul_pos hr hn
 have e1:(F.p-1)/((r*n:Nat):Int)=q:=by
  rw[hq]
  exact Int.mul_ediv_cancel_left _ fun e=>by
   have:=Int.ofNat_inj.1 (e.trans (rfl:(0:Int)=((0:Nat):Int)))
   omega
 have e2:(F.p-1)/(n:Int)=(r:Int)*q:=by
  rw[hq,Int.natCast_mul,Int.mul_comm (r:Int),Int.mul_assoc]
  exact Int.mul_ediv_cancel_left _ (by omega)
 have hq0:0≤q:=by rw[←e1];exact Int.ediv_nonneg (by omega) (Int.natCast_nonneg _)
 rw[ox,e1]
 unfold eP
 rw[e2]
 obtain⟨q',rfl⟩: ∃x:Nat,q=x:=⟨q.toNat,by omega⟩
 rw[←Int.natCast_mul,Int.toNat_natCast,Int.toNat_natCast,Nat.mul_comm]
theorem jd{p:Int}{n r:Nat}(hd:(p-1)% ((r*n:Nat):Int)=0):(p-1)% (n:Int)=0:=by
 refine Int.emod_eq_zero_of_dvd (Int.dvd_trans ?_ (Int.dvd_of_emod_eq_zero hd))
 exact⟨(r:Int),by rw[Int.natCast_mul,Int.mul_comm]⟩
theorem qp{F:ct}(hg:aJ F)(n:Int):eP F n%F.p=eP F n:=Int.emod_eq_of_lt (jH hg _).1 (jH hg _).2
theorem nw{F:ct}(hg:aJ F){n r:Nat}(hn:1≤n)(hr:1≤r)(hd:(F.p-1)% ((r*n:Nat):Int)=0)(inv:Bool):bV F ((r*n:Nat):Int) inv^r%F.p=bV F (n:Int) inv%F.p:=by
 have e:=ub hg hn hr hd
 cases inv with
 |false=>
  show eP F ((r*n:Nat):Int)^r%F.p=eP F (n:Int)%F.p
  rw[e,qp hg]
 |true=>
  have R1:=roots hg (n:=r*n) (Nat.mul_pos hr hn) hd false
  have R2:=roots hg (n:=n) hn (jd hd) false
  exact qd (R1.wC r) R2.one (show eP F ((r*n:Nat):Int)^r%F.p=eP F (n:Int)%F.p by rw[e,qp hg])
theorem xM{F:ct}(hg:aJ F){a b:Nat}(ha:1≤a)(hb:1≤b)(hd:(F.p-1)% ((a*b:Nat):Int)=0)(inv:Bool):cO F (a*b) inv%F.p=cO F a inv*cO F b inv%F.p:=by
 cases inv with
 |false=>show(1:Int)%F.p=1*1%F.p;rfl
 |true=>
  have R:=roots hg (n:=a*b) (Nat.mul_pos ha hb) hd false
  have Rb:=roots hg (n:=b) hb (jd hd) false
  have Ra:=roots hg (n:=a) ha (jd (r:=b) (by rw[Nat.mul_comm];exact hd)) false
  have e1:=oX hg R.yg true
  have e2:=oX hg Ra.yg true
  have e3:=oX hg Rb.yg true
  have z: ∀n,cO F n (!true)=1:=fun n=>rfl
  rw[z,Int.mul_one] at e1 e2 e3
  refine qd (x:=((a*b:Nat):Int)) (x':=(a:Int)*(b:Int)) (by rw[Int.mul_comm];exact e1) ?_ (by rw[Int.natCast_mul])
  have:(a:Int)*(b:Int)*(cO F a true*cO F b true)=(cO F a true*(a:Int))*(cO F b true*(b:Int)):=by
   rw[Int.mul_comm (a:Int) (b:Int),Int.mul_assoc,←Int.mul_assoc (a:Int),Int.mul_comm (a:Int),←Int.mul_assoc,Int.mul_comm (b:Int),Int.mul_assoc,Int.mul_comm (b:Int)]
  rw[this,Int.mul_emod,e2,e3]
  exact hg.one
theorem mQ{F:ct}{m i:Nat}(g:Nat→Int)(inv:Bool)(h:i<m):rd (gO F ((List.range m).map g) inv) (i:Int)=cO F m inv*cQ (bV F m inv) g m i%F.p:=by
 have hl:((List.range m).map g).length=m:=by rw[List.length_map,List.length_range]
 rw[lq (by rw[hl];exact h),hl]
 have e:cQ (bV F (m:Int) inv) (fun t=>rd ((List.range m).map g) (t:Int)) m i=cQ (bV F (m:Int) inv) g m i:=by
  unfold cQ
  refine cw fun j hj=>?_
  show _*rd ((List.range m).map g) (j:Int)=_
  rw[fJ hj]
 rw[e]
theorem tj{p:Int}(w c:Int)(f:Nat→Int)(n i:Nat):cQ w (fun j=>c*f j%p) n i%p=c*cQ w f n i%p:=by
 rw[←vk]
 exact vD w (fun j _=>Int.emod_emod_of_dvd _ (Int.dvd_refl p)) i
theorem tn{F:ct}(hg:aJ F){l:List Int}(h:gT F l){a b:Nat}(hn:l.length=a*b)(ha:1≤a)(hb:1≤b)(hab:Nat.Coprime a b)(inv:Bool){k:Nat}(hk:k<a*b):
  rd (gO F l inv) (k:Int)=cO F a inv*cQ (bV F a inv) (fun i=>cO F b inv*cQ (bV F b inv) (fun j=>rd l (((b*i+a*j)% (a*b):Nat):Int)) b (k%b)%F.p) a (k%a)%F.p:=by
 have hd:=h.div
 rw[hn] at hd
 have hd':(F.p-1)% ((b*a:Nat):Int)=0:=by rw[Nat.mul_comm];exact hd
 have R:=roots hg (n:=a*b) (Nat.mul_pos ha hb) hd inv
 rw[lq (by rw[hn];exact hk),hn]
 have e1:=tw (p:=F.p) (w:=bV F ((a*b:Nat):Int) inv) hg.one hab ((R.w_ord _).2 (Nat.dvd_refl _)) (fun t=>rd l (t:Int)) k
 have ra:=nw hg hb ha hd inv
 have rb:=nw hg ha hb hd' inv
 rw[Nat.mul_comm b a] at rb
 have e2:cQ (bV F ((a*b:Nat):Int) inv^b) (fun i=>cQ (bV F ((a*b:Nat):Int) inv^a) (fun j=>rd l (((b*i+a*j)% (a*b):Nat):Int)) b (k%b)) a (k%a)%F.p=cQ (bV F a inv) (fun i=>cQ (bV F b inv) (fun j=>rd l (((b*i+a*j)% (a*b):Nat):Int)) b (k%b)) a (k%a)%F.p:=by
  unfold cQ
  refine fB fun i _=>eL (pT rb _) ?_
  exact fB fun j _=>eL (pT ra _) rfl
 have e3:=tj (p:=F.p) (bV F a inv) (cO F b inv) (fun i=>cQ (bV F b inv) (fun j=>rd l (((b*i+a*j)% (a*b):Nat):Int)) b (k%b)) a (k%a)
 refine(eL (xM hg ha hb hd inv) (e1.trans e2)).trans ?_
 rw[Int.mul_assoc]
 exact eL rfl e3.symm
end Go.Proofs.YtndkmnjbjlfeaaaGreat.D15
end
section
namespace Go.Proofs.YtndkmnjbjlfeaaaGreat.XM
open Go.RowKit Go.Proofs.YtndkmnjbjlfeaaaGreat.Given Go.Proofs.YtndkmnjbjlfeaaaGreat.Row05 Go.Proofs.YtndkmnjbjlfeaaaGreat.XS Go.Proofs.YtndkmnjbjlfeaaaGreat.XT Go.Proofs.YtndkmnjbjlfeaaaGreat.XR Go.Proofs.YtndkmnjbjlfeaaaGreat.F06 Go.Proofs.YtndkmnjbjlfeaaaGreat.XK Go.Proofs.YtndkmnjbjlfeaaaGreat.XW Go.Proofs.YtndkmnjbjlfeaaaGreat.XG Go.Proofs.YtndkmnjbjlfeaaaGreatW.PrintWords Go.Proofs.YtndkmnjbjlfeaaaGreatW.PrintLast Go.Proofs.YtndkmnjbjlfeaaaGreatW.PrintMore
attribute [local go_sem] bZ bW cC cB bG bH bX ca
set_option linter.unusedVariables false
set_option linter.unusedSimpArgs false
mutual
noncomputable def cb.l0:Nat→Int→Bool→List Int→Int→Int→Option (Int×Int)
 |0,_,_,_,_,_=>none
 |k+1,x4,x5,x11,x12,x13=>if x13<x12 then(if 0≤x13 then(if x13<(x11.length:Int) then(if(rd x11 x13)<2 then(some (0,1)) else(if x5=true then(cb.j1 k x4 x5 (rd x11 x13) x11 x12 x13 true) else(if x4=0 then(none) else(cb.j1 k x4 x5 (rd x11 x13) x11 x12 x13 (decide ((rd x11 x13)>(wrap64 (Int.tdiv (4096:Int) x4)))))))) else(none)) else(none)) else(if x5=true then(some (0,13)) else(some (x4,0)))
noncomputable def cb.j1:Nat→Int→Bool→Int→List Int→Int→Int→Bool→Option (Int×Int)
 |0,_,_,_,_,_,_,_=>none
 |k+1,x4,x5,x7,x11,x12,x13,x25=>if x25=true then(cb.l0 k x4 true x11 x12 (wrap64 (x13+1))) else(cb.l0 k (wrap64 (x4*x7)) x5 x11 x12 (wrap64 (x13+1)))
end
noncomputable def cb.f(k:Nat)(l0:List Int):Option (Int×Int):=if(l0.length:Int)>12 then(some (0,1)) else(cb.l0 k 1 false l0 (l0.length:Int) 0)
set_option maxHeartbeats 8000000 in
set_option maxRecDepth 100000 in
theorem cb.calls(k:Nat)(A0:Option Addr)(c0:Nat)(l0:List Int)(r1:Int)(r2:Int)(w:World)(hr0:Kd.C (Kd.int .i64) w A0 l0.length l0)(hc0:l0.length≤c0)(h:cb.f k l0=some (r1,r2)):
  Calls Tryz.prog 104 #[.slice A0 l0.length c0] w fun e w'=>e= .returned (.tuple #[.int .i64 r1, .int .i64 r2])∧al w w':=by
 have HR0:=aa.mk hr0
 have HC0:=aa.mk hc0
 clear hr0 hc0
 have H:=h;unfold cb.f at H
 clear h
 by_cases c2:(l0.length:Int)>12
 ·rw[if_pos c2] at H
  have c2b0:=decide_eq_true c2
  have c2b1:decide (12<l0.length)=true:=decide_eq_true (by omega)
  clear c2
  simp only[Option.some.injEq,Prod.mk.injEq] at H
  obtain⟨rfl,rfl⟩:=H
  go_enter Tryz.func104,Tryz.ntmps104
  go_wp2
  go_ret2
  exact⟨ba,dA⟩
 ·rw[if_neg c2] at H
  have c2b0:=decide_eq_false c2
  have c2b1:decide (12<l0.length)=false:=decide_eq_false (by omega)
  clear c2
  have H':=aa.mk H
  clear H
  go_enter Tryz.func104,Tryz.ntmps104
  go_wp2
  go_loopg [4,5,13] k (fun kq v4 v5 v13 w'=> ∃(x4_1:Int) (x5_1:Bool) (x13_1:Int),v4= .int .i64 x4_1∧v5= .bool x5_1∧v13= .int .i64 x13_1∧aa (cb.l0 kq x4_1 x5_1 l0 (l0.length:Int) x13_1=some (r1,r2))∧aa (kq≤k)∧al w w')
  case atStart=>exact⟨(1),(false),(0),ba,ba,ba,H',⟨Nat.le_refl _⟩,dA⟩
  case round=>
   clear H'
   obtain⟨x4_1,x5_1,x13_1,rfl,rfl,rfl,HA,HK1,⟨m1,rfl⟩⟩:=hrel
   cases gk with
   |zero=>exact absurd HA.out (by simp[cb.l0])
   |succ k1=>
    have H:=HA.out
    clear HA
    simp only[cb.l0] at H
    by_cases c3:x13_1<(l0.length:Int)
    ·rw[if_pos c3] at H
     have c3b0:=decide_eq_true c3
     clear c3
     by_cases c4:0≤x13_1
     ·rw[if_pos c4] at H
      have c4b0:=decide_eq_true c4
      clear c4
      by_cases c5:x13_1<(l0.length:Int)
      ·rw[if_pos c5] at H
       have c5b0:=decide_eq_true c5
       clear c5
       by_cases c6:(rd l0 x13_1)<2
       ·rw[if_pos c6] at H
        have c6b0:=decide_eq_true c6
        clear c6
        simp only[Option.some.injEq,Prod.mk.injEq] at H
        obtain⟨rfl,rfl⟩:=H
        have p101:0≤(x13_1:Int):=of_decide_eq_true (by assumption)
        have q101:x13_1<(l0.length:Int):=of_decide_eq_true (by assumption)
        obtain⟨ad101,e101,hx101_0⟩:=Kd.cS HR0.out x13_1 p101 q101
        cases e101
        replace p101:=eq_true p101
        replace q101:=eq_true q101
        go_wp2
        go_ret2
        exact⟨ba,dA⟩
       ·rw[if_neg c6] at H
        have c6b0:=decide_eq_false c6
        clear c6
        have HC7:=aa.mk H
        clear H
        have p101:0≤(x13_1:Int):=of_decide_eq_true (by assumption)
        have q101:x13_1<(l0.length:Int):=of_decide_eq_true (by assumption)
        obtain⟨ad101,e101,hx101_0⟩:=Kd.cS HR0.out x13_1 p101 q101
        cases e101
        replace p101:=eq_true p101
        replace q101:=eq_true q101
        go_upto_region 9 with(fail)
        go_cut [25] (fun v25 wc=> ∃(kq:Nat) (x25_6:Bool),v25= .bool x25_6∧aa (cb.j1 kq x4_1 x5_1 (rd l0 x13_1) l0 (l0.length:Int) x13_1 x25_6=some (r1,r2))∧aa (kq≤k1)∧al w wc)
        case first=>
         have H:=HC7.out
         clear HC7
         by_cases c8:x5_1=true
         ·subst c8
          have H1:=H;rw[if_pos rfl] at H1
          clear H
          have H:=H1
          clear H1
          have H':=aa.mk H
          clear H
          go_wp2
          go_meet
          case rel=>exact⟨_,(true),ba,H',⟨by have:=HK1.out;first|omega|exact Nat.le_refl _⟩,dA⟩
         ·replace c8:=Bool.eq_false_iff.mpr c8
          subst c8
          have H1:=H;rw[if_neg (show¬(false=true) by decide)] at H1
          clear H
          have H:=H1
          clear H1
          by_cases c9:x4_1=0
          ·rw[if_pos c9] at H
           exact absurd H (by simp)
          ·rw[if_neg c9] at H
           have c9b0:=beq_eq_false_iff_ne.mpr c9
           have c9b1:=bne_iff_ne.mpr c9
           (first|rw[c9b0]|(simp only[bs,bY];rw[c9b0])|skip)
           have H':=aa.mk H
           clear H
           go_wp2
           go_meet
           case rel=>exact⟨_,(decide ((rd l0 x13_1)>(wrap64 (Int.tdiv (4096:Int) x4_1)))),ba,H',⟨by have:=HK1.out;first|omega|exact Nat.le_refl _⟩,dA⟩
        case rest=>
         clear HC7
         try clear hx1
         try clear hx101_0
         obtain⟨kq,x25_6,rfl,HA,HJ6,⟨mc6,rfl⟩⟩:=hcut
         cases kq with
         |zero=>exact absurd HA.out (by simp[cb.j1])
         |succ kj6=>
          have H:=HA.out
          clear HA
          simp only[cb.j1] at H
          by_cases dR:x25_6=true
          ·subst dR
           have H1:=H;rw[if_pos rfl] at H1
           clear H
           have H:=H1
           clear H1
           have H':=aa.mk H
           clear H
           go_wp2
           go_roundg kj6
           case measure=>have:=HK1.out;have:=HJ6.out;omega
           case rel=>exact⟨(x4_1),(true),(wrap64 (x13_1+1)),ba,ba,ba,H',⟨by have:=HK1.out;have:=HJ6.out;omega⟩,dA⟩
          ·replace dR:=Bool.eq_false_iff.mpr dR
           subst dR
           have H1:=H;rw[if_neg (show¬(false=true) by decide)] at H1
           clear H
           have H:=H1
           clear H1
           have H':=aa.mk H
           clear H
           go_wp2
           go_roundg kj6
           case measure=>have:=HK1.out;have:=HJ6.out;omega
           case rel=>exact⟨(wrap64 (x4_1*(rd l0 x13_1))),(x5_1),(wrap64 (x13_1+1)),ba,ba,ba,H',⟨by have:=HK1.out;have:=HJ6.out;omega⟩,dA⟩
      ·rw[if_neg c5] at H
       exact absurd H (by simp)
     ·rw[if_neg c4] at H
      exact absurd H (by simp)
    ·rw[if_neg c3] at H
     have c3b0:=decide_eq_false c3
     clear c3
     by_cases eI:x5_1=true
     ·subst eI
      have H1:=H;rw[if_pos rfl] at H1
      clear H
      have H:=H1
      clear H1
      simp only[Option.some.injEq,Prod.mk.injEq] at H
      obtain⟨rfl,rfl⟩:=H
      go_wp2
      go_ret2
      exact⟨ba,dA⟩
     ·replace eI:=Bool.eq_false_iff.mpr eI
      subst eI
      have H1:=H;rw[if_neg (show¬(false=true) by decide)] at H1
      clear H
      have H:=H1
      clear H1
      simp only[Option.some.injEq,Prod.mk.injEq] at H
      obtain⟨rfl,rfl⟩:=H
      go_wp2
      go_ret2
      exact⟨ba,dA⟩
noncomputable def dx.l0:Nat→Int→Int→List Int→Int→Int→Option (Int)
 |0,_,_,_,_,_=>none
 |k+1,x1,x5,x8,x9,x10=>if x10<x9 then(if 0≤x10 then(if x10<(x8.length:Int) then(if(rd x8 x10)=0 then(none) else(dx.l0 k (wrap64 (Int.tdiv x1 (rd x8 x10))) (wrap64 ((wrap64 (x5*(rd x8 x10)))+(Int.tmod x1 (rd x8 x10)))) x8 x9 (wrap64 (x10+1)))) else(none)) else(none)) else(some x5)
noncomputable def dx.f(k:Nat)(l0:List Int)(a1:Int):Option (Int):=dx.l0 k a1 0 l0 (l0.length:Int) 0
set_option maxHeartbeats 8000000 in
set_option maxRecDepth 100000 in
theorem dx.calls(k:Nat)(A0:Option Addr)(c0:Nat)(l0:List Int)(a1:Int)(r:Int)(w:World)(hr0:Kd.C (Kd.int .i64) w A0 l0.length l0)(hc0:l0.length≤c0)(h:dx.f k l0 a1=some r):
  Calls Tryz.prog 105 #[.slice A0 l0.length c0, .int .i64 a1] w fun e w'=>e= .returned (.int .i64 r)∧al w w':=by
 have HR0:=aa.mk hr0
 have HC0:=aa.mk hc0
 clear hr0 hc0
 have H:=h;unfold dx.f at H
 clear h
 have H':=aa.mk H
 clear H
 go_enter Tryz.func105,Tryz.ntmps105
 go_wp2
 go_loopg [1,5,10] k (fun kq v1 v5 v10 w'=> ∃(x1_1:Int) (x5_1:Int) (x10_1:Int),v1= .int .i64 x1_1∧v5= .int .i64 x5_1∧v10= .int .i64 x10_1∧aa (dx.l0 kq x1_1 x5_1 l0 (l0.length:Int) x10_1=some r)∧aa (kq≤k)∧al w w')
 case atStart=>exact⟨(a1),(0),(0),ba,ba,ba,H',⟨Nat.le_refl _⟩,dA⟩
 case round=>
  clear H'
  obtain⟨x1_1,x5_1,x10_1,rfl,rfl,rfl,HA,HK1,⟨m1,rfl⟩⟩:=hrel
  cases gk with
  |zero=>exact absurd HA.out (by simp[dx.l0])
  |succ k1=>
   have H:=HA.out
   clear HA
   simp only[dx.l0] at H
   by_cases c3:x10_1<(l0.length:Int)
   ·rw[if_pos c3] at H
    have c3b0:=decide_eq_true c3
    clear c3
    by_cases c4:0≤x10_1
    ·rw[if_pos c4] at H
     have c4b0:=decide_eq_true c4
     clear c4
     by_cases c5:x10_1<(l0.length:Int)
     ·rw[if_pos c5] at H
      have c5b0:=decide_eq_true c5
      clear c5
      by_cases c6:(rd l0 x10_1)=0
      ·rw[if_pos c6] at H
       exact absurd H (by simp)
      ·rw[if_neg c6] at H
       have c6b0:=beq_eq_false_iff_ne.mpr c6
       have c6b1:=bne_iff_ne.mpr c6
       have H':=aa.mk H
       clear H
       have p102:0≤(x10_1:Int):=of_decide_eq_true (by assumption)
       have q102:x10_1<(l0.length:Int):=of_decide_eq_true (by assumption)
       obtain⟨ad102,e102,hx102_0⟩:=Kd.cS HR0.out x10_1 p102 q102
       cases e102
       replace p102:=eq_true p102
       replace q102:=eq_true q102
       go_wp2
       go_roundg k1
       case measure=>have:=HK1.out;omega
       case rel=>exact⟨(wrap64 (Int.tdiv x1_1 (rd l0 x10_1))),(wrap64 ((wrap64 (x5_1*(rd l0 x10_1)))+(Int.tmod x1_1 (rd l0 x10_1)))),(wrap64 (x10_1+1)),ba,ba,ba,H',⟨by have:=HK1.out;omega⟩,dA⟩
     ·rw[if_neg c5] at H
      exact absurd H (by simp)
    ·rw[if_neg c4] at H
     exact absurd H (by simp)
   ·rw[if_neg c3] at H
    have c3b0:=decide_eq_false c3
    clear c3
    obtain rfl:=Option.some.inj H
    go_wp2
    go_ret
    exact⟨ba,dA⟩
noncomputable def cP.l0:Nat→List Int→List Int→List Int→Int→Int→Option (List Int×Int)
 |0,_,_,_,_,_=>none
 |k+1,x1,x8,x25,x26,x27=>if x27<x26 then(if 0≤x27 then(if x27<(x25.length:Int) then((dx.f k x1 x27).bind fun t109=>(if 0≤t109 then(if t109<(x8.length:Int) then(cP.l0 k x1 (x8.set (t109:Int).toNat (rd x25 x27)) x25 x26 (wrap64 (x27+1))) else(none)) else(none))) else(none)) else(none)) else(some (x8,0))
noncomputable def cP.f(k:Nat)(l0:List Int)(l1:List Int):Option (List Int×Int):=(cb.f k l1).bind fun bt103=>(if bt103.2=0 then(if(l0.length:Int)=bt103.1 then(if 0≤bt103.1 then(if(bt103.1:Int).toNat≤35184372088832 then(cP.l0 k l1 (List.replicate (bt103.1:Int).toNat 0) l0 (l0.length:Int) 0) else(none)) else(none)) else(some (([]:List Int),1))) else(some (([]:List Int),bt103.2)))
set_option maxHeartbeats 8000000 in
set_option maxRecDepth 100000 in
theorem cP.calls(k:Nat)(A0:Option Addr)(c0:Nat)(l0:List Int)(A1:Option Addr)(c1:Nat)(l1:List Int)(r1:List Int)(r2:Int)(w:World)(hr0:Kd.C (Kd.int .u64) w A0 l0.length l0)(hc0:l0.length≤c0)(hr1:Kd.C (Kd.int .i64) w A1 l1.length l1)(hc1:l1.length≤c1)(h:cP.f k l0 l1=some (r1,r2)):
  Calls Tryz.prog 67 #[.slice A0 l0.length c0, .slice A1 l1.length c1] w fun e w'=> ∃v0_:Value,e= .returned (.tuple #[v0_, .int .i64 r2])∧Kd.R (Kd.int .u64) 22 w' w.heap.size (fun _=>True) v0_ r1∧Below w.heap.size w w':=by
 have HR0:=aa.mk hr0
 have HC0:=aa.mk hc0
 clear hr0 hc0
 have HR1:=aa.mk hr1
 have HC1:=aa.mk hc1
 clear hr1 hc1
 have HB:=aa.mk (Below.refl w.heap.size w)
 have H:=h;unfold cP.f at H
 clear h
 replace H:=Option.bind_eq_some_iff.mp H
 obtain⟨⟨t103,t104⟩,A30,H⟩:=H
 (try dsimp only at H)
 have A3:=aa.mk A30
 clear A30
 by_cases c4:t104=0
 ·rw[if_pos c4] at H
  have c4b0:=beq_iff_eq.mpr c4
  have c4b1:=bne_eq_false_iff_eq.mpr c4
  clear c4
  by_cases c5:(l0.length:Int)=t103
  ·rw[if_pos c5] at H
   have c5b0:=beq_iff_eq.mpr c5
   have c5b1:=bne_eq_false_iff_eq.mpr c5
   clear c5
   by_cases c6:0≤t103
   ·rw[if_pos c6] at H
    have c6b0:=eq_true c6
    have c6b1:=decide_eq_true c6
    clear c6
    by_cases c7:(t103:Int).toNat≤35184372088832
    ·rw[if_pos c7] at H
     have c7b0:=eq_true c7
     have c7b1:=decide_eq_true c7
     clear c7
     obtain⟨y105,hy105⟩: ∃y_:List Int,y_=(List.replicate (t103:Int).toNat 0):=⟨_,rfl⟩
     replace H:(cP.l0 k l1 y105 l0 (l0.length:Int) 0)=some (r1,r2):=by first|(rw[hy105];with_reducible exact H)|(have H2_:=(Option.bind_some _ _).symm.trans H;rw[hy105];with_reducible exact H2_)|(have H2_:=(Option.bind_some _ _).symm.trans H;with_reducible exact H2_)|with_reducible exact H|(rw[hy105];exact H)|exact H
     have Ny105:=aa.mk hy105
     clear hy105
     have H':=aa.mk H
     clear H
     go_enter Tryz.func67,Tryz.ntmps67
     go_wp2_with (first|(refine ez 13 Tryz.func104 #[.slice A1 l1.length c1] rfl ?_;(with_reducible refine(cb.calls k _ _ l1 t103 t104 _ ?side1 ?side2 A3.out).mono ?_);(case side1=>exact cr HR1.out);(case side2=>exact HC1.out);rintro e w' ⟨rfl,⟨nd,rfl⟩⟩;refine⟨_,rfl,?_⟩)|((with_reducible refine a8 (N:=24) rfl ?_);refine Kd.jl (Kd.int .u64) _ 22 rfl (N:=24) rfl 26 _ _ rfl t103 rfl rfl Tryz.underlying26 (.int .u64 0) 8 ff rfl (by decide) (by omega) 0 (ok:=fun _=>True) (okp:=fun _=>True) rfl (fun _ hk=>hk) trivial (of_decide_eq_true (by assumption)) (Nat.le_trans (Nat.mul_le_mul_right _ (of_decide_eq_true (by assumption):t103.toNat≤35184372088832)) (by omega)) (Below.refl _ _) (Nat.le_refl _) ?_;intro v106 w8 ho9 hb hg_ hnew_;clear hg_ hnew_;(first|rw[←Ny105.out] at ho9|(simp only[Int.reduceToNat] at ho9;rw[←Ny105.out] at ho9));have n0_:=aa.mk (Kd.bA ho9 (ah aj));have n1_:=aa.mk (ai aj hb);clear HB;have HO107:=n0_;have HB:=n1_;clear n0_ n1_;clear hb ho9))
     go_loopg [27] k (fun kq v27 w'=> ∃(x8_1:List Int) (x27_1:Int),v27= .int .i64 x27_1∧aa (cP.l0 kq l1 x8_1 l0 (l0.length:Int) x27_1=some (r1,r2))∧aa (kq≤k)∧aa (Kd.R (Kd.int .u64) 22 w' w.heap.size (fun _=>True) v106 x8_1)∧aa (Below w.heap.size w w'))
     case atStart=>exact⟨(y105),(0),ba,H',⟨Nat.le_refl _⟩,⟨bw HO107.out⟩,⟨aj⟩⟩
     case round=>
      clear H'
      obtain⟨x8_1,x27_1,rfl,HA,HK1,HO_8,HB⟩:=hrel
      cases gk with
      |zero=>exact absurd HA.out (by simp[cP.l0])
      |succ k1=>
       have H:=HA.out
       clear HA
       simp only[cP.l0] at H
       by_cases dR:x27_1<(l0.length:Int)
       ·rw[if_pos dR] at H
        have c10b0:=decide_eq_true dR
        clear dR
        by_cases eI:0≤x27_1
        ·rw[if_pos eI] at H
         have c11b0:=decide_eq_true eI
         clear eI
         by_cases ja:x27_1<(l0.length:Int)
         ·rw[if_pos ja] at H
          have c12b0:=decide_eq_true ja
          clear ja
          replace H:=Option.bind_eq_some_iff.mp H
          obtain⟨t109,A130,H⟩:=H
          (try dsimp only at H)
          have A13:=aa.mk A130
          clear A130
          by_cases fu:0≤t109
          ·rw[if_pos fu] at H
           have c14b0:=decide_eq_true fu
           clear fu
           by_cases im:t109<(x8_1.length:Int)
           ·rw[if_pos im] at H
            have c15b0:=decide_eq_true im
            clear im
            obtain⟨y110,hy110⟩: ∃y_:List Int,y_=(x8_1.set (t109:Int).toNat (rd l0 x27_1)):=⟨_,rfl⟩
            replace H:(cP.l0 k1 l1 y110 l0 (l0.length:Int) (wrap64 (x27_1+1)))=some (r1,r2):=by first|(rw[hy110];with_reducible exact H)|(have H2_:=(Option.bind_some _ _).symm.trans H;rw[hy110];with_reducible exact H2_)|(have H2_:=(Option.bind_some _ _).symm.trans H;with_reducible exact H2_)|with_reducible exact H|(rw[hy110];exact H)|exact H
            have Ny110:=aa.mk hy110
            clear hy110
            have H':=aa.mk H
            clear H
            have p108:0≤(x27_1:Int):=of_decide_eq_true (by assumption)
            have q108:x27_1<(l0.length:Int):=of_decide_eq_true (by assumption)
            obtain⟨ad108,e108,hx108_0⟩:=Kd.cS HR0.out x27_1 p108 q108
            cases e108
            replace hx108_0:=ej HB.out hx108_0
            replace p108:=eq_true p108
            replace q108:=eq_true q108
            go_wp2_with (first|(refine ez 35 Tryz.func105 #[.slice A1 l1.length c1, .int .i64 x27_1] rfl ?_;(with_reducible refine(dx.calls k1 _ _ l1 x27_1 t109 _ ?side1 ?side2 A13.out).mono ?_);(case side1=>exact cr (Kd.bl HR1.out HB.out));(case side2=>exact HC1.out);rintro e w' ⟨rfl,⟨nd,rfl⟩⟩;refine⟨_,rfl,?_⟩;(try(rw[kD wr];generalize hq_:World.drewN wr _=wr;have n0_:aa (Kd.R (Kd.int .u64) 22 wr w.heap.size (fun _=>True) v106 x8_1):=⟨by rw[←hq_];exact(bw HO_8.out)⟩;have n1_:aa (Below w.heap.size w wr):=⟨by rw[←hq_];exact aj⟩;clear HO_8 HB hq_;have HO_8:=n0_;have HB:=n1_;clear n0_ n1_));have p16:0≤(t109:Int):=of_decide_eq_true (by assumption);have q16:(t109:Int)<((x8_1.length:Int):Int):=of_decide_eq_true (by assumption);obtain⟨go16,co16,eo16,gb16,gl16,cl16,HG16⟩:=Kd.gu HO_8.out (by omega);(first|cases eo16|(injection eo16 with ea_ en_ ec_;(first|subst ea_|(injection ea_ with ea_;subst ea_));subst ec_;clear en_));have GB16:=aa.mk gb16;have GG16:=aa.mk HG16;clear gb16 gl16 HG16;obtain⟨hx16_0,hf16_0⟩:=Kd.eR 0 HO_8.out (t109:Int) p16 q16;replace p16:=eq_true p16;replace q16:=eq_true q16;obtain⟨hy17_,hz17_⟩:=Kd.eR 0 HO_8.out (t109:Int) (of_decide_eq_true (by assumption)) (of_decide_eq_true (by assumption));have HP17:=Kd.iZ HO_8.out (t109:Int) (rd l0 x27_1))|((with_reducible refine e8 (t:=22) (p:=37) rfl ?_);refine eK (t:=22) (p:=37) (v:=?vo_w18) (w1:=(wr.setCell ⟨go16,(t109:Int).toNat,none⟩ (.int .u64 (rd l0 x27_1)))) ?hg ?ho ?hn ?hr ?_;(case ho=>rfl);(case hg=>rfl);(case hn=>rfl);(case hr=>first|(go_simp;done)|(go_simp;rfl));intro w18 hw;have hg:wr.grownBy w18 (some go16):=(by rw[hw];exact HP17.2);have hp_:Kd.R (Kd.int .u64) 22 w18 w.heap.size (fun _=>True) (.slice (some ⟨go16,0,none⟩) x8_1.length co16) y110:=(by rw[hw,Ny110.out];exact HP17.1);clear HP17;have n0_:=aa.mk (hp_);have n1_:=aa.mk ((by rw[hw];exact cq (HB.out) GB16.out:Below w.heap.size w w18));clear HO_8;clear HB;have HO_8:=n0_;have HB:=n1_;clear n0_ n1_;clear hg hw hp_))
            go_roundg k1
            case measure=>have:=HK1.out;omega
            case rel=>exact⟨(y110),(wrap64 (x27_1+1)),ba,H',⟨by have:=HK1.out;omega⟩,⟨bw HO_8.out⟩,⟨aj⟩⟩
           ·rw[if_neg im] at H
            exact absurd H (by simp)
          ·rw[if_neg fu] at H
           exact absurd H (by simp)
         ·rw[if_neg ja] at H
          exact absurd H (by simp)
        ·rw[if_neg eI] at H
         exact absurd H (by simp)
       ·rw[if_neg dR] at H
        have c10b0:=decide_eq_false dR
        clear dR
        simp only[Option.some.injEq,Prod.mk.injEq] at H
        obtain⟨rfl,rfl⟩:=H
        go_wp2
        go_ret2
        exact⟨_,ba,bw HO_8.out,aj⟩
    ·rw[if_neg c7] at H
     exact absurd H (by simp)
   ·rw[if_neg c6] at H
    exact absurd H (by simp)
  ·rw[if_neg c5] at H
   have c5b0:=beq_eq_false_iff_ne.mpr c5
   have c5b1:=bne_iff_ne.mpr c5
   simp only[Option.some.injEq,Prod.mk.injEq] at H
   obtain⟨rfl,rfl⟩:=H
   go_enter Tryz.func67,Tryz.ntmps67
   go_wp2_with (first|(refine ez 13 Tryz.func104 #[.slice A1 l1.length c1] rfl ?_;(with_reducible refine(cb.calls k _ _ l1 t103 t104 _ ?side1 ?side2 A3.out).mono ?_);(case side1=>exact cr HR1.out);(case side2=>exact HC1.out);rintro e w' ⟨rfl,⟨nd,rfl⟩⟩;refine⟨_,rfl,?_⟩))
   go_ret2
   exact⟨_,ba,rQ,aj⟩
 ·rw[if_neg c4] at H
  have c4b0:=beq_eq_false_iff_ne.mpr c4
  have c4b1:=bne_iff_ne.mpr c4
  simp only[Option.some.injEq,Prod.mk.injEq] at H
  obtain⟨rfl,rfl⟩:=H
  go_enter Tryz.func67,Tryz.ntmps67
  go_wp2_with (first|(refine ez 13 Tryz.func104 #[.slice A1 l1.length c1] rfl ?_;(with_reducible refine(cb.calls k _ _ l1 t103 t104 _ ?side1 ?side2 A3.out).mono ?_);(case side1=>exact cr HR1.out);(case side2=>exact HC1.out);rintro e w' ⟨rfl,⟨nd,rfl⟩⟩;refine⟨_,rfl,?_⟩))
  go_ret2
  exact⟨_,ba,rQ,aj⟩
noncomputable def dz.f(l0_0:List (ct))(l0_1:List Int)(a0_2:Int)(a0_3:Int)(a1:Int):Option (Int):=if(wrap64 (a0_2*a0_3))=0 then(none) else(if(l0_1.length:Int)=0 then(none) else(if 0≤(Int.tmod (wrap64 (a1*(wrap64 (Int.tdiv (l0_1.length:Int) (wrap64 (a0_2*a0_3)))))) (l0_1.length:Int)) then(if(Int.tmod (wrap64 (a1*(wrap64 (Int.tdiv (l0_1.length:Int) (wrap64 (a0_2*a0_3)))))) (l0_1.length:Int))<(l0_1.length:Int) then(some (rd l0_1 (Int.tmod (wrap64 (a1*(wrap64 (Int.tdiv (l0_1.length:Int) (wrap64 (a0_2*a0_3)))))) (l0_1.length:Int)))) else(none)) else(none)))
set_option maxHeartbeats 8000000 in
set_option maxRecDepth 100000 in
theorem dz.calls(A0_0:Option Addr)(c0_0:Nat)(l0_0:List (ct))(A0_1:Option Addr)(c0_1:Nat)(l0_1:List Int)(a0_2:Int)(a0_3:Int)(a1:Int)(r:Int)(w:World)(hr0_0:Kd.C fK w A0_0 l0_0.length l0_0)(hc0_0:l0_0.length≤c0_0)(hr0_1:Kd.C (Kd.int .u64) w A0_1 l0_1.length l0_1)(hc0_1:l0_1.length≤c0_1)(h:dz.f l0_0 l0_1 a0_2 a0_3 a1=some r):
  Calls Tryz.prog 133 #[.agg #[bh (.slice A0_0 l0_0.length c0_0), .slice A0_1 l0_1.length c0_1, .int .i64 a0_2, .int .i64 a0_3], .int .i64 a1] w fun e w'=>e= .returned (.int .u64 r)∧Below w.heap.size w w':=by
 have hu104:=Tryz.underlying104
 have HR0_0:=aa.mk hr0_0
 have HC0_0:=aa.mk hc0_0
 clear hr0_0 hc0_0
 have HR0_1:=aa.mk hr0_1
 have HC0_1:=aa.mk hc0_1
 clear hr0_1 hc0_1
 have HB:=aa.mk (Below.refl w.heap.size w)
 have H:=h;unfold dz.f at H
 clear h
 by_cases c3:(wrap64 (a0_2*a0_3))=0
 ·rw[if_pos c3] at H
  exact absurd H (by simp)
 ·rw[if_neg c3] at H
  have c3b0:=beq_eq_false_iff_ne.mpr c3
  have c3b1:=bne_iff_ne.mpr c3
  by_cases c4:(l0_1.length:Int)=0
  ·rw[if_pos c4] at H
   exact absurd H (by simp)
  ·rw[if_neg c4] at H
   have c4b0:=beq_eq_false_iff_ne.mpr c4
   have c4b1:=bne_iff_ne.mpr c4
   have c4b2: ¬(l0_1=[]):=fun h_=>c4 (by rw[h_];rfl)
   obtain⟨ji5,hji5⟩: ∃j_:Int,(Int.tmod (wrap64 (a1*(wrap64 (Int.tdiv (l0_1.length:Int) (wrap64 (a0_2*a0_3)))))) (l0_1.length:Int))=j_:=⟨_,rfl⟩
   (first|rw[hji5] at H|simp only[hji5] at H)
   (try have hji5q_:(Int.tmod (wrap64 (a1*(wrap64 ((l0_1.length:Int)/(wrap64 (a0_2*a0_3)))))) (l0_1.length:Int))=ji5:=by rw[←Int.tdiv_eq_ediv_of_nonneg (by omega)];exact hji5)
   have hji5v:(Int.tmod (IntKind.i64.wrap (a1*(IntKind.i64.wrap (Int.tdiv (l0_1.length:Int) (IntKind.i64.wrap (a0_2*a0_3)))))) (l0_1.length:Int))=ji5:=by simp only[bs];exact hji5
   by_cases c6:0≤(ji5)
   ·rw[if_pos c6] at H
    have c6b0:=decide_eq_true c6
    clear c6
    by_cases c7:(ji5)<(l0_1.length:Int)
    ·rw[if_pos c7] at H
     have c7b0:=decide_eq_true c7
     clear c7
     obtain rfl:=Option.some.inj H
     go_enter Tryz.func133,Tryz.ntmps133
     go_wp2_with (first|((with_reducible refine a8 (N:=2) rfl ?_);refine iX 2 #[bh (.slice A0_0 l0_0.length c0_0), .slice A0_1 l0_1.length c0_1, .int .i64 a0_2, .int .i64 a0_3] 104 ?_;intro gb111 hg w8 hbox hb;have n0_:=aa.mk (ai aj hb);have n1_:=aa.mk (hbox);have n2_:=aa.mk ((by rw[hg];exact(ah aj):w.heap.size≤gb111));have n3_:=aa.mk ((by rw[hg];exact(ah aj):w.heap.size≤gb111));clear HB;have HB:=n0_;have BK111:=n1_;have GW111:=n2_;have GE111:=n3_;clear n0_ n1_ n2_ n3_;clear hb hbox hg;have hcz9_0:=bD BK111.out 0 rfl;have hcz9_1:=bD BK111.out 1 rfl;have hcz9_2:=bD BK111.out 2 rfl;have hcz9_3:=bD BK111.out 3 rfl;have hfz9_0:=ab BK111.out 0;have hfz9_1:=ab BK111.out 1;have hfz9_2:=ab BK111.out 2;have hfz9_3:=ab BK111.out 3;have p112:0≤((ji5):Int):=of_decide_eq_true (by assumption);have q112:(ji5)<(l0_1.length:Int):=of_decide_eq_true (by assumption);obtain⟨ad112,e112,hx112_0⟩:=Kd.cS HR0_1.out (ji5) p112 q112;cases e112;replace hx112_0:=ej HB.out hx112_0;replace p112:=eq_true p112;replace q112:=eq_true q112))
     repeat(go_quiet (first|((with_reducible refine a8 (N:=2) rfl ?_);refine iX 2 #[bh (.slice A0_0 l0_0.length c0_0), .slice A0_1 l0_1.length c0_1, .int .i64 a0_2, .int .i64 a0_3] 104 ?_;intro gb111 hg w8 hbox hb;have n0_:=aa.mk (ai aj hb);have n1_:=aa.mk (hbox);have n2_:=aa.mk ((by rw[hg];exact(ah aj):w.heap.size≤gb111));have n3_:=aa.mk ((by rw[hg];exact(ah aj):w.heap.size≤gb111));clear HB;have HB:=n0_;have BK111:=n1_;have GW111:=n2_;have GE111:=n3_;clear n0_ n1_ n2_ n3_;clear hb hbox hg;have hcz9_0:=bD BK111.out 0 rfl;have hcz9_1:=bD BK111.out 1 rfl;have hcz9_2:=bD BK111.out 2 rfl;have hcz9_3:=bD BK111.out 3 rfl;have hfz9_0:=ab BK111.out 0;have hfz9_1:=ab BK111.out 1;have hfz9_2:=ab BK111.out 2;have hfz9_3:=ab BK111.out 3;have p112:0≤((ji5):Int):=of_decide_eq_true (by assumption);have q112:(ji5)<(l0_1.length:Int):=of_decide_eq_true (by assumption);obtain⟨ad112,e112,hx112_0⟩:=Kd.cS HR0_1.out (ji5) p112 q112;cases e112;replace hx112_0:=ej HB.out hx112_0;replace p112:=eq_true p112;replace q112:=eq_true q112));try go_wp2_with (first|((with_reducible refine a8 (N:=2) rfl ?_);refine iX 2 #[bh (.slice A0_0 l0_0.length c0_0), .slice A0_1 l0_1.length c0_1, .int .i64 a0_2, .int .i64 a0_3] 104 ?_;intro gb111 hg w8 hbox hb;have n0_:=aa.mk (ai aj hb);have n1_:=aa.mk (hbox);have n2_:=aa.mk ((by rw[hg];exact(ah aj):w.heap.size≤gb111));have n3_:=aa.mk ((by rw[hg];exact(ah aj):w.heap.size≤gb111));clear HB;have HB:=n0_;have BK111:=n1_;have GW111:=n2_;have GE111:=n3_;clear n0_ n1_ n2_ n3_;clear hb hbox hg;have hcz9_0:=bD BK111.out 0 rfl;have hcz9_1:=bD BK111.out 1 rfl;have hcz9_2:=bD BK111.out 2 rfl;have hcz9_3:=bD BK111.out 3 rfl;have hfz9_0:=ab BK111.out 0;have hfz9_1:=ab BK111.out 1;have hfz9_2:=ab BK111.out 2;have hfz9_3:=ab BK111.out 3;have p112:0≤((ji5):Int):=of_decide_eq_true (by assumption);have q112:(ji5)<(l0_1.length:Int):=of_decide_eq_true (by assumption);obtain⟨ad112,e112,hx112_0⟩:=Kd.cS HR0_1.out (ji5) p112 q112;cases e112;replace hx112_0:=ej HB.out hx112_0;replace p112:=eq_true p112;replace q112:=eq_true q112)))
     go_ret
     exact⟨by first|rfl|(simp[cX,cY]<;>rfl)|(simp only[←hji5];first|rfl|(simp[cX,cY]<;>rfl))|(simp[*,cX,cY]<;>rfl),aj⟩
    ·rw[if_neg c7] at H
     exact absurd H (by simp)
   ·rw[if_neg c6] at H
    exact absurd H (by simp)
end Go.Proofs.YtndkmnjbjlfeaaaGreat.XM
end
section
namespace Go.Proofs.YtndkmnjbjlfeaaaGreat.XM
open Go.RowKit Go.Proofs.YtndkmnjbjlfeaaaGreat.Given Go.Proofs.YtndkmnjbjlfeaaaGreat.Row05 Go.Proofs.YtndkmnjbjlfeaaaGreat.XS Go.Proofs.YtndkmnjbjlfeaaaGreat.XT Go.Proofs.YtndkmnjbjlfeaaaGreat.XR Go.Proofs.YtndkmnjbjlfeaaaGreat.F06 Go.Proofs.YtndkmnjbjlfeaaaGreat.XK Go.Proofs.YtndkmnjbjlfeaaaGreat.XW Go.Proofs.YtndkmnjbjlfeaaaGreat.XG Go.Proofs.YtndkmnjbjlfeaaaGreatW.PrintWords Go.Proofs.YtndkmnjbjlfeaaaGreatW.PrintLast Go.Proofs.YtndkmnjbjlfeaaaGreatW.PrintMore
attribute [local go_sem] bZ bW cC cB bG bH bX ca
set_option linter.unusedVariables false
set_option linter.unusedSimpArgs false
mutual
noncomputable def au.l0(s9 n9:Nat):Nat→List Int→Int→List Int→Int→Int→List (ct)→List Int→Int→Int→Option (List Int)
 |0,_,_,_,_,_,_,_,_,_=>none
 |k+1,x1,x2,x6,x16,x17,x114000,x114001,x114002,x114003=>if x17<x16 then((dz.f x114000 x114001 x114002 x114003 (wrap64 (x17*x2))).bind fun t117=>(if 0≤(wrap64 ((wrap64 (x17*x114003))+x2)) then(if(wrap64 ((wrap64 (x17*x114003))+x2))<(n9:Int) then((bd.f x114000 t117 (zy s9 x1 (wrap64 ((wrap64 (x17*x114003))+x2)))).bind fun t119=>(if 0≤x17 then(if x17<(x6.length:Int) then(au.l0 s9 n9 k x1 x2 (x6.set (x17:Int).toNat t119) x16 (wrap64 (x17+1)) x114000 x114001 x114002 x114003) else(none)) else(none))) else(none)) else(none))) else(au.l1 s9 n9 k x1 x2 x6 (x6.length:Int) 0 x114000 x114001 x114002 x114003)
noncomputable def au.l1(s9 n9:Nat):Nat→List Int→Int→List Int→Int→Int→List (ct)→List Int→Int→Int→Option (List Int)
 |0,_,_,_,_,_,_,_,_,_=>none
 |k+1,x1,x2,x6,x42,x43,x114000,x114001,x114002,x114003=>if x43<x42 then(au.l2 s9 n9 k x1 x2 x6 x43 0 x42 x43 x6 (x6.length:Int) 0 x114000 x114001 x114002 x114003) else(some x1)
noncomputable def au.l2(s9 n9:Nat):Nat→List Int→Int→List Int→Int→Int→Int→Int→List Int→Int→Int→List (ct)→List Int→Int→Int→Option (List Int)
 |0,_,_,_,_,_,_,_,_,_,_,_,_,_,_=>none
 |k+1,x1,x2,x6,x8,x9,x42,x43,x46,x47,x48,x114000,x114001,x114002,x114003=>if x48<x47 then(if 0≤x48 then(if x48<(x46.length:Int) then((dz.f x114000 x114001 x114002 x114003 (wrap64 ((wrap64 (x48*x8))*x114003))).bind fun t123=>((bd.f x114000 t123 (rd x46 x48)).bind fun t124=>((cW.f x114000 x9 t124).bind fun t125=>(au.l2 s9 n9 k x1 x2 x6 x8 t125 x42 x43 x46 x47 (wrap64 (x48+1)) x114000 x114001 x114002 x114003)))) else(none)) else(none)) else(if 0≤(wrap64 ((wrap64 (x8*x114003))+x2)) then(if(wrap64 ((wrap64 (x8*x114003))+x2))<(n9:Int) then(au.l1 s9 n9 k (x1.set (s9+((wrap64 ((wrap64 (x8*x114003))+x2)):Int).toNat) x9) x2 x6 x42 (wrap64 (x43+1)) x114000 x114001 x114002 x114003) else(none)) else(none))
end
noncomputable def au.f(s9 n9:Nat)(k:Nat)(l0_0:List (ct))(l0_1:List Int)(a0_2:Int)(a0_3:Int)(l1:List Int)(a2:Int):Option (List Int):=if 0≤a0_2 then(if(a0_2:Int).toNat≤35184372088832 then((some (List.replicate (a0_2:Int).toNat 0:List Int)).bind fun y114=>(au.l0 s9 n9 k l1 a2 y114 (y114.length:Int) 0 l0_0 l0_1 a0_2 a0_3)) else(none)) else(none)
def au.T5:Bool×List (List Nat×List Nat):=(true,[([],[]),([],[]),([],[]),([2],[2]),([],[]),([],[]),([],[]),([5,6],[5,6]),([4,7],[4,7]),([],[]),([],[]),([],[]),([11],[11]),([10,12],[10,12]),([],[]),([13,14],[13,14]),([9,15],[9,15]),([16],[16]),([3,8,17,8],[3,8,17]),([0,1,0,1,2,3,4,5,6,7,8,9,10,11,12,13,14,15,16,17,18],[0,1]),([19,18,18,0,1,2,3,4,5,6,7,8,9,10,11,12,13,14,15,16,17,18],[18,19])])
def au.B5:List Nat:=[0,0,0,4,0,0,0,96,240,0,0,0,2048,7168,0,31744,65024,130560,262140,524287,1048575]
theorem au.z7:gq .any (opsOf Tryz.f106 5)=au.T5:=by kernel_rfl
theorem au.wP:fL au.T5.2 au.B5=true:=by kernel_rfl
def au.BB:Bool×List (List Nat×List Nat):=(true,[([],[]),([0],[0]),([],[]),([],[]),([3],[3]),([],[]),([],[]),([],[]),([6,7],[6,7]),([],[]),([9],[9]),([8,10],[8,10]),([5,11],[5,11]),([],[]),([4,12,13,12],[4,12,13]),([1,2,14,14],[1,2,14]),([15,15,0,1,2,3,4,5,6,7,8,9,10,11,12,13,14,15],[2,15])])
def au.BC:List Nat:=[0,1,0,0,8,0,0,0,192,0,512,1984,4064,0,16376,32767,65535]
theorem au.Ar:gq .any (opsOf Tryz.f106 14)=au.BB:=by kernel_rfl
theorem au.zP:fL au.BB.2 au.BC=true:=by kernel_rfl
set_option maxHeartbeats 8000000 in
set_option maxRecDepth 100000 in
theorem au.calls(k:Nat)(A0_0:Option Addr)(c0_0:Nat)(l0_0:List (ct))(A0_1:Option Addr)(c0_1:Nat)(l0_1:List Int)(a0_2:Int)(a0_3:Int)(P1_:Nat→Prop)(g9 s9 n9 cp9 co9:Nat)(l1:List Int)(a2:Int)(r:List Int)(w0 w:World)(hB:Below w0.heap.size w0 w)(hr0_0: ∀W_,Kept w W_ (fun k_=>P1_ k_)→Kd.C fK W_ A0_0 l0_0.length l0_0)(hc0_0:l0_0.length≤c0_0)(hr0_1: ∀W_,Kept w W_ (fun k_=>P1_ k_)→Kd.C (Kd.int .u64) W_ A0_1 l0_1.length l0_1)(hc0_1:l0_1.length≤c0_1)(ho1:Kd.R (Kd.int .u64) 22 w w0.heap.size P1_ (.slice (some ⟨g9,0,none⟩) l1.length co9) l1)(hs9:s9+n9≤l1.length)(h:au.f s9 n9 k l0_0 l0_1 a0_2 a0_3 l1 a2=some r):
  Calls Tryz.prog 106 #[.agg #[bh (.slice A0_0 l0_0.length c0_0), .slice A0_1 l0_1.length c0_1, .int .i64 a0_2, .int .i64 a0_3], .slice (some ⟨g9,s9,none⟩) n9 cp9, .int .i64 a2] w fun e w'=>e= .returned (.tuple #[])∧Kd.R (Kd.int .u64) 22 w' w0.heap.size (fun k_=>(P1_ k_∨w.heap.size≤k_)) (.slice (some ⟨g9,0,none⟩) l1.length co9) r∧Below w0.heap.size w0 w'∧Kept w w' (fun k_=>P1_ k_):=by
 have hu104:=Tryz.underlying104
 have HS9:=aa.mk hs9
 clear hs9
 have HR0_0:=aa.mk hr0_0
 have HC0_0:=aa.mk hc0_0
 clear hr0_0 hc0_0
 have HR0_1:=aa.mk hr0_1
 have HC0_1:=aa.mk hc0_1
 clear hr0_1 hc0_1
 have HO1:=aa.mk (show Kd.R (Kd.int .u64) 22 w w0.heap.size (fun k_=>(P1_ k_∨w.heap.size≤k_)) (.slice (some ⟨g9,0,none⟩) l1.length co9) l1 from Kd.bz ho1 (fun k_ hk=>(.inl hk)))
 have HK:=aa.mk (Kept.refl w (fun k_=>P1_ k_))
 have HW0:=aa.mk hB.size
 have HB:=aa.mk hB
 clear hB
 have H:=h;unfold au.f at H
 clear h
 by_cases c4:0≤a0_2
 ·rw[if_pos c4] at H
  have c4b0:=eq_true c4
  have c4b1:=decide_eq_true c4
  clear c4
  by_cases c5:(a0_2:Int).toNat≤35184372088832
  ·rw[if_pos c5] at H
   have c5b0:=eq_true c5
   have c5b1:=decide_eq_true c5
   clear c5
   obtain⟨y114,hy114⟩: ∃y_:List Int,y_=(List.replicate (a0_2:Int).toNat 0):=⟨_,rfl⟩
   replace H:(au.l0 s9 n9 k l1 a2 y114 (y114.length:Int) 0 l0_0 l0_1 a0_2 a0_3)=some r:=by first|(rw[hy114];with_reducible exact H)|(have H2_:=(Option.bind_some _ _).symm.trans H;rw[hy114];with_reducible exact H2_)|(have H2_:=(Option.bind_some _ _).symm.trans H;with_reducible exact H2_)|with_reducible exact H|(rw[hy114];exact H)|exact H
   have Ny114:=aa.mk hy114
   clear hy114
   have H':=aa.mk H
   clear H
   go_enter Tryz.func106,Tryz.ntmps106
   go_wp2_with (first|((with_reducible refine a8 (N:=3) rfl ?_);refine iX 3 #[bh (.slice A0_0 l0_0.length c0_0), .slice A0_1 l0_1.length c0_1, .int .i64 a0_2, .int .i64 a0_3] 104 ?_;intro gb113 hg w6 hbox hb;have n0_:=aa.mk (Kd.de (bw HO1.out) hb);have n1_:=aa.mk (Kept.below (S:=(fun k_=>P1_ k_)) iG hb);have n2_:=aa.mk (ai aj hb);have n3_:=aa.mk (hbox);have n4_:=aa.mk ((by rw[hg];exact(by first|exact HK.out.1|exact(show Kept w _ (fun k_=>P1_ k_) from iG).1):w.heap.size≤gb113));have n5_:=aa.mk ((by rw[hg];exact(ah aj):w0.heap.size≤gb113));clear HO1;clear HK;clear HB;have HO1:=n0_;have HK:=n1_;have HB:=n2_;have BK113:=n3_;have GW113:=n4_;have GE113:=n5_;clear n0_ n1_ n2_ n3_ n4_ n5_;clear hb hbox hg;have hcz7_0:=bD BK113.out 0 rfl;have hcz7_1:=bD BK113.out 1 rfl;have hcz7_2:=bD BK113.out 2 rfl;have hcz7_3:=bD BK113.out 3 rfl;have hfz7_0:=ab BK113.out 0;have hfz7_1:=ab BK113.out 1;have hfz7_2:=ab BK113.out 2;have hfz7_3:=ab BK113.out 3)|((with_reducible refine a8 (N:=14) rfl ?_);refine Kd.jl (Kd.int .u64) _ 22 rfl (N:=14) rfl 26 _ _ rfl a0_2 rfl rfl Tryz.underlying26 (.int .u64 0) 8 ff rfl (by decide) (by omega) 0 (ok:=fun _=>True) (okp:=fun _=>True) rfl (fun _ hk=>hk) trivial (of_decide_eq_true (by assumption)) (Nat.le_trans (Nat.mul_le_mul_right _ (of_decide_eq_true (by assumption):a0_2.toNat≤35184372088832)) (by omega)) (Below.refl _ _) (Nat.le_refl _) ?_;intro v115 w8 ho9 hb hg_ hnew_;clear hg_ hnew_;(first|rw[←Ny114.out] at ho9|(simp only[Int.reduceToNat] at ho9;rw[←Ny114.out] at ho9));have n0_:=aa.mk (Kd.dp (bw HO1.out) (Kd.dP ho9) hb);have n1_:=aa.mk (Kd.bA (Kd.ek (Kd.rG (M:=fun k_=>(P1_ k_∨w.heap.size≤k_)) ho9 (by first|exact HK.out.1|exact(show Kept w _ (fun k_=>P1_ k_) from iG).1) (fun k_ h_=> .inr h_)) (Kd.gI (bw HO1.out))) (ah aj));have n2_:=aa.mk (aH BK113.out hb);have n3_:=aa.mk (Kept.below (S:=(fun k_=>P1_ k_)) iG hb);have n4_:=aa.mk (ai aj hb);clear HO1;clear BK113;clear HK;clear HB;have HO1:=n0_;have HO116:=n1_;have BK113:=n2_;have HK:=n3_;have HB:=n4_;clear n0_ n1_ n2_ n3_ n4_;clear hb ho9;obtain⟨Ao10,co10,eo10⟩:=Kd.bF HO116.out;subst eo10))
   go_loopg [17] k (fun kq v17 w'=> ∃(x6_1:List Int) (x17_1:Int),v17= .int .i64 x17_1∧aa (au.l0 s9 n9 kq l1 a2 x6_1 (y114.length:Int) x17_1 l0_0 l0_1 a0_2 a0_3=some r)∧aa (kq≤k)∧aa (Kd.R (Kd.int .u64) 22 w' w0.heap.size (fun k_=>(P1_ k_∨w.heap.size≤k_)∧some k_≠((.slice Ao10 y114.length co10):Value).ownBlock) (.slice (some ⟨g9,0,none⟩) l1.length co9) l1)∧aa (Kd.R (Kd.int .u64) 22 w' w0.heap.size (fun k_=>(P1_ k_∨w.heap.size≤k_)∧some k_≠((.slice (some ⟨g9,0,none⟩) l1.length co9):Value).ownBlock) (.slice Ao10 y114.length co10) x6_1)∧aa (w'.heap[gb113]?=some (.cells #[(bh (.slice A0_0 l0_0.length c0_0)),(.slice A0_1 l0_1.length c0_1), .int .i64 a0_2, .int .i64 a0_3] 104 (0,0)))∧aa (Kept w w' (fun k_=>P1_ k_))∧aa (Below w0.heap.size w0 w'))
   case atStart=>exact⟨(y114),(0),ba,H',⟨Nat.le_refl _⟩,⟨bw HO1.out⟩,⟨by(with_reducible repeat(first|apply Kd.bE|apply Kd.bL|apply Kd.bO));exact Kd.bz HO116.out (fun _ hk=>⟨hk.1.1,hk.2⟩)⟩,⟨ch BK113.out⟩,⟨iG⟩,⟨aj⟩⟩
   case round=>
    clear H'
    obtain⟨x6_1,x17_1,rfl,HA,HK1,HO_1,HO_6,BK113,HK,HB⟩:=hrel
    have hl6_1:=(Kd.aA HO_6.out).1
    rw[hl6_1] at HO_6
    (try simp only[hl6_1])
    (try simp only[hl6_1] at BK113)
    (try simp only[hl6_1] at HO_1)
    cases gk with
    |zero=>exact absurd HA.out (by simp[au.l0])
    |succ k1=>
     have H:=HA.out
     clear HA
     simp only[au.l0] at H
     by_cases eI:x17_1<(y114.length:Int)
     ·rw[if_pos eI] at H
      have c11b0:=decide_eq_true eI
      (try(have c11b0hl6_1:=c11b0;simp only[hl6_1] at c11b0hl6_1))
      clear eI
      replace H:=Option.bind_eq_some_iff.mp H
      obtain⟨t117,A120,H⟩:=H
      (try dsimp only at H)
      have A12:=aa.mk A120
      clear A120
      obtain⟨ji13,hji13⟩: ∃j_:Int,(wrap64 ((wrap64 (x17_1*a0_3))+a2))=j_:=⟨_,rfl⟩
      (first|rw[hji13] at H|simp only[hji13] at H)
      (try rw[hji13] at A12)
      have hji13v:(IntKind.i64.wrap ((IntKind.i64.wrap (x17_1*a0_3))+a2))=ji13:=by simp only[bs];exact hji13
      have hji13w:(IntKind.i64.wrap ((wrap64 (x17_1*a0_3))+a2))=ji13:=(bs _).trans hji13
      by_cases fu:0≤(ji13)
      ·rw[if_pos fu] at H
       have c14b0:=decide_eq_true fu
       clear fu
       by_cases im:(ji13)<(n9:Int)
       ·rw[if_pos im] at H
        have c15b0:=decide_eq_true im
        (try(have c15b0hl6_1:=c15b0;simp only[hl6_1] at c15b0hl6_1))
        clear im
        replace H:=Option.bind_eq_some_iff.mp H
        obtain⟨t119,A160,H⟩:=H
        (try dsimp only at H)
        have A16:=aa.mk A160
        clear A160
        by_cases gQ:0≤x17_1
        ·rw[if_pos gQ] at H
         have c17b0:=decide_eq_true gQ
         clear gQ
         by_cases jy:x17_1<(x6_1.length:Int)
         ·rw[if_pos jy] at H
          have c18b0:=decide_eq_true jy
          (try(have c18b0hl6_1:=c18b0;simp only[hl6_1] at c18b0hl6_1))
          clear jy
          obtain⟨y120,hy120⟩: ∃y_:List Int,y_=(x6_1.set (x17_1:Int).toNat t119):=⟨_,rfl⟩
          replace H:(au.l0 s9 n9 k1 l1 a2 y120 (y114.length:Int) (wrap64 (x17_1+1)) l0_0 l0_1 a0_2 a0_3)=some r:=by first|(rw[hy120];with_reducible exact H)|(have H2_:=(Option.bind_some _ _).symm.trans H;rw[hy120];with_reducible exact H2_)|(have H2_:=(Option.bind_some _ _).symm.trans H;with_reducible exact H2_)|with_reducible exact H|(rw[hy120];exact H)|exact H
          have Ny120:=aa.mk hy120
          clear hy120
          have H':=aa.mk H
          clear H
          try go_wp2
          have n0_:=aa.mk (Kd.bO HO_1.out)
          have n1_:=aa.mk (Kd.bO HO_6.out)
          have n2_:=aa.mk (bR BK113.out)
          have n3_:=aa.mk (Kept.drew HK.out)
          have n4_:=aa.mk (bx HB.out)
          clear HO_1
          clear HO_6
          clear BK113
          clear HK
          clear HB
          have HO_1:=n0_
          have HO_6:=n1_
          have BK113:=n2_
          have HK:=n3_
          have HB:=n4_
          clear n0_ n1_ n2_ n3_ n4_
          have p118:0≤((ji13):Int):=of_decide_eq_true (by assumption)
          have q118:(ji13)<(n9:Int):=of_decide_eq_true (by assumption)
          have hx118_0:=(uI HO_1.out HS9.out (ji13) p118 q118).1
          replace p118:=eq_true p118
          replace q118:=eq_true q118
          refine fN (n:=21) (S:=fun w'=>w'.cell? ⟨gb113,0,none⟩=some (bh (.slice A0_0 l0_0.length c0_0))∧w'.cell? ⟨gb113,1,none⟩=some (.slice A0_1 l0_1.length c0_1)∧w'.cell? ⟨gb113,2,none⟩=some (.int .i64 a0_2)∧w'.cell? ⟨gb113,3,none⟩=some (.int .i64 a0_3)∧w'.cell? ⟨g9,s9+((ji13)).toNat,none⟩=some (.int .u64 (zy s9 l1 (ji13)))) (ds:=[20]) #[false,false,false,false,false,false,false,false,false,false,false,false,false,false,false,false,false,false,false,false,false] (by kernel_rfl) rfl rfl ⟨(ak BK113.out 0).trans rfl,(ak BK113.out 1).trans rfl,(ak BK113.out 2).trans rfl,(ak BK113.out 3).trans rfl,hx118_0⟩ (fun hHeld=>?_);refine ey au.z7 au.wP (fun HT_ HW_=>?_)
          generalize wr.drew=w20 at HO_1 HO_6 BK113 HK HB hx118_0 hHeld ⊢
          refine dt 0 20 HT_ rfl rfl ?_
          refine dt 1 21 HT_ rfl rfl ?_
          refine dt 2 22 HT_ rfl rfl ?_
          refine dt 5 25 HT_ rfl rfl ?_
          refine dt 6 26 HT_ rfl rfl ?_
          refine dt 7 27 HT_ rfl rfl ?_
          refine dt 9 29 HT_ rfl rfl ?_
          refine dt 10 30 HT_ rfl rfl ?_
          refine dt 11 31 HT_ rfl rfl ?_
          refine dt 14 34 HT_ rfl rfl ?_
          refine jC 3 23 (cm HT_.out HW_.out (by kernel_rfl)) hHeld (by rintro w' ⟨s0,s1,s2,s3,s4⟩;go_simp;with_reducible rfl) rfl rfl ?_
          refine jC 4 24 (cm HT_.out HW_.out (by kernel_rfl)) hHeld (by rintro w' ⟨s0,s1,s2,s3,s4⟩;go_simp;with_reducible rfl) rfl rfl ?_
          refine jC 12 32 (cm HT_.out HW_.out (by kernel_rfl)) hHeld (by rintro w' ⟨s0,s1,s2,s3,s4⟩;go_simp;with_reducible rfl) rfl rfl ?_
          refine dt 13 33 HT_ rfl rfl ?_
          refine dt 15 35 HT_ rfl rfl ?_
          refine dt 16 36 HT_ rfl rfl ?_
          refine jC 17 37 (cm HT_.out HW_.out (by kernel_rfl)) hHeld (by rintro w' ⟨s0,s1,s2,s3,s4⟩;go_simp;with_reducible rfl) rfl rfl ?_
          refine jG (i:=8) (N:=some 28) #[true,true,true,true,true,true,true,true,true,true,true,true,true,true,true,true,true,true,false,false,false] rfl rfl (fe HT_.out (by kernel_rfl)) (by decide) (fun K hK=>?_)
          refine gN Tryz.func133 (by kernel_rfl) rfl #[.agg #[bh (.slice A0_0 l0_0.length c0_0), .slice A0_1 l0_1.length c0_1, .int .i64 a0_2, .int .i64 a0_3], .int .i64 (wrap64 (x17_1*a2))] (by rfl) rfl rfl (by(try simp only[List.map_toArray,List.map_cons,List.map_nil]);first|done|(rw[hT_HR0_0]<;>rfl)|(rw[hT_HR0_0]<;>rfl)|rfl|(simp only[List.length_drop,List.length_take];rfl)) ?_
          (try rw[←hT_HR0_0])
          with_reducible refine(dz.calls _ _ l0_0 _ _ l0_1 a0_2 a0_3 (wrap64 (x17_1*a2)) t117 _ ?side1 ?side2 ?side3 ?side4 A12.out).mono ?_
          (case side1=>exact Kd.fG HR0_0.out iG)
          (case side2=>exact HC0_0.out)
          (case side3=>exact Kd.fG HR0_1.out iG)
          (case side4=>exact HC0_1.out)
          rintro e w22 ⟨rfl,hb⟩
          have HS4_:=(hb.cell (World.block_lt_of_cell? _ _ (hHeld.2.2.2.2))).trans (hHeld.2.2.2.2)
          refine⟨_,rfl,?_⟩
          have n0_:=aa.mk (Kd.de (bw HO_1.out) hb)
          have n1_:=aa.mk (Kd.de (bw HO_6.out) hb)
          have n2_:=aa.mk (aH BK113.out hb)
          have n3_:=aa.mk (Kept.below (S:=(fun k_=>P1_ k_)) iG hb)
          have n4_:=aa.mk (ai aj hb)
          clear HO_1
          clear HO_6
          clear BK113
          clear HK
          clear HB
          have HO_1:=n0_
          have HO_6:=n1_
          have BK113:=n2_
          have HK:=n3_
          have HB:=n4_
          clear n0_ n1_ n2_ n3_ n4_
          (try clear hb)
          (try clear hb2)
          (try clear hk)
          (try clear hi)
          refine hK.out _ _ ⟨(ak BK113.out 0).trans rfl,(ak BK113.out 1).trans rfl,(ak BK113.out 2).trans rfl,(ak BK113.out 3).trans rfl,HS4_⟩ (fun hHeld=>?_)
          clear hK K
          refine qU ?_
          refine jG (i:=18) (N:=some 38) #[true,true,true,true,true,true,true,true,true,true,true,true,true,true,true,true,true,true,true,false,false] rfl rfl (fe HT_.out (by kernel_rfl)) (by decide) (fun K hK=>?_)
          refine gN Tryz.func62 (by kernel_rfl) rfl #[bh (.slice A0_0 l0_0.length c0_0), .int .u64 t117, .int .u64 (zy s9 l1 (ji13))] (by rfl) rfl rfl (by(try simp only[List.map_toArray,List.map_cons,List.map_nil]);first|done|(rw[hT_HR0_0]<;>rfl)|(rw[hT_HR0_0]<;>rfl)|(simp only[hji13];rfl)|rfl|(simp only[List.length_drop,List.length_take];rfl)) ?_
          (try rw[←hT_HR0_0])
          with_reducible refine(bd.calls _ _ l0_0 t117 (zy s9 l1 (ji13)) t119 _ ?side1 ?side2 A16.out).mono ?_
          (case side1=>exact Kd.fG HR0_0.out iG)
          (case side2=>exact HC0_0.out)
          rintro e w' ⟨rfl,⟨nd,rfl⟩⟩
          refine⟨_,rfl,?_⟩
          have p19:0≤(x17_1:Int):=of_decide_eq_true (by assumption)
          have q19:(x17_1:Int)<((x6_1.length:Int):Int):=of_decide_eq_true (by assumption)
          obtain⟨go19,co19,eo19,gb19,gl19,cl19,HG19⟩:=Kd.gu HO_6.out (by omega)
          (first|cases eo19|(injection eo19 with ea_ en_ ec_;(first|subst ea_|(injection ea_ with ea_;subst ea_));subst ec_;clear en_))
          have GB19:=aa.mk gb19
          have GG19:=aa.mk HG19
          clear gb19 gl19 HG19
          have HMgo19:=aa.mk (show(P1_ go19∨w.heap.size≤go19) from(HO_6.out.1 _ rfl).1)
          obtain⟨hx19_0,hf19_0⟩:=Kd.eR 0 HO_6.out (x17_1:Int) p19 q19
          replace p19:=eq_true p19
          replace q19:=eq_true q19
          have HP23:=Kd.pv HO_6.out (x17_1:Int) t119
          rw[←Ny120.out] at HP23
          have HQ23:=aa.mk HP23
          clear HP23
          refine hK.out _ _ ⟨(ak BK113.out 0).trans rfl,(ak BK113.out 1).trans rfl,(ak BK113.out 2).trans rfl,(ak BK113.out 3).trans rfl,hHeld.2.2.2.2⟩ (fun hHeld=>?_)
          clear hK K
          refine qU ?_
          refine dt 19 39 HT_ rfl rfl ?_
          refine qa (i:=20) (N:=none) #[true,true,true,true,true,true,true,true,true,true,true,true,true,true,true,true,true,true,true,true,true] rfl rfl (fe HT_.out (by kernel_rfl)) (by decide) (fun K hK=>?_)
          refine pY (w1:=?_) (by rfl) rfl ?_ ?_
          rotate_left
          ·go_simp
           rfl
          refine hK.out _ _ ?_
          clear hK K
          refine ic (fH HT_.out (by kernel_rfl)) ?_
          try go_wp2
          (try simp only[←hl6_1])
          go_roundg k1
          case measure=>have:=HK1.out;omega
          case rel=>exact⟨(y120),(wrap64 (x17_1+1)),ba,H',⟨by have:=HK1.out;omega⟩,⟨by(try simp only[hl6_1]);(with_reducible repeat(first|apply Kd.bE|apply Kd.bL|apply Kd.bO));exact Kd.bz (Kd.nE (p:=⟨go19,(x17_1:Int).toNat,none⟩) (Kd.bz HO_1.out (fun k_ hk=>(⟨hk,fun e_=>hk.2 (by rw[e_];rfl)⟩:_∧k_≠go19))) (fun _ hk=>hk.2) (.int .u64 t119)) (fun _ hk=>⟨hk.1.1,hk.1.2⟩)⟩,⟨by(try simp only[hl6_1]);(with_reducible repeat(first|apply Kd.bE|apply Kd.bL|apply Kd.bO));exact HQ23.out⟩,⟨by(try simp only[hl6_1]);(with_reducible repeat(first|refine cK ?_ _|refine bR ?_|refine cL ?_ _));refine dL ?_ (by have h_:=Kd.o8 HO_6.out BK113.out (by decide);intro e_;exact h_ (by rw[e_];rfl)) _;(with_reducible repeat(first|refine cK ?_ _|refine bR ?_|refine cL ?_ _));exact BK113.out⟩,⟨by repeat(first|(with_reducible first|exact HK.out|apply Kept.alloc|apply Kept.drewN|apply Kept.drew|refine Kept.setCell ?_ HMgo19.out _|refine Kept.setCell ?_ (.inr GW113.out) _)|exact HK.out)⟩,⟨by repeat(first|(with_reducible first|exact HB.out|apply aW|apply ay|apply bx|refine cq ?_ GB19.out|refine cq ?_ GE113.out)|exact HB.out)⟩⟩
         ·rw[if_neg jy] at H
          exact absurd H (by simp)
        ·rw[if_neg gQ] at H
         exact absurd H (by simp)
       ·rw[if_neg im] at H
        exact absurd H (by simp)
      ·rw[if_neg fu] at H
       exact absurd H (by simp)
     ·rw[if_neg eI] at H
      have c11b0:=decide_eq_false eI
      (try(have c11b0hl6_1:=c11b0;simp only[hl6_1] at c11b0hl6_1))
      clear eI
      have H':=aa.mk H
      clear H
      go_wp2
      go_loopg [43] k1 (fun kq v43 w'=> ∃(x1_2:List Int) (x43_2:Int),v43= .int .i64 x43_2∧aa (au.l1 s9 n9 kq x1_2 a2 x6_1 (x6_1.length:Int) x43_2 l0_0 l0_1 a0_2 a0_3=some r)∧aa (kq≤k1)∧aa (Kd.R (Kd.int .u64) 22 w' w0.heap.size (fun k_=>(P1_ k_∨w.heap.size≤k_)∧some k_≠((.slice Ao10 x6_1.length co10):Value).ownBlock) (.slice (some ⟨g9,0,none⟩) l1.length co9) x1_2)∧aa (Kd.R (Kd.int .u64) 22 w' w0.heap.size (fun k_=>(P1_ k_∨w.heap.size≤k_)∧some k_≠((.slice (some ⟨g9,0,none⟩) l1.length co9):Value).ownBlock) (.slice Ao10 x6_1.length co10) x6_1)∧aa (w'.heap[gb113]?=some (.cells #[(bh (.slice A0_0 l0_0.length c0_0)),(.slice A0_1 l0_1.length c0_1), .int .i64 a0_2, .int .i64 a0_3] 104 (0,0)))∧aa (Kept w w' (fun k_=>P1_ k_))∧aa (Below w0.heap.size w0 w'))
      case atStart=>exact⟨(l1),(0),ba,H',⟨Nat.le_refl _⟩,⟨by(try simp only[hl6_1]);(with_reducible repeat(first|apply Kd.bE|apply Kd.bL|apply Kd.bO));exact HO_1.out⟩,⟨by(try simp only[hl6_1]);(with_reducible repeat(first|apply Kd.bE|apply Kd.bL|apply Kd.bO));exact HO_6.out⟩,⟨by(try simp only[hl6_1]);(with_reducible repeat(first|refine cK ?_ _|refine bR ?_|refine cL ?_ _));exact BK113.out⟩,⟨iG⟩,⟨aj⟩⟩
      case round=>
       clear H'
       try clear hx1
       try clear hx11
       try clear hx19
       try clear hf19
       try clear hx118_0
       try clear hx19_0
       obtain⟨x1_2,x43_2,rfl,HA,HK2,HO_1,HO_6,BK113,HK,HB⟩:=hrel
       cases gk with
       |zero=>exact absurd HA.out (by simp[au.l1])
       |succ k2=>
        have H:=HA.out
        clear HA
        simp only[au.l1] at H
        by_cases mL:x43_2<(x6_1.length:Int)
        ·rw[if_pos mL] at H
         have c24b0:=decide_eq_true mL
         (try(have c24b0hl6_1:=c24b0;simp only[hl6_1] at c24b0hl6_1))
         clear mL
         have H':=aa.mk H
         clear H
         go_wp2
         go_loopg [9,48] k2 (fun kq v9 v48 w'=> ∃(x9_3:Int) (x48_3:Int),v9= .int .u64 x9_3∧v48= .int .i64 x48_3∧aa (au.l2 s9 n9 kq x1_2 a2 x6_1 x43_2 x9_3 (x6_1.length:Int) x43_2 x6_1 (x6_1.length:Int) x48_3 l0_0 l0_1 a0_2 a0_3=some r)∧aa (kq≤k2)∧aa (Kd.R (Kd.int .u64) 22 w' w0.heap.size (fun k_=>(P1_ k_∨w.heap.size≤k_)∧some k_≠((.slice Ao10 x6_1.length co10):Value).ownBlock∧some k_≠((.slice Ao10 x6_1.length co10):Value).ownBlock) (.slice (some ⟨g9,0,none⟩) l1.length co9) x1_2)∧aa (Kd.R (Kd.int .u64) 22 w' w0.heap.size (fun k_=>(P1_ k_∨w.heap.size≤k_)∧some k_≠((.slice (some ⟨g9,0,none⟩) l1.length co9):Value).ownBlock) (.slice Ao10 x6_1.length co10) x6_1)∧aa (Kd.R (Kd.int .u64) 22 w' w0.heap.size (fun k_=>(P1_ k_∨w.heap.size≤k_)∧some k_≠((.slice (some ⟨g9,0,none⟩) l1.length co9):Value).ownBlock) (.slice Ao10 x6_1.length co10) x6_1)∧aa (w'.heap[gb113]?=some (.cells #[(bh (.slice A0_0 l0_0.length c0_0)),(.slice A0_1 l0_1.length c0_1), .int .i64 a0_2, .int .i64 a0_3] 104 (0,0)))∧aa (Kept w w' (fun k_=>P1_ k_))∧aa (Below w0.heap.size w0 w'))
         case atStart=>exact⟨(0),(0),ba,ba,H',⟨Nat.le_refl _⟩,⟨by(try simp only[hl6_1]);(with_reducible repeat(first|apply Kd.bE|apply Kd.bL|apply Kd.bO));exact Kd.bz HO_1.out (fun _ hk=>⟨hk.1,⟨hk.2,hk.2⟩⟩)⟩,⟨by(try simp only[hl6_1]);(with_reducible repeat(first|apply Kd.bE|apply Kd.bL|apply Kd.bO));exact HO_6.out⟩,⟨by(try simp only[hl6_1]);(with_reducible repeat(first|apply Kd.bE|apply Kd.bL|apply Kd.bO));exact HO_6.out⟩,⟨by(try simp only[hl6_1]);(with_reducible repeat(first|refine cK ?_ _|refine bR ?_|refine cL ?_ _));exact BK113.out⟩,⟨iG⟩,⟨aj⟩⟩
         case round=>
          clear H'
          try clear hx1
          try clear hx11
          try clear hx19
          try clear hf19
          try clear hx118_0
          try clear hx19_0
          obtain⟨x9_3,x48_3,rfl,rfl,HA,HK3,HO_1,HO_6,HO_46,BK113,HK,HB⟩:=hrel
          cases gk with
          |zero=>exact absurd HA.out (by simp[au.l2])
          |succ k3=>
           have H:=HA.out
           clear HA
           simp only[au.l2] at H
           by_cases mZ:x48_3<(x6_1.length:Int)
           ·rw[if_pos mZ] at H
            have c25b0:=decide_eq_true mZ
            (try(have c25b0hl6_1:=c25b0;simp only[hl6_1] at c25b0hl6_1))
            clear mZ
            by_cases oD:0≤x48_3
            ·rw[if_pos oD] at H
             have c26b0:=decide_eq_true oD
             clear oD
             by_cases kt:x48_3<(x6_1.length:Int)
             ·rw[if_pos kt] at H
              have c27b0:=decide_eq_true kt
              (try(have c27b0hl6_1:=c27b0;simp only[hl6_1] at c27b0hl6_1))
              clear kt
              replace H:=Option.bind_eq_some_iff.mp H
              obtain⟨t123,A280,H⟩:=H
              (try dsimp only at H)
              have A28:=aa.mk A280
              clear A280
              replace H:=Option.bind_eq_some_iff.mp H
              obtain⟨t124,A290,H⟩:=H
              (try dsimp only at H)
              have A29:=aa.mk A290
              clear A290
              replace H:=Option.bind_eq_some_iff.mp H
              obtain⟨t125,A300,H⟩:=H
              (try dsimp only at H)
              have A30:=aa.mk A300
              clear A300
              have H':=aa.mk H
              clear H
              have p122:0≤(x48_3:Int):=of_decide_eq_true (by assumption)
              have q122:x48_3<(x6_1.length:Int):=of_decide_eq_true (by assumption)
              obtain⟨ad122,e122,hx122_0⟩:=Kd.cS (Kd.aA HO_46.out).2.2 x48_3 p122 q122
              cases e122
              replace p122:=eq_true p122
              replace q122:=eq_true q122
              try go_wp2
              have n0_:=aa.mk (Kd.bO HO_1.out)
              have n1_:=aa.mk (Kd.bO HO_6.out)
              have n2_:=aa.mk (Kd.bO HO_46.out)
              have n3_:=aa.mk (bR BK113.out)
              have n4_:=aa.mk (Kept.drew HK.out)
              have n5_:=aa.mk (bx HB.out)
              clear HO_1
              clear HO_6
              clear HO_46
              clear BK113
              clear HK
              clear HB
              have HO_1:=n0_
              have HO_6:=n1_
              have HO_46:=n2_
              have BK113:=n3_
              have HK:=n4_
              have HB:=n5_
              clear n0_ n1_ n2_ n3_ n4_ n5_
              refine fN (n:=17) (S:=fun w'=>w'.cell? ⟨gb113,0,none⟩=some (bh (.slice A0_0 l0_0.length c0_0))∧w'.cell? ⟨gb113,1,none⟩=some (.slice A0_1 l0_1.length c0_1)∧w'.cell? ⟨gb113,2,none⟩=some (.int .i64 a0_2)∧w'.cell? ⟨gb113,3,none⟩=some (.int .i64 a0_3)) (ds:=[]) #[false,false,false,false,false,false,false,false,false,false,false,false,false,false,false,false,false] (by kernel_rfl) rfl rfl ⟨(ak BK113.out 0).trans rfl,(ak BK113.out 1).trans rfl,(ak BK113.out 2).trans rfl,(ak BK113.out 3).trans rfl⟩ (fun hHeld=>?_);refine ey au.Ar au.zP (fun HT_ HW_=>?_)
              generalize wr.drew=w31 at HO_1 HO_6 HO_46 BK113 HK HB hHeld ⊢
              refine dt 0 53 HT_ rfl rfl ?_
              refine dt 2 55 HT_ rfl rfl ?_
              refine dt 3 56 HT_ rfl rfl ?_
              refine dt 6 59 HT_ rfl rfl ?_
              refine dt 7 60 HT_ rfl rfl ?_
              refine dt 8 61 HT_ rfl rfl ?_
              refine dt 9 62 HT_ rfl rfl ?_
              refine dt 13 66 HT_ rfl rfl ?_
              refine jC 1 54 (cm HT_.out HW_.out (by kernel_rfl)) hHeld (by rintro w' ⟨s0,s1,s2,s3⟩;go_simp;with_reducible rfl) rfl rfl ?_
              refine jC 4 57 (cm HT_.out HW_.out (by kernel_rfl)) hHeld (by rintro w' ⟨s0,s1,s2,s3⟩;go_simp;with_reducible rfl) rfl rfl ?_
              refine jC 5 58 (cm HT_.out HW_.out (by kernel_rfl)) hHeld (by rintro w' ⟨s0,s1,s2,s3⟩;go_simp;with_reducible rfl) rfl rfl ?_
              refine jC 10 63 (cm HT_.out HW_.out (by kernel_rfl)) hHeld (by rintro w' ⟨s0,s1,s2,s3⟩;go_simp;with_reducible rfl) rfl rfl ?_
              refine dt 11 64 HT_ rfl rfl ?_
              refine jG (i:=12) (N:=some 65) #[true,true,true,true,true,true,true,true,true,true,true,true,true,true,false,false,false] rfl rfl (fe HT_.out (by kernel_rfl)) (by decide) (fun K hK=>?_)
              refine gN Tryz.func133 (by kernel_rfl) rfl #[.agg #[bh (.slice A0_0 l0_0.length c0_0), .slice A0_1 l0_1.length c0_1, .int .i64 a0_2, .int .i64 a0_3], .int .i64 (wrap64 ((wrap64 (x48_3*x43_2))*a0_3))] (by rfl) rfl rfl (by(try simp only[List.map_toArray,List.map_cons,List.map_nil]);first|done|(rw[hT_HR0_0]<;>rfl)|(rw[hT_HR0_0]<;>rfl)|rfl|(simp only[List.length_drop,List.length_take];rfl)) ?_
              (try rw[←hT_HR0_0])
              with_reducible refine(dz.calls _ _ l0_0 _ _ l0_1 a0_2 a0_3 (wrap64 ((wrap64 (x48_3*x43_2))*a0_3)) t123 _ ?side1 ?side2 ?side3 ?side4 A28.out).mono ?_
              (case side1=>exact Kd.fG HR0_0.out iG)
              (case side2=>exact HC0_0.out)
              (case side3=>exact Kd.fG HR0_1.out iG)
              (case side4=>exact HC0_1.out)
              rintro e w32 ⟨rfl,hb⟩
              refine⟨_,rfl,?_⟩
              have n0_:=aa.mk (Kd.de (bw HO_1.out) hb)
              have n1_:=aa.mk (Kd.de (bw HO_6.out) hb)
              have n2_:=aa.mk (Kd.de (bw HO_46.out) hb)
              have n3_:=aa.mk (aH BK113.out hb)
              have n4_:=aa.mk (Kept.below (S:=(fun k_=>P1_ k_)) iG hb)
              have n5_:=aa.mk (ai aj hb)
              clear HO_1
              clear HO_6
              clear HO_46
              clear BK113
              clear HK
              clear HB
              have HO_1:=n0_
              have HO_6:=n1_
              have HO_46:=n2_
              have BK113:=n3_
              have HK:=n4_
              have HB:=n5_
              clear n0_ n1_ n2_ n3_ n4_ n5_
              (try clear hb)
              (try clear hb2)
              (try clear hk)
              (try clear hi)
              refine hK.out _ _ ⟨(ak BK113.out 0).trans rfl,(ak BK113.out 1).trans rfl,(ak BK113.out 2).trans rfl,(ak BK113.out 3).trans rfl⟩ (fun hHeld=>?_)
              clear hK K
              refine qU ?_
              refine jG (i:=14) (N:=some 67) #[true,true,true,true,true,true,true,true,true,true,true,true,true,true,true,false,false] rfl rfl (fe HT_.out (by kernel_rfl)) (by decide) (fun K hK=>?_)
              refine gN Tryz.func62 (by kernel_rfl) rfl #[bh (.slice A0_0 l0_0.length c0_0), .int .u64 t123, .int .u64 (rd x6_1 x48_3)] (by rfl) rfl rfl (by(try simp only[List.map_toArray,List.map_cons,List.map_nil]);first|done|(rw[hT_HR0_0]<;>rfl)|(rw[hT_HR0_0]<;>rfl)|rfl|(simp only[List.length_drop,List.length_take];rfl)) ?_
              (try rw[←hT_HR0_0])
              with_reducible refine(bd.calls _ _ l0_0 t123 (rd x6_1 x48_3) t124 _ ?side1 ?side2 A29.out).mono ?_
              (case side1=>exact Kd.fG HR0_0.out iG)
              (case side2=>exact HC0_0.out)
              rintro e w' ⟨rfl,⟨nd,rfl⟩⟩
              refine⟨_,rfl,?_⟩
              refine hK.out _ _ ⟨(ak BK113.out 0).trans rfl,(ak BK113.out 1).trans rfl,(ak BK113.out 2).trans rfl,(ak BK113.out 3).trans rfl⟩ (fun hHeld=>?_)
              clear hK K
              refine qU ?_
              refine jG (i:=15) (N:=some 68) #[true,true,true,true,true,true,true,true,true,true,true,true,true,true,true,true,false] rfl rfl (fe HT_.out (by kernel_rfl)) (by decide) (fun K hK=>?_)
              refine gN Tryz.func96 (by kernel_rfl) rfl #[bh (.slice A0_0 l0_0.length c0_0), .int .u64 x9_3, .int .u64 t124] (by rfl) rfl rfl (by(try simp only[List.map_toArray,List.map_cons,List.map_nil]);first|done|(rw[hT_HR0_0]<;>rfl)|(rw[hT_HR0_0]<;>rfl)|rfl|(simp only[List.length_drop,List.length_take];rfl)) ?_
              (try rw[←hT_HR0_0])
              with_reducible refine(cW.calls _ _ l0_0 x9_3 t124 t125 _ ?side1 ?side2 A30.out).mono ?_
              (case side1=>exact Kd.fG HR0_0.out iG)
              (case side2=>exact HC0_0.out)
              rintro e w' ⟨rfl,⟨nd,rfl⟩⟩
              refine⟨_,rfl,?_⟩
              refine hK.out _ _ ⟨(ak BK113.out 0).trans rfl,(ak BK113.out 1).trans rfl,(ak BK113.out 2).trans rfl,(ak BK113.out 3).trans rfl⟩ (fun hHeld=>?_)
              clear hK K
              refine qU ?_
              refine dt 16 9 HT_ rfl rfl ?_
              refine ic (fH HT_.out (by kernel_rfl)) ?_
              try go_wp2
              go_roundg k3
              case measure=>have:=HK1.out;have:=HK2.out;have:=HK3.out;omega
              case rel=>exact⟨(t125),(wrap64 (x48_3+1)),ba,ba,H',⟨by have:=HK1.out;have:=HK2.out;have:=HK3.out;omega⟩,⟨by(try simp only[hl6_1]);(with_reducible repeat(first|apply Kd.bE|apply Kd.bL|apply Kd.bO));exact HO_1.out⟩,⟨by(try simp only[hl6_1]);(with_reducible repeat(first|apply Kd.bE|apply Kd.bL|apply Kd.bO));exact HO_6.out⟩,⟨by(try simp only[hl6_1]);(with_reducible repeat(first|apply Kd.bE|apply Kd.bL|apply Kd.bO));exact HO_46.out⟩,⟨by(try simp only[hl6_1]);(with_reducible repeat(first|refine cK ?_ _|refine bR ?_|refine cL ?_ _));exact BK113.out⟩,⟨iG⟩,⟨aj⟩⟩
             ·rw[if_neg kt] at H
              exact absurd H (by simp)
            ·rw[if_neg oD] at H
             exact absurd H (by simp)
           ·rw[if_neg mZ] at H
            have c25b0:=decide_eq_false mZ
            (try(have c25b0hl6_1:=c25b0;simp only[hl6_1] at c25b0hl6_1))
            clear mZ
            obtain⟨ji33,hji33⟩: ∃j_:Int,(wrap64 ((wrap64 (x43_2*a0_3))+a2))=j_:=⟨_,rfl⟩
            (first|rw[hji33] at H|simp only[hji33] at H)
            have hji33v:(IntKind.i64.wrap ((IntKind.i64.wrap (x43_2*a0_3))+a2))=ji33:=by simp only[bs];exact hji33
            have hji33w:(IntKind.i64.wrap ((wrap64 (x43_2*a0_3))+a2))=ji33:=(bs _).trans hji33
            by_cases c34:0≤(ji33)
            ·rw[if_pos c34] at H
             have c34b0:=decide_eq_true c34
             clear c34
             by_cases c35:(ji33)<(n9:Int)
             ·rw[if_pos c35] at H
              have c35b0:=decide_eq_true c35
              (try(have c35b0hl6_1:=c35b0;simp only[hl6_1] at c35b0hl6_1))
              clear c35
              obtain⟨y121,hy121⟩: ∃y_:List Int,y_=(x1_2.set (s9+((ji33):Int).toNat) x9_3):=⟨_,rfl⟩
              replace H:(au.l1 s9 n9 k3 y121 a2 x6_1 (x6_1.length:Int) (wrap64 (x43_2+1)) l0_0 l0_1 a0_2 a0_3)=some r:=by first|(rw[hy121];with_reducible exact H)|(have H2_:=(Option.bind_some _ _).symm.trans H;rw[hy121];with_reducible exact H2_)|(have H2_:=(Option.bind_some _ _).symm.trans H;with_reducible exact H2_)|with_reducible exact H|(rw[hy121];exact H)|exact H
              have Ny121:=aa.mk hy121
              clear hy121
              have H':=aa.mk H
              clear H
              have hcz37_0:=bD BK113.out 0 rfl
              have hcz37_1:=bD BK113.out 1 rfl
              have hcz37_2:=bD BK113.out 2 rfl
              have hcz37_3:=bD BK113.out 3 rfl
              have hfz37_0:=ab BK113.out 0
              have hfz37_1:=ab BK113.out 1
              have hfz37_2:=ab BK113.out 2
              have hfz37_3:=ab BK113.out 3
              have p36:0≤((ji33):Int):=of_decide_eq_true (by assumption)
              have q36:((ji33):Int)<((n9:Int):Int):=of_decide_eq_true (by assumption)
              obtain⟨gb36,cl36,HG36⟩:=vn HO_1.out HS9.out p36 q36
              have GB36:=aa.mk gb36
              have GG36:=aa.mk HG36
              clear gb36 HG36
              have HMg9:=aa.mk (show(P1_ g9∨w.heap.size≤g9) from(HO_1.out.1 _ rfl).1)
              obtain⟨hx36_0,hf36_0⟩:=uI HO_1.out HS9.out ((ji33):Int) p36 q36
              have p36':0≤((ji33):Int):=p36
              replace p36:=eq_true p36
              replace q36:=eq_true q36
              have HP38:=yT HO_1.out (s:=s9) ((ji33):Int) x9_3 p36'
              go_wp2_with (first|((with_reducible refine e8 (t:=22) (p:=78) rfl ?_);refine eK (t:=22) (p:=78) (v:=?vo_w39) (w1:=(wr.setCell ⟨g9,s9+((ji33):Int).toNat,none⟩ (.int .u64 x9_3))) ?hg ?ho ?hn ?hr ?_;(case ho=>rfl);(case hg=>rfl);(case hn=>rfl);(case hr=>first|(go_simp;done)|(go_simp;rfl));intro w39 hw;have hg:wr.grownBy w39 (some g9):=(by rw[hw];exact HP38.2);have hp_:Kd.R (Kd.int .u64) 22 w39 w0.heap.size (fun k_=>(P1_ k_∨w.heap.size≤k_)∧some k_≠(.slice Ao10 x6_1.length co10:Value).ownBlock∧some k_≠(.slice Ao10 x6_1.length co10:Value).ownBlock) (.slice (some ⟨g9,0,none⟩) l1.length co9) y121:=(by rw[hw,Ny121.out];exact HP38.1);clear HP38;have n0_:=aa.mk (hp_);have n1_:=aa.mk (Kd.iO (v:=(.slice (some ⟨g9,0,none⟩) l1.length co9)) (v1:=(.slice (some ⟨g9,0,none⟩) l1.length co9)) (ok:=(fun k_=>(P1_ k_∨w.heap.size≤k_))) (bw HO_6.out) hg (.inl rfl));have n2_:=aa.mk (Kd.iO (v:=(.slice (some ⟨g9,0,none⟩) l1.length co9)) (v1:=(.slice (some ⟨g9,0,none⟩) l1.length co9)) (ok:=(fun k_=>(P1_ k_∨w.heap.size≤k_))) (bw HO_46.out) hg (.inl rfl));have n3_:=aa.mk (ga (g:=gb113) (o:= .cells #[bh (.slice A0_0 l0_0.length c0_0), .slice A0_1 l0_1.length c0_1, .int .i64 a0_2, .int .i64 a0_3] 104 (0,0)) (ch BK113.out) hg (Kd.o8 HO_1.out BK113.out (by decide)));have n4_:=aa.mk ((by rw[hw];exact cq (HB.out) GB36.out:Below w0.heap.size w0 w39));have n5_:=aa.mk (Kept.k6 (S:=(fun k_=>P1_ k_)) hg iG (fun k_ e_=>(HO_1.out.1 k_ e_).1));clear HO_1;clear HO_6;clear HO_46;clear BK113;clear HB;clear HK;have HO_1:=n0_;have HO_6:=n1_;have HO_46:=n2_;have BK113:=n3_;have HB:=n4_;have HK:=n5_;clear n0_ n1_ n2_ n3_ n4_ n5_;clear hg hw hp_))
              go_roundg k3
              case measure=>have:=HK1.out;have:=HK2.out;have:=HK3.out;omega
              case rel=>exact⟨(y121),(wrap64 (x43_2+1)),ba,H',⟨by have:=HK1.out;have:=HK2.out;have:=HK3.out;omega⟩,⟨by(try simp only[hl6_1]);(with_reducible repeat(first|apply Kd.bE|apply Kd.bL|apply Kd.bO));exact Kd.bz HO_1.out (fun _ hk=>⟨hk.1,hk.2.1⟩)⟩,⟨by(try simp only[hl6_1]);(with_reducible repeat(first|apply Kd.bE|apply Kd.bL|apply Kd.bO));exact HO_6.out⟩,⟨by(try simp only[hl6_1]);(with_reducible repeat(first|refine cK ?_ _|refine bR ?_|refine cL ?_ _));exact BK113.out⟩,⟨iG⟩,⟨aj⟩⟩
             ·rw[if_neg c35] at H
              exact absurd H (by simp)
            ·rw[if_neg c34] at H
             exact absurd H (by simp)
        ·rw[if_neg mL] at H
         have c24b0:=decide_eq_false mL
         (try(have c24b0hl6_1:=c24b0;simp only[hl6_1] at c24b0hl6_1))
         clear mL
         obtain rfl:=Option.some.inj H
         go_wp2
         first|go_end0|((try simp only[Exit.inBlock,Exit.then]);refine bodyPost_ret (results_none rfl _ _ _) rfl ?_)
         exact⟨ba,(by first|exact(by(with_reducible repeat(first|apply Kd.bE|apply Kd.bL|apply Kd.bO));exact Kd.bz HO_1.out (fun _ hk=>hk.1))|(simp only[hl6_1];exact(by(with_reducible repeat(first|apply Kd.bE|apply Kd.bL|apply Kd.bO));exact Kd.bz HO_1.out (fun _ hk=>hk.1)))),aj,iG⟩
  ·rw[if_neg c5] at H
   exact absurd H (by simp)
 ·rw[if_neg c4] at H
  exact absurd H (by simp)
end Go.Proofs.YtndkmnjbjlfeaaaGreat.XM
end
section
namespace Go.Proofs.YtndkmnjbjlfeaaaGreat.XM
open Go Go.RowKit Go.Proofs.YtndkmnjbjlfeaaaGreatW.PrintWords Go.Proofs.YtndkmnjbjlfeaaaGreatW.PrintLast Go.Proofs.YtndkmnjbjlfeaaaGreatW.PrintMore Go.Proofs.YtndkmnjbjlfeaaaGreat.Given Go.Proofs.YtndkmnjbjlfeaaaGreat.M Go.Proofs.YtndkmnjbjlfeaaaGreat.Mont Go.Proofs.YtndkmnjbjlfeaaaGreat.XS Go.Proofs.YtndkmnjbjlfeaaaGreat.XT Go.Proofs.YtndkmnjbjlfeaaaGreat.XR Go.Proofs.YtndkmnjbjlfeaaaGreat.F06
set_option linter.unusedVariables false
mutual
noncomputable def bo.l0:Nat→List ct→List Int→Int→Int→List Int→Int→Option (List Int)
 |0,_,_,_,_,_,_=>none
 |k+1,F,T,r,m,x1,x5=>if x5<(x1.length:Int) then bo.l1 k F T r m x1 x5 0 else some x1
noncomputable def bo.l1:Nat→List ct→List Int→Int→Int→List Int→Int→Int→Option (List Int)
 |0,_,_,_,_,_,_,_=>none
 |k+1,F,T,r,m,x1,x5,x21=>if x21<m then(if 0≤x5∧x5<wrap64 (x5+wrap64 (r*m))∧wrap64 (x5+wrap64 (r*m))≤(x1.length:Int) then(au.f x5.toNat ((wrap64 (x5+wrap64 (r*m))).toNat-x5.toNat) k F T r m x1 x21).bind fun y=>bo.l1 k F T r m y x5 (wrap64 (x21+1)) else none) else bo.l0 k F T r m x1 (wrap64 (x5+wrap64 (r*m)))
end
noncomputable def bo.f(k:Nat)(F:List ct)(T:List Int)(r m:Int)(l:List Int):Option (List Int):=bo.l0 k F T r m l 0
set_option maxHeartbeats 8000000 in
set_option maxRecDepth 100000 in
theorem bo.calls(k:Nat)(A0_0:Option Addr)(c0_0:Nat)(l0_0:List (ct))(A0_1:Option Addr)(c0_1:Nat)(l0_1:List Int)(a0_2:Int)(a0_3:Int)(P1_:Nat→Prop)(u9000_:Value)(l1:List Int)(r:List Int)(w0 w:World)(hB:Below w0.heap.size w0 w)(hr0_0: ∀W_,Kept w W_ (fun k_=>P1_ k_)→Kd.C fK W_ A0_0 l0_0.length l0_0)(hc0_0:l0_0.length≤c0_0)(hr0_1: ∀W_,Kept w W_ (fun k_=>P1_ k_)→Kd.C (Kd.int .u64) W_ A0_1 l0_1.length l0_1)(hc0_1:l0_1.length≤c0_1)(ho1:Kd.R (Kd.int .u64) 22 w w0.heap.size P1_ u9000_ l1)(h:bo.f k l0_0 l0_1 a0_2 a0_3 l1=some r):
  Calls Tryz.prog 68 #[.agg #[bh (.slice A0_0 l0_0.length c0_0), .slice A0_1 l0_1.length c0_1, .int .i64 a0_2, .int .i64 a0_3],u9000_] w fun e w'=>e= .returned (.tuple #[])∧Kd.R (Kd.int .u64) 22 w' w0.heap.size (fun k_=>(P1_ k_∨w.heap.size≤k_)) u9000_ r∧Below w0.heap.size w0 w'∧Kept w w' (fun k_=>P1_ k_):=by
 have hu104:=Tryz.underlying104
 have HR0_0:=aa.mk hr0_0
 have HC0_0:=aa.mk hc0_0
 have HR0_1:=aa.mk hr0_1
 have HC0_1:=aa.mk hc0_1
 clear hr0_0 hc0_0 hr0_1 hc0_1
 obtain⟨Ao,co,rfl⟩:=Kd.bF ho1
 have HO1:=aa.mk (show Kd.R (Kd.int .u64) 22 w w0.heap.size (fun k_=>(P1_ k_∨w.heap.size≤k_)) (.slice Ao l1.length co) l1 from Kd.bz ho1 (fun k_ hk=>(.inl hk)))
 have hcap:l1.length≤co:=(Kd.aA ho1).2.1
 have HCO:=aa.mk hcap
 have HP1:=aa.mk ho1.1
 have HLT:=aa.mk (fun k hk=>Kd.gI ho1 k hk)
 clear ho1 hcap
 have HK:=aa.mk (Kept.refl w (fun k_=>P1_ k_))
 have HW0:=aa.mk hB.size
 have HB:=aa.mk hB
 clear hB
 unfold bo.f at h
 have H':=aa.mk h
 clear h
 obtain⟨z9,hz9⟩: ∃z_:Int,wrap64 (a0_2*a0_3)=z_:=⟨_,rfl⟩
 have hz9v:IntKind.i64.wrap (a0_2*a0_3)=z9:=by simp only[bs];exact hz9
 go_enter Tryz.func68,Tryz.ntmps68
 go_wp2_with (first|((with_reducible refine a8 (N:=2) rfl ?_);refine jj ?hg (N:=2) ?hd (cs:= #[bh (.slice A0_0 l0_0.length c0_0), .slice A0_1 l0_1.length c0_1, .int .i64 a0_2, .int .i64 a0_3]) (t:=104) ?hr ?_;(case hd=>rfl);(case hg=>rfl);(case hr=>first|(go_simp;done)|(go_simp;rfl));intro gb113 hg w6 hbox hb;have n0_:=aa.mk (Kd.de HO1.out hb);have n1_:=aa.mk (Kept.below (S:=(fun k_=>P1_ k_)) HK.out hb);have n2_:=aa.mk (ai HB.out hb);have n3_:=aa.mk (hbox);have n4_:=aa.mk ((by rw[hg];exact Nat.le_refl _):w.heap.size≤gb113);have n5_:=aa.mk ((by rw[hg];exact ah HB.out:w0.heap.size≤gb113));clear HO1;clear HK;clear HB;have HO1:=n0_;have HK:=n1_;have HB:=n2_;have BK113:=n3_;have GW113:=n4_;have GE113:=n5_;clear n0_ n1_ n2_ n3_ n4_ n5_;clear hb hbox hg;have hcz7_0:w6.cell? ⟨gb113,0,none⟩=some (bh (.slice A0_0 l0_0.length c0_0)):=(ak BK113.out 0).trans rfl;have hcz7_1:w6.cell? ⟨gb113,1,none⟩=some (.slice A0_1 l0_1.length c0_1):=(ak BK113.out 1).trans rfl;have hcz7_2:w6.cell? ⟨gb113,2,none⟩=some (.int .i64 a0_2):=(ak BK113.out 2).trans rfl;have hcz7_3:w6.cell? ⟨gb113,3,none⟩=some (.int .i64 a0_3):=(ak BK113.out 3).trans rfl))
 go_loopg [5] k (fun kq v5 w'=> ∃(x1:List Int) (x5:Int),v5= .int .i64 x5∧aa (bo.l0 kq l0_0 l0_1 a0_2 a0_3 x1 x5=some r)∧aa (kq≤k)∧aa (Kd.R (Kd.int .u64) 22 w' w0.heap.size (fun k_=>(P1_ k_∨w.heap.size≤k_)) (.slice Ao l1.length co) x1)∧aa (w'.heap[gb113]?=some (.cells #[bh (.slice A0_0 l0_0.length c0_0),(.slice A0_1 l0_1.length c0_1), .int .i64 a0_2, .int .i64 a0_3] 104 (0,0)))∧aa (Kept w w' (fun k_=>P1_ k_))∧aa (Below w0.heap.size w0 w'))
 case atStart=>exact⟨l1,0,rfl,H',⟨Nat.le_refl _⟩,HO1,BK113,HK,HB⟩
 case round=>
  clear H' HO1 BK113 HK HB hcz7_0 hcz7_1 hcz7_2 hcz7_3
  obtain⟨x1,x5,rfl,HA,HK1,HO,BK113,HK,HB⟩:=hrel
  have hl:=(Kd.aA HO.out).1
  have HL:=aa.mk hl
  cases gk with
  |zero=>exact absurd HA.out (by simp[bo.l0])
  |succ k1=>
   have H:=HA.out
   clear HA
   simp only[bo.l0] at H
   by_cases c1:x5<(x1.length:Int)
   ·rw[if_pos c1] at H
    have H':=aa.mk H
    clear H
    have c1b:decide (x5<(l1.length:Int))=true:=decide_eq_true (by omega)
    clear c1
    have hcz7_3:wr.cell? ⟨gb113,3,none⟩=some (.int .i64 a0_3):=(ak BK113.out 3).trans rfl
    have hfz7_3:=ab BK113.out 3
    clear hl
    go_wp2
    go_loopg [21] k1 (fun kq v21 w'=> ∃(x1:List Int) (x21:Int),v21= .int .i64 x21∧aa (bo.l1 kq l0_0 l0_1 a0_2 a0_3 x1 x5 x21=some r)∧aa (kq≤k1)∧aa (Kd.R (Kd.int .u64) 22 w' w0.heap.size (fun k_=>(P1_ k_∨w.heap.size≤k_)) (.slice Ao l1.length co) x1)∧aa (w'.heap[gb113]?=some (.cells #[bh (.slice A0_0 l0_0.length c0_0),(.slice A0_1 l0_1.length c0_1), .int .i64 a0_2, .int .i64 a0_3] 104 (0,0)))∧aa (Kept w w' (fun k_=>P1_ k_))∧aa (Below w0.heap.size w0 w'))
    case atStart=>exact⟨x1,0,rfl,H',⟨Nat.le_refl _⟩,HO,BK113,HK,HB⟩
    case round=>
     clear H' HO BK113 HK HB hcz7_3 hfz7_3 HL
     obtain⟨x1,x21,rfl,HA,HK2,HO,BK113,HK,HB⟩:=hrel
     have hl:=(Kd.aA HO.out).1
     cases gk with
     |zero=>exact absurd HA.out (by simp[bo.l1])
     |succ k2=>
      have H:=HA.out
      clear HA
      simp only[bo.l1] at H
      by_cases c2:x21<a0_3
      ·rw[if_pos c2] at H
       have c2b:decide (x21<a0_3)=true:=decide_eq_true c2
       clear c2
       by_cases c3:0≤x5∧x5<wrap64 (x5+wrap64 (a0_2*a0_3))∧wrap64 (x5+wrap64 (a0_2*a0_3))≤(x1.length:Int)
       ·rw[if_pos c3] at H
        rw[hz9] at H c3
        obtain⟨e9,he9⟩: ∃e_:Int,wrap64 (x5+z9)=e_:=⟨_,rfl⟩
        have he9v:IntKind.i64.wrap (x5+z9)=e9:=by simp only[bs];exact he9
        rw[he9] at H c3
        obtain⟨y,hy,H⟩:=Option.bind_eq_some_iff.mp H
        have HY:=aa.mk hy
        have H':=aa.mk H
        clear H hy
        obtain⟨d1,d2,d3⟩:=c3
        have hc:=HCO.out
        have p1:0≤x5:=d1
        have p2:x5≤e9:=by omega
        have p3:e9≤(co:Int):=by omega
        have p4:0≤e9:=by omega
        have p5: ¬e9.toNat=x5.toNat:=by omega
        obtain⟨g,cap,eo,gb,gl,HG⟩:=Kd.gu HO.out (by omega)
        injection eo with ea en ec
        have hs9:x5.toNat+(e9.toNat-x5.toNat)≤x1.length:=by omega
        have HS:=aa.mk hs9
        have HC:=aa.mk hl
        subst ea
        clear d1 d2 d3 hs9 hl gb gl HG hc en ec
        have HPg:=aa.mk (HP1.out g rfl)
        replace p1:=eq_true p1
        replace p2:=eq_true p2
        replace p3:=eq_true p3
        replace p4:=eq_true p4
        replace p5:=eq_false p5
        have hcz7_0:wr.cell? ⟨gb113,0,none⟩=some (bh (.slice A0_0 l0_0.length c0_0)):=(ak BK113.out 0).trans rfl
        have hcz7_1:wr.cell? ⟨gb113,1,none⟩=some (.slice A0_1 l0_1.length c0_1):=(ak BK113.out 1).trans rfl
        have hcz7_2:wr.cell? ⟨gb113,2,none⟩=some (.int .i64 a0_2):=(ak BK113.out 2).trans rfl
        have hcz7_3:wr.cell? ⟨gb113,3,none⟩=some (.int .i64 a0_3):=(ak BK113.out 3).trans rfl
        have hfz7_0:=ab BK113.out 0
        have hfz7_1:=ab BK113.out 1
        have hfz7_2:=ab BK113.out 2
        have hfz7_3:=ab BK113.out 3
        go_wp2
        have n0_:=aa.mk (Kd.bO HO.out)
        have n2_:=aa.mk (bR BK113.out)
        have n3_:=aa.mk (Kept.drew HK.out)
        have n4_:=aa.mk (bx HB.out)
        clear HO BK113 HK HB hcz7_0 hcz7_1 hcz7_2 hcz7_3 hfz7_0 hfz7_1 hfz7_2 hfz7_3
        have HO:=n0_
        have BK113:=n2_
        have HK:=n3_
        have HB:=n4_
        clear n0_ n2_ n3_ n4_
        refine fN (n:=12) (S:=fun w'=>w'.cell? ⟨gb113,0,none⟩=some (bh (.slice A0_0 l0_0.length c0_0))∧w'.cell? ⟨gb113,1,none⟩=some (.slice A0_1 l0_1.length c0_1)∧w'.cell? ⟨gb113,2,none⟩=some (.int .i64 a0_2)∧w'.cell? ⟨gb113,3,none⟩=some (.int .i64 a0_3)) (ds:=[11]) #[false,false,false,false,false,false,false,false,false,false,false,false] (by kernel_rfl) rfl rfl ⟨(ak BK113.out 0).trans rfl,(ak BK113.out 1).trans rfl,(ak BK113.out 2).trans rfl,(ak BK113.out 3).trans rfl⟩ (fun hHeld=>?_)
        generalize wr.drew=w20 at HO BK113 HK HB hHeld ⊢
        refine pz 1 25 (by kernel_rfl) rfl rfl ?_
        refine pz 2 26 (by kernel_rfl) rfl rfl ?_
        refine pz 3 27 (by kernel_rfl) rfl rfl ?_
        refine pz 4 28 (by kernel_rfl) rfl rfl ?_
        refine pz 5 29 (by kernel_rfl) rfl rfl ?_
        refine pz 6 30 (by kernel_rfl) rfl rfl ?_
        refine pz 7 31 (by kernel_rfl) rfl rfl ?_
        refine pz 8 32 (by kernel_rfl) rfl rfl ?_
        refine pz 9 33 (by kernel_rfl) rfl rfl ?_
        refine pz 10 34 (by kernel_rfl) rfl rfl ?_
        refine jC 0 24 (by kernel_rfl) hHeld (by rintro w' ⟨s0,s1,s2,s3⟩;go_simp;with_reducible rfl) rfl rfl ?_
        refine qa (i:=11) (N:=some 35) #[true,true,true,true,true,true,true,true,true,true,true,true] rfl rfl (by kernel_rfl) (by decide) (fun K hK=>?_)
        refine gN Tryz.func106 (by kernel_rfl) rfl #[.agg #[bh (.slice A0_0 l0_0.length c0_0), .slice A0_1 l0_1.length c0_1, .int .i64 a0_2, .int .i64 a0_3], .slice (some ⟨g,x5.toNat,none⟩) (e9.toNat-x5.toNat) (e9.toNat-x5.toNat), .int .i64 x21] (by rfl) rfl rfl (by(try simp only[List.map_toArray,List.map_cons,List.map_nil]);first|done|rfl) ?_
        have ho':Kd.R (Kd.int .u64) 22 w20 w0.heap.size (fun k_=>k_=g) (.slice (some ⟨g,0,none⟩) x1.length co) x1:=by
         rw[←HC.out]
         exact Kd.xh (fun h=>h) HO.out (fun k hk _=>(Option.some.inj hk).symm)
        have hkk: ∀W_,Kept w20 W_ (fun k_=>k_=g)→Kept w W_ (fun k_=>P1_ k_):=fun W_ hk=>HK.out.oq hk (fun k e=> .inl (by rw[e];exact HPg.out))
        refine(au.calls k2 A0_0 c0_0 l0_0 A0_1 c0_1 l0_1 a0_2 a0_3 (fun k_=>k_=g) g x5.toNat (e9.toNat-x5.toNat) (e9.toNat-x5.toNat) co x1 x21 y w0 w20 HB.out (fun W_ hk=>HR0_0.out W_ (hkk W_ hk)) HC0_0.out (fun W_ hk=>HR0_1.out W_ (hkk W_ hk)) HC0_1.out ho' HS.out HY.out).mono ?_
        rintro e w22 ⟨rfl,ho,hb,hk⟩
        refine⟨_,rfl,?_⟩
        have hgb:gb113≠g:=by have:=HLT.out g rfl;have:=GW113.out;omega
        have n0_:aa (Kd.R (Kd.int .u64) 22 w22 w0.heap.size (fun k_=>(P1_ k_∨w.heap.size≤k_)) (.slice (some ⟨g,0,none⟩) l1.length co) y):=⟨by
         rw[HC.out]
         exact Kd.xh (fun h=>h) ho (fun k hk' _=> .inl (by rw[←Option.some.inj hk'];exact HPg.out))⟩
        have n2_:aa (w22.heap[gb113]?=some (.cells #[bh (.slice A0_0 l0_0.length c0_0),(.slice A0_1 l0_1.length c0_1), .int .i64 a0_2, .int .i64 a0_3] 104 (0,0))):=⟨(hk.2 gb113 (dw BK113.out) hgb).trans BK113.out⟩
        have n3_:aa (Kept w w22 (fun k_=>P1_ k_)):=⟨hkk w22 hk⟩
        have n4_:aa (Below w0.heap.size w0 w22):=⟨hb⟩
        clear HO BK113 HK HB ho hb hk ho' hkk hHeld
        have HO:=n0_
        have BK113:=n2_
        have HK:=n3_
        have HB:=n4_
        clear n0_ n2_ n3_ n4_
        refine hK.out _ _ ?_
        clear hK K
        refine ic (by kernel_rfl) ?_
        try go_wp2
        go_roundg k2
        case measure=>have:=HK1.out;have:=HK2.out;omega
        case rel=>exact⟨y,(wrap64 (x21+1)),rfl,H',⟨by have:=HK2.out;omega⟩,HO,BK113,HK,HB⟩
       ·rw[if_neg c3] at H
        exact absurd H (by simp)
      ·rw[if_neg c2] at H
       have H':=aa.mk H
       have c2b:decide (x21<a0_3)=false:=decide_eq_false c2
       clear H c2 hl
       go_wp2
       go_roundg k2
       case measure=>have:=HK1.out;have:=HK2.out;omega
       case rel=>exact⟨x1,(wrap64 (x5+wrap64 (a0_2*a0_3))),(by rw[hz9]),H',⟨by have:=HK1.out;have:=HK2.out;omega⟩,HO,BK113,HK,HB⟩
   ·rw[if_neg c1] at H
    have c1b:decide (x5<(l1.length:Int))=false:=decide_eq_false (by omega)
    obtain rfl:=Option.some.inj H
    clear H c1 hl
    go_wp2
    first|go_end0|((try simp only[Exit.inBlock,Exit.then]);refine bodyPost_ret (results_none rfl _ _ _) rfl ?_)
    exact⟨rfl,HO.out,HB.out,HK.out⟩
end Go.Proofs.YtndkmnjbjlfeaaaGreat.XM
end
section
namespace Go.Proofs.YtndkmnjbjlfeaaaGreat.XM
open Go Go.RowKit Go.Proofs.YtndkmnjbjlfeaaaGreatW.PrintWords Go.Proofs.YtndkmnjbjlfeaaaGreatW.PrintLast Go.Proofs.YtndkmnjbjlfeaaaGreatW.PrintMore Go.Proofs.YtndkmnjbjlfeaaaGreat.Given Go.Proofs.YtndkmnjbjlfeaaaGreat.M Go.Proofs.YtndkmnjbjlfeaaaGreat.Mont Go.Proofs.YtndkmnjbjlfeaaaGreat.XS Go.Proofs.YtndkmnjbjlfeaaaGreat.XT Go.Proofs.YtndkmnjbjlfeaaaGreat.XR Go.Proofs.YtndkmnjbjlfeaaaGreat.F06
set_option linter.unusedVariables false
def Ai(i:Int):Int:=if i=0 then 2 else if i=1 then 3 else if i=2 then 5 else 7
theorem xF(i:Int):2≤Ai i:=by unfold Ai;split<;>(try split)<;>(try split)<;>omega
mutual
noncomputable def aU.l0:Nat→Int→List Int→Int→Option (List Int×Bool)
 |0,_,_,_=>none
 |k+1,x0,x4,x14=>if x14<4 then(if 0≤x14 then aU.l1 k x0 x4 x14 else none) else if x0>1 then some ([],false) else some (x4,true)
noncomputable def aU.l1:Nat→Int→List Int→Int→Option (List Int×Bool)
 |0,_,_,_=>none
 |k+1,x0,x4,x14=>if Int.tmod x0 (Ai x14)=0 then(if x4.length<17592186044416 then aU.l1 k (wrap64 (Int.tdiv x0 (Ai x14))) (x4++[Ai x14]) x14 else none) else aU.l0 k x0 x4 (wrap64 (x14+1))
end
noncomputable def aU.f(k:Nat)(n:Int):Option (List Int×Bool):=if n<1 then some ([],false) else if n>1024 then some ([],false) else aU.l0 k n [] 0
theorem aU.fx: ∀k,(∀y0 y1 y2,dh (aU.l0 k y0 y1 y2) (aU.l0 (k+1) y0 y1 y2))∧(∀y0 y1 y2,dh (aU.l1 k y0 y1 y2) (aU.l1 (k+1) y0 y1 y2))
 |0=>⟨fun _ _ _ r h=>by simp[aU.l0] at h,fun _ _ _ r h=>by simp[aU.l1] at h⟩
 |k+1=>by
  obtain⟨ih0,ih1⟩:=aU.fx k
  refine⟨?_,?_⟩
  ·intro y0 y1 y2
   unfold aU.l0
   exact dh.ite (dh.ite (ih1 _ _ _) (dh.refl _)) (dh.refl _)
  ·intro y0 y1 y2
   unfold aU.l1
   exact dh.ite (dh.ite (ih1 _ _ _) (dh.refl _)) (ih0 _ _ _)
theorem aU.mono: ∀a0 k,dh (aU.f k a0) (aU.f (k+1) a0):=by
 intro a0 k
 unfold aU.f
 exact dh.ite (dh.refl _) (dh.ite (dh.refl _) ((aU.fx k).1 _ _ _))
set_option maxHeartbeats 8000000 in
set_option maxRecDepth 100000 in
theorem aU.calls(k:Nat)(a0:Int)(r1:List Int)(r2:Bool)(w:World)(h:aU.f k a0=some (r1,r2)):
  Calls Tryz.prog 64 #[.int .i64 a0] w fun e w'=> ∃v0_:Value,e= .returned (.tuple #[v0_, .bool r2])∧Kd.R (Kd.int .i64) 3 w' w.heap.size (fun _=>True) v0_ r1∧Below w.heap.size w w':=by
 have HB:=aa.mk (Below.refl w.heap.size w)
 have HO:=aa.mk (Kd.gi (Kd.int .i64) 3 w w.heap.size (fun _=>True))
 unfold aU.f at h
 by_cases c1:a0<1
 ·rw[if_pos c1] at h
  have c1b:decide (a0<1)=true:=decide_eq_true c1
  simp only[Option.some.injEq,Prod.mk.injEq] at h
  obtain⟨rfl,rfl⟩:=h
  go_enter Tryz.func64,Tryz.ntmps64
  go_wp2
  go_ret2
  exact⟨_,rfl,HO.out,HB.out⟩
 rw[if_neg c1] at h
 have c1b:decide (a0<1)=false:=decide_eq_false c1
 by_cases c2:a0>1024
 ·rw[if_pos c2] at h
  have c2b:decide (1024<a0)=true:=decide_eq_true c2
  simp only[Option.some.injEq,Prod.mk.injEq] at h
  obtain⟨rfl,rfl⟩:=h
  go_enter Tryz.func64,Tryz.ntmps64
  go_wp2
  go_ret2
  exact⟨_,rfl,HO.out,HB.out⟩
 rw[if_neg c2] at h
 have c2b:decide (1024<a0)=false:=decide_eq_false c2
 have H':=aa.mk h
 clear h c1 c2
 go_enter Tryz.func64,Tryz.ntmps64
 go_wp2
 go_loopg [0,4,14] k (fun kq v0 v4 v14 w'=> ∃(x0:Int) (x4:List Int) (x14:Int),v0= .int .i64 x0∧v14= .int .i64 x14∧aa (aU.l0 kq x0 x4 x14=some (r1,r2))∧aa (kq≤k)∧aa (Kd.R (Kd.int .i64) 3 w' w.heap.size (fun _=>True) v4 x4)∧aa (Below w.heap.size w w'))
 case atStart=>exact⟨a0,[],0,rfl,rfl,H',⟨Nat.le_refl _⟩,HO,HB⟩
 case round=>
  clear H' HO HB c1b c2b
  obtain⟨x0,x4,x14,rfl,rfl,HA,HK1,HO,HB⟩:=hrel
  cases gk with
  |zero=>exact absurd HA.out (by simp[aU.l0])
  |succ k1=>
   have H:=HA.out
   clear HA
   simp only[aU.l0] at H
   by_cases c3:x14<4
   ·rw[if_pos c3] at H
    have c3b:decide (x14<4)=true:=decide_eq_true c3
    by_cases c4:0≤x14
    ·rw[if_pos c4] at H
     have H':=aa.mk H
     clear H
     have hR:x14=0∨x14=1∨x14=2∨x14=3:=by omega
     obtain⟨r9,hr9⟩: ∃r_:Int,Ai x14=r_:=⟨_,rfl⟩
     have p4:=eq_true c4
     have p3:=eq_true c3
     have hix: ∀W,Sem.run Tryz.prog (Instr.index 151 (Value.agg #[Value.int IntKind.i64 2,Value.int IntKind.i64 3,Value.int IntKind.i64 5,Value.int IntKind.i64 7]) (Value.int IntKind.i64 x14)) W= .ok (Value.int IntKind.i64 r9) W:=by
      intro W
      rw[←hr9]
      clear H' HK1 HO HB p3 p4 c3b
      rcases hR with rfl|rfl|rfl|rfl<;>(first|rfl|kernel_rfl|(go_simp;done)|(go_simp;rfl))
     have hr2:2≤r9:=by rw[←hr9];exact xF _
     have hr0: ¬r9=0:=by omega
     have hr0b:(r9==0)=false:=beq_eq_false_iff_ne.mpr hr0
     clear c3 c4 hR
     go_wp2
     clear hix
     go_loopg [0,4] k1 (fun kq v0 v4 w'=> ∃(x0:Int) (x4:List Int),v0= .int .i64 x0∧aa (aU.l1 kq x0 x4 x14=some (r1,r2))∧aa (kq≤k1)∧aa (Kd.R (Kd.int .i64) 3 w' w.heap.size (fun _=>True) v4 x4)∧aa (Below w.heap.size w w'))
     case atStart=>exact⟨x0,x4,rfl,H',⟨Nat.le_refl _⟩,HO,HB⟩
     case round=>
      clear H' HO HB c3b p4 p3
      obtain⟨x0,x4,rfl,HA,HK2,HO,HB⟩:=hrel
      cases gk with
      |zero=>exact absurd HA.out (by simp[aU.l1])
      |succ k2=>
       have H:=HA.out
       clear HA
       simp only[aU.l1] at H
       rw[hr9] at H
       by_cases c5:Int.tmod x0 r9=0
       ·rw[if_pos c5] at H
        have c5b:(Int.tmod x0 r9==0)=true:=beq_iff_eq.mpr c5
        by_cases c6:x4.length<17592186044416
        ·rw[if_pos c6] at H
         have HL:=aa.mk c6
         have H':=aa.mk H
         clear H c5 c6
         go_wp2_with (first|((with_reducible refine dm (b:= .append) (xs:= #[.tmp 21, .tmp 23]) rfl ?_);at_builtin;refine Kd.gP (Kd.int .i64) (w0:=w) w.heap.size rfl (.tmp 21) (.tmp 23) 98 3 (.int .i64 0) 8 rfl Tryz.underlying98 pF rfl (by decide) (by omega) u4 x4 r9 [.int .i64 r9] (fun _=>True) (fun _=>False) rfl rfl ?aP (fun _ hk=>hk.elim) ?aF ?aO ?aB ?aS ?aL ?_;(case aP=>exact rfl);(case aB=>exact HB.out);(case aF=>exact(fun _ _=>trivial));(case aO=>exact HO.out);(case aS=>exact ah HB.out);(case aL=>have:=HL.out;omega);intro v211 w13 ho hb hg hat;have n0_:=aa.mk (hb);have n1_:=aa.mk (ho);clear HB;clear HO;have HB:=n0_;have HO:=n1_;clear n0_ n1_;clear ho hb hg hat))
         go_roundg k2
         case measure=>have:=HK1.out;have:=HK2.out;omega
         case rel=>exact⟨(wrap64 (Int.tdiv x0 r9)),(x4++[r9]),(by first|rfl|(simp;done)|(simp[*];done)),H',⟨by have:=HK2.out;omega⟩,HO,HB⟩
        ·rw[if_neg c6] at H
         exact absurd H (by simp)
       ·rw[if_neg c5] at H
        have c5b:(Int.tmod x0 r9==0)=false:=beq_eq_false_iff_ne.mpr c5
        have H':=aa.mk H
        clear H c5
        go_wp2
        go_roundg k2
        case measure=>have:=HK1.out;have:=HK2.out;omega
        case rel=>exact⟨x0,x4,(wrap64 (x14+1)),rfl,(by first|rfl|(simp;done)|(simp[*];done)),H',⟨by have:=HK1.out;have:=HK2.out;omega⟩,HO,HB⟩
    ·rw[if_neg c4] at H
     exact absurd H (by simp)
   ·rw[if_neg c3] at H
    have c3b:decide (x14<4)=false:=decide_eq_false c3
    clear c3
    by_cases c5:x0>1
    ·rw[if_pos c5] at H
     have c5b:decide (1<x0)=true:=decide_eq_true c5
     simp only[Option.some.injEq,Prod.mk.injEq] at H
     obtain⟨rfl,rfl⟩:=H
     go_wp2
     go_ret2
     exact⟨_,rfl,Kd.gi _ _ _ _ _,HB.out⟩
    ·rw[if_neg c5] at H
     have c5b:decide (1<x0)=false:=decide_eq_false c5
     simp only[Option.some.injEq,Prod.mk.injEq] at H
     obtain⟨rfl,rfl⟩:=H
     go_wp2
     go_ret2
     exact⟨_,rfl,HO.out,HB.out⟩
end Go.Proofs.YtndkmnjbjlfeaaaGreat.XM
end
section

end
section
namespace Go.Proofs.YtndkmnjbjlfeaaaGreat.XM
open Go.RowKit Go.Proofs.YtndkmnjbjlfeaaaGreat.Given Go.Proofs.YtndkmnjbjlfeaaaGreat.Row05 Go.Proofs.YtndkmnjbjlfeaaaGreat.XS Go.Proofs.YtndkmnjbjlfeaaaGreat.XT Go.Proofs.YtndkmnjbjlfeaaaGreat.XR Go.Proofs.YtndkmnjbjlfeaaaGreat.F06 Go.Proofs.YtndkmnjbjlfeaaaGreat.XK Go.Proofs.YtndkmnjbjlfeaaaGreat.XW Go.Proofs.YtndkmnjbjlfeaaaGreat.XG Go.Proofs.YtndkmnjbjlfeaaaGreatW.PrintWords Go.Proofs.YtndkmnjbjlfeaaaGreatW.PrintLast Go.Proofs.YtndkmnjbjlfeaaaGreatW.PrintMore
attribute [local go_sem] bZ bW cC cB bG bH bX ca
set_option linter.unusedVariables false
set_option linter.unusedSimpArgs false
noncomputable def dH.l0:Nat→List (ct)→Bool→List Int→List Int→List Int→Int→Int→Option (List Int×Int)
 |0,_,_,_,_,_,_,_=>none
 |k+1,x0,x2,x9,x11,x13,x15,x16=>if x16≥0 then(if 0≤x16 then(if x16<(x9.length:Int) then((bo.f k x0 x11 (rd x9 x16) x15 x13).bind fun t154=>(dH.l0 k x0 x2 x9 x11 t154 (wrap64 (x15*(rd x9 x16))) (wrap64 (x16-1)))) else(none)) else(none)) else(if x2=true then((dr.f k x0 x13).bind fun t156=>(some (t156,0))) else(some (x13,0)))
noncomputable def dH.f(k:Nat)(l0:List (ct))(l1:List Int)(a2:Bool):Option (List Int×Int):=(dc.f l0 (l1.length:Int) 1024).bind fun t139=>(if t139=0 then((aU.f k (l1.length:Int)).bind fun bt140=>(if bt140.2=true then((cR.f k l0 l1).bind fun t144=>(if t144=true then((dS.f k l0 (l1.length:Int) a2).bind fun bt145=>((cP.f k l1 bt140.1).bind fun bt149=>(dH.l0 k l0 a2 bt140.1 bt145.1 bt149.1 1 (wrap64 ((bt140.1.length:Int)-1))))) else(some (([]:List Int),9)))) else(some (([]:List Int),11)))) else(some (([]:List Int),t139)))
set_option maxHeartbeats 8000000 in
set_option maxRecDepth 100000 in
theorem dH.calls(k:Nat)(A0:Option Addr)(c0:Nat)(l0:List (ct))(A1:Option Addr)(c1:Nat)(l1:List Int)(a2:Bool)(r1:List Int)(r2:Int)(w:World)(hr0:Kd.C fK w A0 l0.length l0)(hc0:l0.length≤c0)(hr1:Kd.C (Kd.int .u64) w A1 l1.length l1)(hc1:l1.length≤c1)(h:dH.f k l0 l1 a2=some (r1,r2)):
  Calls Tryz.prog 33 #[bh (.slice A0 l0.length c0), .slice A1 l1.length c1, .bool a2] w fun e w'=> ∃v0_:Value,e= .returned (.tuple #[v0_, .int .i64 r2])∧Kd.R (Kd.int .u64) 22 w' w.heap.size (fun _=>True) v0_ r1∧Below w.heap.size w w':=by
 have hu104:=Tryz.underlying104
 obtain⟨oT_HR0,hT_HR0⟩: ∃o:Option Addr,bh (.slice A0 l0.length c0)= .pointer o:=(Nat.eq_zero_or_pos l0.length).elim (fun z_=>⟨_,iJ A0 c0 z_⟩) (fun z_=>⟨_,(j6 A0 c0 (Nat.ne_of_gt z_)).choose_spec⟩)
 rw[hT_HR0]
 have HR0:=aa.mk hr0
 have HC0:=aa.mk hc0
 clear hr0 hc0
 have HR1:=aa.mk hr1
 have HC1:=aa.mk hc1
 clear hr1 hc1
 have HB:=aa.mk (Below.refl w.heap.size w)
 have H:=h;unfold dH.f at H
 clear h
 replace H:=Option.bind_eq_some_iff.mp H
 obtain⟨t139,A40,H⟩:=H
 (try dsimp only at H)
 have A4:=aa.mk A40
 clear A40
 by_cases c5:t139=0
 ·rw[if_pos c5] at H
  have c5b0:=beq_iff_eq.mpr c5
  have c5b1:=bne_eq_false_iff_eq.mpr c5
  clear c5
  replace H:=Option.bind_eq_some_iff.mp H
  obtain⟨⟨t140,t141⟩,A60,H⟩:=H
  (try dsimp only at H)
  have A6:=aa.mk A60
  clear A60
  by_cases c7:t141=true
  ·subst c7
   have H1:=H;rw[if_pos rfl] at H1
   clear H
   have H:=H1
   clear H1
   replace H:=Option.bind_eq_some_iff.mp H
   obtain⟨t144,A80,H⟩:=H
   (try dsimp only at H)
   have A8:=aa.mk A80
   clear A80
   by_cases c9:t144=true
   ·subst c9
    have H1:=H;rw[if_pos rfl] at H1
    clear H
    have H:=H1
    clear H1
    replace H:=Option.bind_eq_some_iff.mp H
    obtain⟨⟨t145,t146⟩,A100,H⟩:=H
    (try dsimp only at H)
    have A10:=aa.mk A100
    clear A100
    replace H:=Option.bind_eq_some_iff.mp H
    obtain⟨⟨t149,t150⟩,A110,H⟩:=H
    (try dsimp only at H)
    have A11:=aa.mk A110
    clear A110
    have H':=aa.mk H
    clear H
    go_enter Tryz.func33,Tryz.ntmps33
    go_wp2_with (first|((with_reducible refine aC (f:=23) rfl ?_);refine cf (some 20) rfl rfl Tryz.func23 (by kernel_rfl) rfl #[bh (.slice A0 l0.length c0), .int .i64 (l1.length:Int), .int .i64 1024] rfl (jK hT_HR0) ?_;(try rw[←hT_HR0]);(with_reducible refine(dc.calls _ _ l0 (l1.length:Int) 1024 t139 _ ?side1 ?side2 A4.out).mono ?_);(case side1=>exact cr HR0.out);(case side2=>exact HC0.out);rintro e w' ⟨rfl,⟨nd,rfl⟩⟩;refine⟨_,rfl,?_⟩)|(refine ez 27 Tryz.func64 #[.int .i64 (l1.length:Int)] rfl ?_;(with_reducible refine(aU.calls k (l1.length:Int) t140 true _ A6.out).mono ?_);rintro e w12 ⟨v142,rfl,ho0,hb⟩;refine⟨_,rfl,?_⟩;have n0_:=aa.mk (Kd.bA ho0 (ah aj));have n1_:=aa.mk (ai aj hb);clear HB;have HO143:=n0_;have HB:=n1_;clear n0_ n1_;(try clear ho0))|((with_reducible refine aC (f:=24) rfl ?_);refine cf (some 34) rfl rfl Tryz.func24 (by kernel_rfl) rfl #[bh (.slice A0 l0.length c0), .slice A1 l1.length c1] rfl (jK hT_HR0) ?_;(try rw[←hT_HR0]);(with_reducible refine(cR.calls k _ _ l0 _ _ l1 true _ ?side1 ?side2 ?side3 ?side4 A8.out).mono ?_);(case side1=>exact cr (Kd.bl HR0.out HB.out));(case side2=>exact HC0.out);(case side3=>exact cr (Kd.bl HR1.out HB.out));(case side4=>exact HC1.out);rintro e w' ⟨rfl,⟨nd,rfl⟩⟩;refine⟨_,rfl,?_⟩)|((with_reducible refine aC (f:=66) rfl ?_);refine cf (some 41) rfl rfl Tryz.func66 (by kernel_rfl) rfl #[bh (.slice A0 l0.length c0), .int .i64 (l1.length:Int), .bool a2] rfl (jK hT_HR0) ?_;(try rw[←hT_HR0]);(with_reducible refine(dS.calls k _ _ l0 (l1.length:Int) a2 t145 t146 _ ?side1 ?side2 A10.out).mono ?_);(case side1=>exact cr (Kd.bl HR0.out aj));(case side2=>exact HC0.out);rintro e w13 ⟨v147,rfl,ho0,hb⟩;refine⟨_,rfl,?_⟩;have n0_:=aa.mk (Kd.de (bw HO143.out) hb);have n1_:=aa.mk (Kd.bA ho0 (ah aj));have n2_:=aa.mk (ai aj hb);clear HO143;clear HB;have HO143:=n0_;have HO148:=n1_;have HB:=n2_;clear n0_ n1_ n2_;(try clear ho0);obtain⟨Ao14,co14,eo14⟩:=Kd.bF HO143.out;subst eo14)|(refine ez 47 Tryz.func67 #[.slice A1 l1.length c1, .slice Ao14 t140.length co14] rfl ?_;(with_reducible refine(cP.calls k _ _ l1 _ _ t140 t149 t150 _ ?side1 ?side2 ?side3 ?side4 A11.out).mono ?_);(case side1=>exact cr (Kd.bl HR1.out HB.out));(case side2=>exact HC1.out);(case side3=>repeat(first|exact(Kd.aA HO143.out).2.2|(with_reducible refine Kd.cM ?_ _)|(with_reducible refine Kd.db ?_ _)|(with_reducible refine Kd.dC ?_)));(case side4=>exact(Kd.aA HO143.out).2.1);rintro e w15 ⟨v151,rfl,ho0,hb⟩;refine⟨_,rfl,?_⟩;have n0_:=aa.mk (Kd.de (bw HO143.out) hb);have n1_:=aa.mk (Kd.dp (bw HO148.out) (Kd.dP ho0) hb);have n2_:=aa.mk (Kd.bA (Kd.ek ho0 (Kd.gI (bw HO148.out))) (ah aj));have n3_:=aa.mk (ai aj hb);clear HO143;clear HO148;clear HB;have HO143:=n0_;have HO148:=n1_;have HO152:=n2_;have HB:=n3_;clear n0_ n1_ n2_ n3_;(try clear ho0)))
    go_loopg [15,16] k (fun kq v15 v16 w'=> ∃(x13_1:List Int) (x15_1:Int) (x16_1:Int),v15= .int .i64 x15_1∧v16= .int .i64 x16_1∧aa (dH.l0 kq l0 a2 t140 t145 x13_1 x15_1 x16_1=some (r1,r2))∧aa (kq≤k)∧aa (Kd.R (Kd.int .i64) 3 w' w.heap.size (fun _=>True) (.slice Ao14 t140.length co14) t140)∧aa (Kd.R (Kd.int .u64) 22 w' w.heap.size (fun k_=>some k_≠(v151:Value).ownBlock) v147 t145)∧aa (Kd.R (Kd.int .u64) 22 w' w.heap.size (fun k_=>some k_≠(v147:Value).ownBlock) v151 x13_1)∧aa (Below w.heap.size w w'))
    case atStart=>exact⟨(t149),(1),(wrap64 ((t140.length:Int)-1)),ba,ba,H',⟨Nat.le_refl _⟩,⟨bw HO143.out⟩,⟨bw (Kd.bz HO148.out (fun _ hk=>hk.2))⟩,⟨bw (Kd.bz HO152.out (fun _ hk=>hk.2))⟩,⟨aj⟩⟩
    case round=>
     clear H'
     obtain⟨x13_1,x15_1,x16_1,rfl,rfl,HA,HK1,HO_9,HO_11,HO_13,HB⟩:=hrel
     cases gk with
     |zero=>exact absurd HA.out (by simp[dH.l0])
     |succ k1=>
      have H:=HA.out
      clear HA
      simp only[dH.l0] at H
      by_cases ji:x16_1≥0
      ·rw[if_pos ji] at H
       have c16b0:=decide_eq_true ji
       clear ji
       by_cases gQ:0≤x16_1
       ·rw[if_pos gQ] at H
        have c17b0:=decide_eq_true gQ
        clear gQ
        by_cases jy:x16_1<(t140.length:Int)
        ·rw[if_pos jy] at H
         have c18b0:=decide_eq_true jy
         clear jy
         replace H:=Option.bind_eq_some_iff.mp H
         obtain⟨t154,A190,H⟩:=H
         (try dsimp only at H)
         have A19:=aa.mk A190
         clear A190
         have H':=aa.mk H
         clear H
         have p153:0≤(x16_1:Int):=of_decide_eq_true (by assumption)
         have q153:x16_1<(t140.length:Int):=of_decide_eq_true (by assumption)
         obtain⟨ad153,e153,hx153_0⟩:=Kd.cS (Kd.aA HO_9.out).2.2 x16_1 p153 q153
         cases e153
         replace p153:=eq_true p153
         replace q153:=eq_true q153
         obtain⟨Ao20,co20,eo20⟩:=Kd.bF HO_11.out
         subst eo20
         obtain⟨Ao21,co21,eo21⟩:=Kd.bF HO_13.out
         subst eo21
         go_wp2_with (first|((with_reducible refine aC (f:=68) rfl ?_);refine cf (some 66) rfl rfl Tryz.func68 (by kernel_rfl) rfl #[.agg #[bh (.slice A0 l0.length c0), .slice Ao20 t145.length co20, .int .i64 (rd t140 x16_1), .int .i64 x15_1], .slice Ao21 x13_1.length co21] rfl (jK hT_HR0) ?_;(try rw[←hT_HR0]);(with_reducible refine(bo.calls k1 _ _ l0 _ _ t145 (rd t140 x16_1) x15_1 (fun k_=>some k_=(.slice Ao21 x13_1.length co21:Value).ownBlock) (.slice Ao21 x13_1.length co21) x13_1 t154 w _ ?side1 ?side2 ?side3 ?side4 ?side5 ?side6 A19.out).mono ?_);(case side1=>repeat(first|(with_reducible first|exact HB.out|apply aW|apply ay|apply bx)|exact HB.out));(case side2=>exact Kd.jS lR HR0.out aj (fun k_ hs_=>(fun e_=>Kd.dP HO_13.out k_ e_.symm) hs_));(case side3=>exact HC0.out);(case side4=>exact Kd.rN (HO_11.out) (fun k_ hk_ hs_=>(hk_) hs_));(case side5=>exact(Kd.aA HO_11.out).2.1);(case side6=>exact Kd.jv rfl HO_13.out);rintro e w22 ⟨rfl,hy0,hb,hkp⟩;refine⟨_,rfl,?_⟩;have n0_:=aa.mk (Kd.bz (ok':=fun k_=>True) (Kd.mF ((Kd.jL HO_9.out (Kd.gM HO_13.out) (by decide))) hkp (fun k_ hk_ hs_=>(hk_.2) hs_)) (fun k_ hk_=>trivial));have n1_:=aa.mk (Kd.bz (ok':=fun k_=>some k_≠(.slice Ao21 x13_1.length co21:Value).ownBlock) (Kd.mF (HO_11.out) hkp (fun k_ hk_ hs_=>(hk_) hs_)) (fun k_ hk_=>hk_.1));have n2_:=aa.mk (Kd.nB rfl hy0 (fun k_ e_=>HO_13.out.1 k_ e_));have n3_:=aa.mk (hb);clear HO_9;clear HO_11;clear HO_13;clear HB;have HO_9:=n0_;have HO_11:=n1_;have HO_13:=n2_;have HB:=n3_;clear n0_ n1_ n2_ n3_;(try clear hb);(try clear hkp);(try clear hy0);have p155:0≤(x16_1:Int):=of_decide_eq_true (by assumption);have q155:x16_1<(t140.length:Int):=of_decide_eq_true (by assumption);obtain⟨ad155,e155,hx155_0⟩:=Kd.cS (Kd.aA HO_9.out).2.2 x16_1 p155 q155;obtain rfl:ad153=ad155:=(by injection e155);replace p155:=eq_true p155;replace q155:=eq_true q155))
         go_roundg k1
         case measure=>have:=HK1.out;omega
         case rel=>exact⟨(t154),(wrap64 (x15_1*(rd t140 x16_1))),(wrap64 (x16_1-1)),ba,ba,H',⟨by have:=HK1.out;omega⟩,⟨bw HO_9.out⟩,⟨bw HO_11.out⟩,⟨bw HO_13.out⟩,⟨aj⟩⟩
        ·rw[if_neg jy] at H
         exact absurd H (by simp)
       ·rw[if_neg gQ] at H
        exact absurd H (by simp)
      ·rw[if_neg ji] at H
       have c16b0:=decide_eq_false ji
       clear ji
       by_cases kI:a2=true
       ·subst kI
        have H1:=H;rw[if_pos rfl] at H1
        clear H
        have H:=H1
        clear H1
        replace H:=Option.bind_eq_some_iff.mp H
        obtain⟨t156,A240,H⟩:=H
        (try dsimp only at H)
        have A24:=aa.mk A240
        clear A240
        simp only[Option.some.injEq,Prod.mk.injEq] at H
        obtain⟨rfl,rfl⟩:=H
        obtain⟨Ao25,co25,eo25⟩:=Kd.bF HO_13.out
        subst eo25
        go_wp2_with (first|((with_reducible refine aC (f:=25) rfl ?_);refine cf (some 76) rfl rfl Tryz.func25 (by kernel_rfl) rfl #[bh (.slice A0 l0.length c0), .slice Ao25 x13_1.length co25] rfl (jK hT_HR0) ?_;(try rw[←hT_HR0]);(with_reducible refine(dr.calls k1 _ _ l0 _ _ x13_1 t156 _ ?side1 ?side2 ?side3 ?side4 A24.out).mono ?_);(case side1=>exact cr (Kd.bl HR0.out HB.out));(case side2=>exact HC0.out);(case side3=>repeat(first|exact(Kd.aA HO_13.out).2.2|(with_reducible refine Kd.cM ?_ _)|(with_reducible refine Kd.db ?_ _)|(with_reducible refine Kd.dC ?_)));(case side4=>exact(Kd.aA HO_13.out).2.1);rintro e w26 ⟨v157,rfl,ho0,hb⟩;refine⟨_,rfl,?_⟩;have n0_:=aa.mk (Kd.de (bw HO_9.out) hb);have n1_:=aa.mk (Kd.dp (bw HO_11.out) (Kd.dP ho0) hb);have n2_:=aa.mk (Kd.dp (bw HO_13.out) (Kd.dP ho0) hb);have n3_:=aa.mk (Kd.bA (Kd.ek (Kd.ek ho0 (Kd.gI (bw HO_11.out))) (Kd.gI (bw HO_13.out))) (ah aj));have n4_:=aa.mk (ai aj hb);clear HO_9;clear HO_11;clear HO_13;clear HB;have HO_9:=n0_;have HO_11:=n1_;have HO_13:=n2_;have HO158:=n3_;have HB:=n4_;clear n0_ n1_ n2_ n3_ n4_;(try clear ho0)))
        go_ret2
        exact⟨_,ba,bw (Kd.bz HO158.out (fun _ hk=>trivial)),aj⟩
       ·replace kI:=Bool.eq_false_iff.mpr kI
        subst kI
        have H1:=H;rw[if_neg (show¬(false=true) by decide)] at H1
        clear H
        have H:=H1
        clear H1
        simp only[Option.some.injEq,Prod.mk.injEq] at H
        obtain⟨rfl,rfl⟩:=H
        go_wp2
        go_ret2
        exact⟨_,ba,bw (Kd.bz HO_13.out (fun _ hk=>trivial)),aj⟩
   ·replace c9:=Bool.eq_false_iff.mpr c9
    subst c9
    have H1:=H;rw[if_neg (show¬(false=true) by decide)] at H1
    clear H
    have H:=H1
    clear H1
    simp only[Option.some.injEq,Prod.mk.injEq] at H
    obtain⟨rfl,rfl⟩:=H
    go_enter Tryz.func33,Tryz.ntmps33
    go_wp2_with (first|((with_reducible refine aC (f:=23) rfl ?_);refine cf (some 20) rfl rfl Tryz.func23 (by kernel_rfl) rfl #[bh (.slice A0 l0.length c0), .int .i64 (l1.length:Int), .int .i64 1024] rfl (jK hT_HR0) ?_;(try rw[←hT_HR0]);(with_reducible refine(dc.calls _ _ l0 (l1.length:Int) 1024 t139 _ ?side1 ?side2 A4.out).mono ?_);(case side1=>exact cr HR0.out);(case side2=>exact HC0.out);rintro e w' ⟨rfl,⟨nd,rfl⟩⟩;refine⟨_,rfl,?_⟩)|(refine ez 27 Tryz.func64 #[.int .i64 (l1.length:Int)] rfl ?_;(with_reducible refine(aU.calls k (l1.length:Int) t140 true _ A6.out).mono ?_);rintro e w27 ⟨v142,rfl,ho0,hb⟩;refine⟨_,rfl,?_⟩;have n0_:=aa.mk (Kd.bA ho0 (ah aj));have n1_:=aa.mk (ai aj hb);clear HB;have HO143:=n0_;have HB:=n1_;clear n0_ n1_;(try clear ho0))|((with_reducible refine aC (f:=24) rfl ?_);refine cf (some 34) rfl rfl Tryz.func24 (by kernel_rfl) rfl #[bh (.slice A0 l0.length c0), .slice A1 l1.length c1] rfl (jK hT_HR0) ?_;(try rw[←hT_HR0]);(with_reducible refine(cR.calls k _ _ l0 _ _ l1 false _ ?side1 ?side2 ?side3 ?side4 A8.out).mono ?_);(case side1=>exact cr (Kd.bl HR0.out HB.out));(case side2=>exact HC0.out);(case side3=>exact cr (Kd.bl HR1.out HB.out));(case side4=>exact HC1.out);rintro e w' ⟨rfl,⟨nd,rfl⟩⟩;refine⟨_,rfl,?_⟩))
    go_ret2
    exact⟨_,ba,rQ,aj⟩
  ·replace c7:=Bool.eq_false_iff.mpr c7
   subst c7
   have H1:=H;rw[if_neg (show¬(false=true) by decide)] at H1
   clear H
   have H:=H1
   clear H1
   simp only[Option.some.injEq,Prod.mk.injEq] at H
   obtain⟨rfl,rfl⟩:=H
   go_enter Tryz.func33,Tryz.ntmps33
   go_wp2_with (first|((with_reducible refine aC (f:=23) rfl ?_);refine cf (some 20) rfl rfl Tryz.func23 (by kernel_rfl) rfl #[bh (.slice A0 l0.length c0), .int .i64 (l1.length:Int), .int .i64 1024] rfl (jK hT_HR0) ?_;(try rw[←hT_HR0]);(with_reducible refine(dc.calls _ _ l0 (l1.length:Int) 1024 t139 _ ?side1 ?side2 A4.out).mono ?_);(case side1=>exact cr HR0.out);(case side2=>exact HC0.out);rintro e w' ⟨rfl,⟨nd,rfl⟩⟩;refine⟨_,rfl,?_⟩)|(refine ez 27 Tryz.func64 #[.int .i64 (l1.length:Int)] rfl ?_;(with_reducible refine(aU.calls k (l1.length:Int) t140 false _ A6.out).mono ?_);rintro e w28 ⟨v142,rfl,ho0,hb⟩;refine⟨_,rfl,?_⟩;have n0_:=aa.mk (Kd.bA ho0 (ah aj));have n1_:=aa.mk (ai aj hb);clear HB;have HO143:=n0_;have HB:=n1_;clear n0_ n1_;(try clear ho0)))
   go_ret2
   exact⟨_,ba,rQ,aj⟩
 ·rw[if_neg c5] at H
  have c5b0:=beq_eq_false_iff_ne.mpr c5
  have c5b1:=bne_iff_ne.mpr c5
  simp only[Option.some.injEq,Prod.mk.injEq] at H
  obtain⟨rfl,rfl⟩:=H
  go_enter Tryz.func33,Tryz.ntmps33
  go_wp2_with (first|((with_reducible refine aC (f:=23) rfl ?_);refine cf (some 20) rfl rfl Tryz.func23 (by kernel_rfl) rfl #[bh (.slice A0 l0.length c0), .int .i64 (l1.length:Int), .int .i64 1024] rfl (jK hT_HR0) ?_;(try rw[←hT_HR0]);(with_reducible refine(dc.calls _ _ l0 (l1.length:Int) 1024 t139 _ ?side1 ?side2 A4.out).mono ?_);(case side1=>exact cr HR0.out);(case side2=>exact HC0.out);rintro e w' ⟨rfl,⟨nd,rfl⟩⟩;refine⟨_,rfl,?_⟩))
  go_ret2
  exact⟨_,ba,rQ,aj⟩
end Go.Proofs.YtndkmnjbjlfeaaaGreat.XM
end
