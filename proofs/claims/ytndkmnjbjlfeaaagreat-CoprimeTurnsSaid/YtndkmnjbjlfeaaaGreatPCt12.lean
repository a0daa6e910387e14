/- Parts of this claim's texts, packed by wip/tools/prune.py: what the proof does not reach is left out. -/
import Derived.Test.YtndkmnjbjlfeaaaGreatPCt11
section
namespace Go.Proofs.YtndkmnjbjlfeaaaGreat.D11
open Go Go.RowKit Go.Proofs.YtndkmnjbjlfeaaaGreatW.PrintWords Go.Proofs.YtndkmnjbjlfeaaaGreat.M Go.Proofs.YtndkmnjbjlfeaaaGreat.Mont Go.Proofs.YtndkmnjbjlfeaaaGreat.Num Go.Proofs.YtndkmnjbjlfeaaaGreat.F06 Go.Proofs.YtndkmnjbjlfeaaaGreat.T10
theorem ma(f:Nat→Int)(r m:Nat):cp f (r*m)=cp (fun t=>cp (fun q=>f (t*r+q)) r) m:=by
 induction m with
 |zero=>rfl
 |succ m ih=>
  rw[Nat.mul_succ,kr,ih,dj]
  exact congrArg (_+ ·) (cm fun q _=>by rw[Nat.mul_comm])
theorem tf(f:Nat→Int)(r m:Nat):cp f (r*m)=cp (fun q=>cp (fun t=>f (t*r+q)) m) r:=by
 rw[ma,jV]
theorem tR(w:Int)(f:Nat→Int)(r m i:Nat):cS w f (r*m) i=cp (fun q=>w^(q*i)*cS (w^r) (fun t=>f (t*r+q)) m i) r:=by
 unfold cS
 rw[tf]
 refine cm fun q _=>?_
 rw[←ie]
 refine cm fun t _=>?_
 rw[←Int.pow_mul,←Int.mul_assoc,←Int.pow_add]
 congr 2
 rw[Nat.mul_add,Nat.mul_comm q i,←Nat.mul_assoc,Nat.mul_comm i t,Nat.mul_comm r,Nat.mul_assoc t i r,Nat.mul_comm i r,←Nat.mul_assoc,Nat.add_comm,Nat.mul_assoc,Nat.mul_comm r i,←Nat.mul_assoc]
theorem fv{p w:Int}{n:Nat}(hp:(1:Int)%p=1)(h:w^n%p=1)(a:Nat):w^a%p=w^(a%n)%p:=by
 have h1:w^(n*(a/n))%p=1:=by
  rw[Int.pow_mul,←dC,h,Int.one_pow,hp]
 have e:w^a=w^(n*(a/n))*w^(a%n):=by rw[←Int.pow_add,Nat.div_add_mod]
 rw[e,←bl,h1,Int.one_mul]
theorem k9{p w:Int}{n:Nat}(hp:(1:Int)%p=1)(h:w^n%p=1)(f:Nat→Int)(i:Nat):cS w f n i%p=cS w f n (i%n)%p:=by
 refine fi fun j _=>dZ ?_ rfl
 rw[fv hp h (i*j),fv hp h (i%n*j)]
 congr 2
 rw[Nat.mul_mod i j n,Nat.mul_mod (i%n) j n,Nat.mod_mod]
def bm:List Nat→Nat
 |[]=>1
 |r::rs=>r*bm rs
def yn:List Nat→Int→(Nat→Int)→Nat→Int
 |[],_,f,_=>f 0
 |r::rs,w,f,i=>cp (fun q=>w^(q*i)*yn rs (w^r) (fun t=>f (t*r+q)) (i%bm rs)) r
theorem sX{p:Int}(hp:(1:Int)%p=1): ∀(rs:List Nat) (w:Int) (f:Nat→Int) (i:Nat),w^bm rs%p=1→yn rs w f i%p=cS w f (bm rs) i%p
 |[],w,f,i,_=>by
  have e:cS w f (bm []) i=f 0:=by
   show 0+w^(i*0)*f 0=f 0
   rw[Nat.mul_zero,Int.pow_zero,Int.one_mul,Int.zero_add]
  rw[e]
  rfl
 |r::rs,w,f,i,h=>by
  have h':(w^r)^bm rs%p=1:=by rw[←Int.pow_mul];exact h
  have e:cS w f (bm (r::rs)) i=cp (fun q=>w^(q*i)*cS (w^r) (fun t=>f (t*r+q)) (bm rs) i) r:=tR w f r (bm rs) i
  rw[e]
  show cp (fun q=>w^(q*i)*yn rs (w^r) (fun t=>f (t*r+q)) (i%bm rs)) r%p=_
  refine fi fun q _=>dZ rfl ?_
  rw[sX hp rs _ _ _ h',←k9 hp h']
def eK:List Nat→Nat→Nat
 |[],_=>0
 |r::rs,i=>(i%r)*bm rs+eK rs (i/r)
theorem uJ{r:Nat}{rs:List Nat}{t q:Nat}(hq:q<r):eK (r::rs) (t*r+q)=q*bm rs+eK rs t:=by
 show((t*r+q)%r)*bm rs+eK rs ((t*r+q)/r)=_
 rw[Nat.mul_comm t r,Nat.mul_add_mod,Nat.mod_eq_of_lt hq,Nat.mul_add_div (by omega),Nat.div_eq_of_lt hq,Nat.add_zero]
theorem uD{r m t q:Nat}(ht:t<m)(hq:q<r):t*r+q<r*m:=by
 have:(t+1)*r≤m*r:=Nat.mul_le_mul_right r ht
 rw[Nat.succ_mul] at this
 rw[Nat.mul_comm r m]
 omega
theorem kR: ∀(rs:List Nat) (i:Nat),i<bm rs→eK rs i<bm rs
 |[],_,_=>Nat.one_pos
 |r::rs,i,h=>by
  have hr:0<r:=Nat.pos_of_ne_zero fun c=>by subst c;simp[bm] at h
  have h2:i/r<bm rs:=Nat.div_lt_of_lt_mul h
  have:=kR rs _ h2
  have h1:i%r<r:=Nat.mod_lt _ hr
  show(i%r)*bm rs+eK rs (i/r)<r*bm rs
  have:(i%r+1)*bm rs≤r*bm rs:=Nat.mul_le_mul_right _ h1
  rw[Nat.succ_mul] at this
  omega
def vA:List Nat→Int→(Nat→Int)→Nat→Int
 |[],_,g,_=>g 0
 |r::rs,w,g,i=>cp (fun q=>w^(q*i)*vA rs (w^r) (fun t=>g (q*bm rs+t)) (i%bm rs)) r
theorem pG: ∀(rs:List Nat) (w:Int) (f g:Nat→Int),(∀t,t<bm rs→g (eK rs t)=f t)→ ∀i,vA rs w g i=yn rs w f i
 |[],_,_,_,h,_=>h 0 Nat.one_pos
 |r::rs,w,f,g,h,i=>by
  refine cm fun q hq=>congrArg (_* ·) (pG rs _ _ _ (fun t ht=>?_) _)
  rw[←uJ hq]
  exact h _ (uD ht hq)
theorem xa{p:Int}(hp:(1:Int)%p=1){rs:List Nat}{w:Int}{f g:Nat→Int}(h:w^bm rs%p=1)(hg: ∀t,t<bm rs→g (eK rs t)=f t)(i:Nat):vA rs w g i%p=cS w f (bm rs) i%p:=by
 rw[pG rs w f g hg i,sX hp rs w f i h]
end Go.Proofs.YtndkmnjbjlfeaaaGreat.D11
end
section
namespace Go.Proofs.YtndkmnjbjlfeaaaGreat.D11
open Go Go.RowKit Go.Proofs.YtndkmnjbjlfeaaaGreatW.PrintWords Go.Proofs.YtndkmnjbjlfeaaaGreat.M Go.Proofs.YtndkmnjbjlfeaaaGreat.Mont Go.Proofs.YtndkmnjbjlfeaaaGreat.Num Go.Proofs.YtndkmnjbjlfeaaaGreat.F06 Go.Proofs.YtndkmnjbjlfeaaaGreat.T10
theorem mQ{f:Nat→Int}{n:Nat}(h: ∀i,i<n→f i=0):cp f n=0:=(cm h).trans (j5 n)
theorem mU(f:Nat→Int){n k:Nat}(hk:k<n):cp (fun m=>if k=m then f m else 0) n=f k:=by
 induction n with
 |zero=>omega
 |succ n ih=>
  rw[dj]
  by_cases c:k=n
  ·subst c
   rw[if_pos rfl,mQ (fun i hi=>if_neg (by omega)),Int.zero_add]
  ·rw[if_neg c,ih (by omega),Int.add_zero]
theorem qp{f:Nat→Int}{n:Nat}(h: ∀i,i<n→0≤f i):0≤cp f n:=by
 induction n with
 |zero=>exact Int.le_refl 0
 |succ n ih=>
  have:=ih (fun i hi=>h i (by omega))
  have:=h n (by omega)
  rw[dj]
  omega
theorem nR{f:Nat→Int}{n:Nat}(h: ∀i,i<n→0≤f i)(hs:cp f n=0): ∀i,i<n→f i=0:=by
 induction n with
 |zero=>intro i hi;omega
 |succ n ih=>
  intro i hi
  have h1:0≤cp f n:=qp (fun i hi=>h i (by omega))
  have h2:=h n (by omega)
  rw[dj] at hs
  by_cases c:i=n
  ·subst c;omega
  ·exact ih (fun i hi=>h i (by omega)) (by omega) i (by omega)
theorem pK{P:Nat→Prop} [DecidablePred P]{n:Nat}(h: ∀i j,i<n→j<n→P i→P j→i=j):cp (fun i=>if P i then 1 else 0) n≤1:=by
 induction n with
 |zero=>show(0:Int)≤1;decide
 |succ n ih=>
  rw[dj]
  by_cases c:P n
  ·rw[if_pos c,mQ (fun i hi=>if_neg fun hp=>by have:=h i n (by omega) (by omega) hp c;omega)]
   decide
  ·rw[if_neg c,Int.add_zero]
   exact ih fun i j hi hj=>h i j (by omega) (by omega)
theorem ny(n:Nat):cp (fun _=>1) n=n:=by
 induction n with
 |zero=>rfl
 |succ n ih=>rw[dj,ih];omega
theorem ti{φ:Nat→Nat}{n:Nat}(hl: ∀i,i<n→φ i<n)(hi: ∀i j,i<n→j<n→φ i=φ j→i=j)(f:Nat→Int):cp (fun i=>f (φ i)) n=cp f n:=by
 have hc: ∀m,m<n→cp (fun i=>if φ i=m then(1:Int) else 0) n=1:=by
  have h0:cp (fun m=>1-cp (fun i=>if φ i=m then(1:Int) else 0) n) n=0:=by
   have e:cp (fun m=>1-cp (fun i=>if φ i=m then(1:Int) else 0) n) n=cp (fun m=>1+(-1)*cp (fun i=>if φ i=m then(1:Int) else 0) n) n:=cm fun m _=>by omega
   have e2:cp (fun m=>cp (fun i=>if φ i=m then(1:Int) else 0) n) n=n:=by
    rw[jV,cm (g:=fun _=>1) (fun i h=>mU (fun _=>1) (hl i h)),ny]
   rw[e,pW,ie,e2,ny]
   omega
  intro m hm
  have:=nR (fun m hm=>by have:=pK (P:=fun i=>φ i=m) (n:=n) (fun i j h h' e e'=>hi i j h h' (e.trans e'.symm));omega) h0 m hm
  omega
 have e1:cp (fun i=>f (φ i)) n=cp (fun i=>cp (fun m=>if φ i=m then f m else 0) n) n:=cm fun i h=>(mU f (hl i h)).symm
 rw[e1,jV]
 refine cm fun m hm=>?_
 have e2:cp (fun i=>if φ i=m then f m else 0) n=cp (fun i=>f m*(if φ i=m then 1 else 0)) n:=cm fun i _=>by
  by_cases c:φ i=m
  ·rw[if_pos c,if_pos c,Int.mul_one]
  ·rw[if_neg c,if_neg c,Int.mul_zero]
 rw[e2,ie,hc m hm,Int.mul_one]
theorem nf{a b i j:Nat}(h:Nat.Coprime a b)(hi:i<a)(hj:j<a)(e:b*i%a=b*j%a):i=j:=by
 have key: ∀x y:Nat,x≤y→y<a→b*x%a=b*y%a→x=y:=by
  intro x y hxy hy e
  have h1:(b*y-b*x)%a=0:=Nat.sub_mod_eq_zero_of_mod_eq e.symm
  rw[←Nat.mul_sub] at h1
  have h2:a∣y-x:=h.dvd_of_dvd_mul_left (Nat.dvd_of_mod_eq_zero h1)
  by_cases c:y-x=0
  ·omega
  ·have:=Nat.le_of_dvd (by omega) h2
   omega
 rcases Nat.le_total i j with c|c
 ·exact key i j c hj e
 ·exact(key j i c hi e.symm).symm
theorem tn{a b:Nat}(hab:Nat.Coprime a b){i j i' j':Nat}(hi:i<a)(hj:j<b)(hi':i'<a)(hj':j'<b)(h:(b*i+a*j)% (a*b)=(b*i'+a*j')% (a*b)):i=i'∧j=j':=by
 have ha:=congrArg (· %a) h
 have hb:=congrArg (· %b) h
 simp only[Nat.mod_mul_right_mod,Nat.mod_mul_left_mod,Nat.add_mul_mod_self_left,Nat.mul_add_mod] at ha hb
 exact⟨nf hab hi hi' ha,nf hab.symm hj hj' hb⟩
theorem rK{a b:Nat}(hab:Nat.Coprime a b)(f:Nat→Int):cp f (a*b)=cp (fun i=>cp (fun j=>f ((b*i+a*j)% (a*b))) b) a:=by
 have e:cp (fun i=>cp (fun j=>f ((b*i+a*j)% (a*b))) b) a=cp (fun t=>f ((b*(t/b)+a*(t%b))% (a*b))) (a*b):=by
  rw[Nat.mul_comm a b,ma]
  refine cm fun i hi=>cm fun j hj=>?_
  have h1:(i*b+j)/b=i:=by rw[Nat.mul_comm i b,Nat.mul_add_div (by omega),Nat.div_eq_of_lt hj,Nat.add_zero]
  have h2:(i*b+j)%b=j:=by rw[Nat.mul_comm i b,Nat.mul_add_mod,Nat.mod_eq_of_lt hj]
  show _=f ((b*((i*b+j)/b)+a*((i*b+j)%b))%_)
  rw[h1,h2]
 rw[e]
 refine(ti (φ:=fun t=>(b*(t/b)+a*(t%b))% (a*b)) (fun t ht=>Nat.mod_lt _ (by omega)) (fun s t hs ht h=>?_) f).symm
 have hb:0<b:=Nat.pos_of_ne_zero fun c=>by subst c;omega
 have d1:s/b<a:=Nat.div_lt_of_lt_mul (by rw[Nat.mul_comm];exact hs)
 have d2:t/b<a:=Nat.div_lt_of_lt_mul (by rw[Nat.mul_comm];exact ht)
 obtain⟨h1,h2⟩:=tn hab d1 (Nat.mod_lt _ hb) d2 (Nat.mod_lt _ hb) h
 rw[←Nat.div_add_mod s b,←Nat.div_add_mod t b,h1,h2]
theorem tq{p w:Int}{a b:Nat}(hp:(1:Int)%p=1)(hab:Nat.Coprime a b)(hw:w^(a*b)%p=1)(f:Nat→Int)(k:Nat):
  cS w f (a*b) k%p=cS (w^b) (fun i=>cS (w^a) (fun j=>f ((b*i+a*j)% (a*b))) b (k%b)) a (k%a)%p:=by
 have ha:(w^b)^a%p=1:=by rw[←Int.pow_mul,Nat.mul_comm];exact hw
 have hb:(w^a)^b%p=1:=by rw[←Int.pow_mul];exact hw
 rw[←k9 hp ha]
 have e:cS w f (a*b) k=cp (fun i=>cp (fun j=>w^(k*((b*i+a*j)% (a*b)))*f ((b*i+a*j)% (a*b))) b) a:=rK hab (fun m=>w^(k*m)*f m)
 rw[e]
 refine fi fun i _=>?_
 have e2:(w^b)^(k*i)*cS (w^a) (fun j=>f ((b*i+a*j)% (a*b))) b (k%b)%p=(w^b)^(k*i)*cS (w^a) (fun j=>f ((b*i+a*j)% (a*b))) b k%p:=dZ rfl (k9 hp hb _ _).symm
 rw[e2]
 unfold cS
 rw[←ie]
 refine fi fun j _=>?_
 rw[←Int.mul_assoc]
 refine dZ ?_ rfl
 rw[←Int.pow_mul,←Int.pow_mul,←Int.pow_add,fv hp hw,fv hp hw (b*(k*i)+a*(k*j))]
 rw[Nat.mul_mod k,Nat.mod_mod,←Nat.mul_mod,Nat.mul_add,Nat.mul_left_comm k b i,Nat.mul_left_comm k a j]
end Go.Proofs.YtndkmnjbjlfeaaaGreat.D11
end
section
namespace Go.Proofs.YtndkmnjbjlfeaaaGreat.XW
open Go Go.RowKit Go.Proofs.YtndkmnjbjlfeaaaGreatW.PrintWords Go.Proofs.YtndkmnjbjlfeaaaGreatW.PrintLast Go.Proofs.YtndkmnjbjlfeaaaGreatW.PrintMore Go.Proofs.YtndkmnjbjlfeaaaGreat.Given Go.Proofs.YtndkmnjbjlfeaaaGreat.M Go.Proofs.YtndkmnjbjlfeaaaGreat.Mont Go.Proofs.YtndkmnjbjlfeaaaGreat.XS Go.Proofs.YtndkmnjbjlfeaaaGreat.XT Go.Proofs.YtndkmnjbjlfeaaaGreat.XR Go.Proofs.YtndkmnjbjlfeaaaGreat.F06
def kc(l0:List cn)(x:Int):Int:=match l0 with
 |[]=>0
 |F::_=>iv F.p x
theorem xO{l0:List cn}{x:Int}(h:U x):bY.f l0 x=some (kc l0 x):=by
 unfold bY.f kc
 rw[if_pos h]
 cases l0<;>rfl
noncomputable def dE.f(k:Nat)(l0:List cn)(a1:Int)(a2:Bool):Option (List Int×Int):=
 (cq.f k l0 a1 a2).bind fun t=>if(∀x∈t.1,U x)∧t.1.length≤1000000 then some (t.1.map (kc l0),t.2) else none
def mh(l0:List cn)(t:List Int)(i:Nat):List Int:=(t.take i).map (kc l0)++t.drop i
theorem yk(l0:List cn){t:List Int}{i:Nat}(h:i≤t.length):(mh l0 t i).length=t.length:=by
 unfold mh
 rw[List.length_append,List.length_map,List.length_take,List.length_drop]
 omega
theorem zP(l0:List cn){t:List Int}{i:Nat}(h:i<t.length):(mh l0 t i).getD i 0=t[i]:=by
 unfold mh
 have hl:((t.take i).map (kc l0)).length=i:=by rw[List.length_map,List.length_take];omega
 rw[List.getD_eq_getElem?_getD,List.getElem?_append_right (by omega),hl,Nat.sub_self,List.getElem?_drop,Nat.add_zero,List.getElem?_eq_getElem h]
 rfl
theorem yx(l0:List cn){t:List Int}{i:Nat}(h:i<t.length):(mh l0 t i).set i (kc l0 t[i])=mh l0 t (i+1):=by
 unfold mh
 have hl:((t.take i).map (kc l0)).length=i:=by rw[List.length_map,List.length_take];omega
 rw[List.set_append_right _ _ (by omega),hl,Nat.sub_self,List.drop_eq_getElem_cons h,List.set_cons_zero,List.take_succ_eq_append_getElem h,List.map_append,List.append_assoc]
 rfl
set_option maxHeartbeats 4000000 in
set_option maxRecDepth 100000 in
theorem dE.calls(k:Nat)(A0:Option Addr)(c0:Nat)(l0:List (cn))(a1:Int)(a2:Bool)(r1:List Int)(r2:Int)(w:World)(hr0:Kd.C fB w A0 l0.length l0)(hc0:l0.length≤c0)(h:dE.f k l0 a1 a2=some (r1,r2)):
  Calls Tryz.prog 66 #[bh (.slice A0 l0.length c0), .int .i64 a1, .bool a2] w fun e w'=> ∃v0_:Value,e= .returned (.tuple #[v0_, .int .i64 r2])∧Kd.R (Kd.int .u64) 22 w' w.heap.size (fun _=>True) v0_ r1∧Below w.heap.size w w':=by
 unfold dE.f at h
 obtain⟨⟨t1,t2⟩,hA,h⟩:=Option.bind_eq_some_iff.1 h
 simp only at h
 split at h
 case isFalse=>cases h
 rename_i hu
 obtain⟨rfl,rfl⟩:=Prod.mk.inj (Option.some.inj h)
 obtain⟨hu,hn⟩:=hu
 have HA:=aa.mk hA
 have HR0:=aa.mk hr0
 have HC0:=aa.mk hc0
 have HU:=aa.mk hu
 have HN:=aa.mk hn
 clear hA hr0 hc0 hu hn h
 go_enter Tryz.func66,Tryz.ntmps66
 go_wp2_with (first
  |(go_at_call 103;(with_reducible refine(cq.calls k A0 c0 l0 a1 a2 t1 t2 _ HR0.out HC0.out HA.out).mono ?_);rintro e w1 ⟨v1,rfl,ho,hb⟩;obtain⟨A1,c1,rfl⟩:=Kd.cb ho;have HO1:=aa.mk ho;have HB1:=aa.mk hb;clear ho hb))
 clear HA
 go_loopw [21] (fun v21 wr=> ∃(x:Int),v21= .int .i64 x∧0≤x∧x≤(t1.length:Int)∧aa (Kd.R (Kd.int .u64) 22 wr w.heap.size (fun _=>True) (.slice A1 t1.length c1) (mh l0 t1 x.toNat))∧aa (Below w.heap.size w wr)) (fun v21 _=>t1.length-(intOf v21).toNat)
 case atStart=>exact⟨0,rfl,Int.le_refl _,Int.natCast_nonneg _,⟨HO1.out⟩,⟨HB1.out⟩⟩
 case round=>
  clear HO1 HB1
  obtain⟨x,rfl,h0,hx,HO,HB⟩:=hrel
  by_cases hlt:x<(t1.length:Int)
  ·have c1b0:decide (x<(t1.length:Int))=true:=decide_eq_true hlt
   have hi:x.toNat<t1.length:=by omega
   obtain⟨y,hy⟩: ∃y,y=t1[x.toNat]:=⟨_,rfl⟩
   have hL:=xO (l0:=l0) (HU.out y (by rw[hy];exact List.getElem_mem hi))
   have hset:=yx l0 hi
   have hrd:=zP l0 hi
   rw[←hy] at hset hrd
   have HL:=aa.mk hL
   have HS:=aa.mk hset
   have ml:=yk l0 (t:=t1) (i:=x.toNat) (by omega)
   obtain⟨g,cap,eo,gb,gl,HG⟩:=Kd.fY HO.out (by omega)
   injection eo with ea en ec
   subst ea
   have GB:=aa.mk gb
   obtain⟨hx_0,hf_0⟩:=Kd.eE 0 HO.out x h0 hlt
   have erd:uZ 0 (mh l0 t1 x.toNat) x=y:=hrd
   rw[erd] at hx_0
   have p1:=eq_true h0
   have q1:=eq_true hlt
   have HLT:=aa.mk hlt
   have H0:=aa.mk h0
   clear hL hset hrd ml en ec gb gl HG erd hy hi hlt hx h0
   go_wp2_with (first
    |(go_at_call 60;(with_reducible refine(bY.calls A0 c0 l0 y (kc l0 y) _ (Kd.bu HR0.out HB.out) HC0.out HL.out).mono ?_);rintro e w2 ⟨rfl,⟨nd,hnd⟩⟩;have HO2:aa (Kd.R (Kd.int .u64) 22 w2 w.heap.size (fun _=>True) (.slice (some ⟨g,0,none⟩) t1.length c1) (mh l0 t1 x.toNat)):=⟨by rw[hnd];exact Kd.bL HO.out nd⟩;have HB2:aa (Below w.heap.size w w2):=⟨by rw[hnd];exact ay HB.out nd⟩;have hf2:w2.frozen? ⟨g,x.toNat,none⟩=false:=(by rw[hnd];exact hf_0);have hx2:w2.cell? ⟨g,x.toNat,none⟩=some (.int .u64 y):=(by rw[hnd];exact hx_0);clear hnd))
   go_roundw
   case rel=>
    have:=HLT.out
    have:=H0.out
    have hn:=HN.out
    exact⟨x+1,congrArg (Value.int .i64) (cY (x+1) (by omega) (by omega)),by omega,by omega,⟨by rw[show(x+1).toNat=x.toNat+1 by omega,←HS.out];exact(Kd.iF HO2.out x (kc l0 y)).1⟩,⟨cg HB2.out GB.out⟩⟩
   case measure=>
    have:=HLT.out
    have:=H0.out
    have hn:=HN.out
    rw[cY (x+1) (by omega) (by omega)]
    simp[intOf];omega
  ·have c1b0:decide (x<(t1.length:Int))=false:=decide_eq_false hlt
   have hm:mh l0 t1 x.toNat=t1.map (kc l0):=by
    unfold mh
    rw[List.take_of_length_le (by omega),List.drop_eq_nil_of_le (by omega),List.append_nil]
   have HM:=aa.mk hm
   clear hm hlt hx h0
   go_wp2
   go_ret2
   exact⟨_,by first|rfl|(simp;done),by rw[←HM.out];exact HO.out,HB.out⟩
end Go.Proofs.YtndkmnjbjlfeaaaGreat.XW
end
section
namespace Go.Proofs.YtndkmnjbjlfeaaaGreat.XG
open Go.RowKit Go.Proofs.YtndkmnjbjlfeaaaGreat.Given Go.Proofs.YtndkmnjbjlfeaaaGreat.Row05 Go.Proofs.YtndkmnjbjlfeaaaGreat.XS Go.Proofs.YtndkmnjbjlfeaaaGreat.XT Go.Proofs.YtndkmnjbjlfeaaaGreat.XR Go.Proofs.YtndkmnjbjlfeaaaGreat.F06 Go.Proofs.YtndkmnjbjlfeaaaGreat.XK Go.Proofs.YtndkmnjbjlfeaaaGreat.XW Go.Proofs.YtndkmnjbjlfeaaaGreatW.PrintWords Go.Proofs.YtndkmnjbjlfeaaaGreatW.PrintLast Go.Proofs.YtndkmnjbjlfeaaaGreatW.PrintMore
attribute [local go_sem] bU bS ct cr bw bz bP bT
set_option linter.unusedVariables false
set_option linter.unusedSimpArgs false
noncomputable def cL.f(a0:Int)(a1:Int)(a2:Int):Option (Int):=if a1<1 then(some 1) else(if a1>a2 then(some 13) else(if(IntKind.u64.wrap (a1))=0 then(none) else(if(Int.tmod (IntKind.u64.wrap (a0-1)) (IntKind.u64.wrap (a1)))=0 then(some 0) else(some 4))))
set_option maxHeartbeats 8000000 in
set_option maxRecDepth 100000 in
theorem cL.calls(a0:Int)(a1:Int)(a2:Int)(r:Int)(w:World)(h:cL.f a0 a1 a2=some r):
  Calls Tryz.prog 20 #[.int .u64 a0, .int .i64 a1, .int .i64 a2] w fun e w'=>e= .returned (.int .i64 r)∧au w w':=by
 have H:(if a1<1 then(some 1) else(if a1>a2 then(some 13) else(if(IntKind.u64.wrap (a1))=0 then(none) else(if(Int.tmod (IntKind.u64.wrap (a0-1)) (IntKind.u64.wrap (a1)))=0 then(some 0) else(some 4)))))=some r:=h
 clear h
 by_cases c4:a1<1
 ·rw[if_pos c4] at H
  have c4b0:decide (a1<1)=true:=decide_eq_true c4
  clear c4
  obtain rfl:=Option.some.inj H
  go_enter Tryz.func20,Tryz.ntmps20
  go_wp2
  go_ret
  exact⟨by first|rfl|(simp;done)|(simp[*];done),by repeat(first|exact au.refl _|apply au.step)⟩
 ·rw[if_neg c4] at H
  have c4b0:decide (a1<1)=false:=decide_eq_false c4
  clear c4
  by_cases c5:a1>a2
  ·rw[if_pos c5] at H
   have c5b0:decide (a2<a1)=true:=decide_eq_true c5
   clear c5
   obtain rfl:=Option.some.inj H
   go_enter Tryz.func20,Tryz.ntmps20
   go_wp2
   go_ret
   exact⟨by first|rfl|(simp;done)|(simp[*];done),by repeat(first|exact au.refl _|apply au.step)⟩
  ·rw[if_neg c5] at H
   have c5b0:decide (a2<a1)=false:=decide_eq_false c5
   clear c5
   by_cases c6:(IntKind.u64.wrap (a1))=0
   ·rw[if_pos c6] at H
    exact absurd H (by simp)
   ·rw[if_neg c6] at H
    have c6b0:((IntKind.u64.wrap (a1))==0)=false:=beq_eq_false_iff_ne.mpr c6
    have c6b1:((IntKind.u64.wrap (a1)) !=0)=true:=bne_iff_ne.mpr c6
    by_cases c7:(Int.tmod (IntKind.u64.wrap (a0-1)) (IntKind.u64.wrap (a1)))=0
    ·rw[if_pos c7] at H
     have c7b0:((Int.tmod (IntKind.u64.wrap (a0-1)) (IntKind.u64.wrap (a1)))==0)=true:=beq_iff_eq.mpr c7
     have c7b1:((Int.tmod (IntKind.u64.wrap (a0-1)) (IntKind.u64.wrap (a1))) !=0)=false:=bne_eq_false_iff_eq.mpr c7
     clear c7
     obtain rfl:=Option.some.inj H
     go_enter Tryz.func20,Tryz.ntmps20
     go_wp2
     go_ret
     exact⟨by first|rfl|(simp;done)|(simp[*];done),by repeat(first|exact au.refl _|apply au.step)⟩
    ·rw[if_neg c7] at H
     have c7b0:((Int.tmod (IntKind.u64.wrap (a0-1)) (IntKind.u64.wrap (a1)))==0)=false:=beq_eq_false_iff_ne.mpr c7
     have c7b1:((Int.tmod (IntKind.u64.wrap (a0-1)) (IntKind.u64.wrap (a1))) !=0)=true:=bne_iff_ne.mpr c7
     obtain rfl:=Option.some.inj H
     go_enter Tryz.func20,Tryz.ntmps20
     go_wp2
     go_ret
     exact⟨by first|rfl|(simp;done)|(simp[*];done),by repeat(first|exact au.refl _|apply au.step)⟩
noncomputable def bA.l0:Nat→Int→List Int→Int→Int→Option (Bool)
 |0,_,_,_,_=>none
 |k+1,x0,x7,x8,x9=>if x9<x8 then(if 0≤x9 then(if x9<(x7.length:Int) then(if(rd x7 x9)≥x0 then(some false) else(bA.l0 k x0 x7 x8 (wrap64 (x9+1)))) else(none)) else(none)) else(some true)
noncomputable def bA.f(k:Nat)(a0:Int)(l1:List Int):Option (Bool):=bA.l0 k a0 l1 (l1.length:Int) 0
set_option maxHeartbeats 8000000 in
set_option maxRecDepth 100000 in
theorem bA.calls(k:Nat)(a0:Int)(A1:Option Addr)(c1:Nat)(l1:List Int)(r:Bool)(w:World)(hr1:Kd.C (Kd.int .u64) w A1 l1.length l1)(hc1:l1.length≤c1)(h:bA.f k a0 l1=some r):
  Calls Tryz.prog 21 #[.int .u64 a0, .slice A1 l1.length c1] w fun e w'=>e= .returned (.bool r)∧au w w':=by
 have HR1:=aa.mk hr1
 have HC1:=aa.mk hc1
 clear hr1 hc1
 have H:(bA.l0 k a0 l1 (l1.length:Int) 0)=some r:=h
 clear h
 have H':=aa.mk H
 clear H
 go_enter Tryz.func21,Tryz.ntmps21
 go_wp2
 go_loopg [9] k (fun kq v9 w'=> ∃(x9_1:Int),v9= .int .i64 x9_1∧aa (bA.l0 kq a0 l1 (l1.length:Int) x9_1=some r)∧aa (kq≤k)∧au w w')
 case atStart=>exact⟨(0),(by first|rfl|(simp;done)|(simp[*];done)),H',⟨Nat.le_refl _⟩,by repeat(first|exact au.refl _|apply au.step)⟩
 case round=>
  clear H'
  try clear c1
  try clear c2
  try clear p2
  obtain⟨x9_1,rfl,HA,HK1,⟨m1,rfl⟩⟩:=hrel
  cases gk with
  |zero=>exact absurd HA.out (by simp[bA.l0])
  |succ k1=>
   have H:=HA.out
   clear HA
   simp only[bA.l0] at H
   by_cases c3:x9_1<(l1.length:Int)
   ·rw[if_pos c3] at H
    have c3b0:decide (x9_1<(l1.length:Int))=true:=decide_eq_true c3
    clear c3
    by_cases c4:0≤x9_1
    ·rw[if_pos c4] at H
     have c4b0:decide (0≤x9_1)=true:=decide_eq_true c4
     clear c4
     by_cases c5:x9_1<(l1.length:Int)
     ·rw[if_pos c5] at H
      have c5b0:decide (x9_1<(l1.length:Int))=true:=decide_eq_true c5
      clear c5
      by_cases c6:(rd l1 x9_1)≥a0
      ·rw[if_pos c6] at H
       have c6b0:decide (a0≤(rd l1 x9_1))=true:=decide_eq_true c6
       clear c6
       obtain rfl:=Option.some.inj H
       have p179:0≤(x9_1:Int):=of_decide_eq_true (by first|(with_reducible assumption)|assumption)
       have q179:x9_1<(l1.length:Int):=of_decide_eq_true (by first|(with_reducible assumption)|assumption)
       obtain⟨ad179,e179,hx179_0⟩:=Kd.cR HR1.out x9_1 p179 q179
       cases e179
       replace p179:=eq_true p179
       replace q179:=eq_true q179
       go_wp2
       go_ret
       exact⟨by first|rfl|(simp;done)|(simp[*];done),by repeat(first|exact au.refl _|apply au.step)⟩
      ·rw[if_neg c6] at H
       have c6b0:decide (a0≤(rd l1 x9_1))=false:=decide_eq_false c6
       clear c6
       have H':=aa.mk H
       clear H
       have p179:0≤(x9_1:Int):=of_decide_eq_true (by first|(with_reducible assumption)|assumption)
       have q179:x9_1<(l1.length:Int):=of_decide_eq_true (by first|(with_reducible assumption)|assumption)
       obtain⟨ad179,e179,hx179_0⟩:=Kd.cR HR1.out x9_1 p179 q179
       cases e179
       replace p179:=eq_true p179
       replace q179:=eq_true q179
       go_wp2
       go_roundg k1
       case measure=>have:=HK1.out;omega
       case rel=>exact⟨(wrap64 (x9_1+1)),(by first|rfl|(simp;done)|(simp[*];done)),H',⟨by have:=HK1.out;omega⟩,by repeat(first|exact au.refl _|apply au.step)⟩
     ·rw[if_neg c5] at H
      exact absurd H (by simp)
    ·rw[if_neg c4] at H
     exact absurd H (by simp)
   ·rw[if_neg c3] at H
    have c3b0:decide (x9_1<(l1.length:Int))=false:=decide_eq_false c3
    clear c3
    obtain rfl:=Option.some.inj H
    go_wp2
    go_ret
    exact⟨by first|rfl|(simp;done)|(simp[*];done),by repeat(first|exact au.refl _|apply au.step)⟩
end Go.Proofs.YtndkmnjbjlfeaaaGreat.XG
end
section
namespace Go.Proofs.YtndkmnjbjlfeaaaGreat.XG
open Go.RowKit Go.Proofs.YtndkmnjbjlfeaaaGreat.Given Go.Proofs.YtndkmnjbjlfeaaaGreat.Row05 Go.Proofs.YtndkmnjbjlfeaaaGreat.XS Go.Proofs.YtndkmnjbjlfeaaaGreat.XT Go.Proofs.YtndkmnjbjlfeaaaGreat.XR Go.Proofs.YtndkmnjbjlfeaaaGreat.F06 Go.Proofs.YtndkmnjbjlfeaaaGreat.XK Go.Proofs.YtndkmnjbjlfeaaaGreat.XW Go.Proofs.YtndkmnjbjlfeaaaGreatW.PrintWords Go.Proofs.YtndkmnjbjlfeaaaGreatW.PrintLast Go.Proofs.YtndkmnjbjlfeaaaGreatW.PrintMore
attribute [local go_sem] bU bS ct cr bw bz bP bT
set_option linter.unusedVariables false
set_option linter.unusedSimpArgs false
end Go.Proofs.YtndkmnjbjlfeaaaGreat.XG
end
section
namespace Go.Proofs.YtndkmnjbjlfeaaaGreat.T10
open Go Go.RowKit Go.Proofs.YtndkmnjbjlfeaaaGreatW.PrintWords Go.Proofs.YtndkmnjbjlfeaaaGreatW.PrintLast Go.Proofs.YtndkmnjbjlfeaaaGreatW.PrintMore Go.Proofs.YtndkmnjbjlfeaaaGreat.Given Go.Proofs.YtndkmnjbjlfeaaaGreat.M Go.Proofs.YtndkmnjbjlfeaaaGreat.Mont Go.Proofs.YtndkmnjbjlfeaaaGreat.XS Go.Proofs.YtndkmnjbjlfeaaaGreat.XT Go.Proofs.YtndkmnjbjlfeaaaGreat.XR Go.Proofs.YtndkmnjbjlfeaaaGreat.Num Go.Proofs.YtndkmnjbjlfeaaaGreat.XK Go.Proofs.YtndkmnjbjlfeaaaGreat.F06 Go.Proofs.YtndkmnjbjlfeaaaGreat.XW Go.Proofs.YtndkmnjbjlfeaaaGreat.XG
set_option linter.unusedVariables false
theorem zQ{F:cn}(hg:aJ F)(w:Int)(n:Nat): ∀x∈kZ F.p w n,U x:=fun x hx=>by
 unfold kZ at hx
 obtain⟨i,_,rfl⟩:=List.mem_map.1 hx
 exact hg.uE _
theorem n6{F:cn}(hg:aJ F){n:Int}(h1:1≤n)(h2:n≤4096)(hd:(F.p-1)%n=0)(inv:Bool):Ev (fun k=>dE.f k [F] n inv) ((kZ F.p (ca F n inv) n.toNat).map (iv F.p),0):=by
 refine Ev.congr (fun k=>rfl) (Ev.bind (wo hg h1 h2 hd inv) (dG ⟨zQ hg _ _,by rw[iM];omega⟩ (Ev.now _)))
end Go.Proofs.YtndkmnjbjlfeaaaGreat.T10
end
section
namespace Go.Proofs.YtndkmnjbjlfeaaaGreat.XG
open Go.RowKit Go.Proofs.YtndkmnjbjlfeaaaGreat.Given Go.Proofs.YtndkmnjbjlfeaaaGreat.Row05 Go.Proofs.YtndkmnjbjlfeaaaGreat.XS Go.Proofs.YtndkmnjbjlfeaaaGreat.XT Go.Proofs.YtndkmnjbjlfeaaaGreat.XR Go.Proofs.YtndkmnjbjlfeaaaGreat.F06 Go.Proofs.YtndkmnjbjlfeaaaGreat.XK Go.Proofs.YtndkmnjbjlfeaaaGreat.XW Go.Proofs.YtndkmnjbjlfeaaaGreatW.PrintWords Go.Proofs.YtndkmnjbjlfeaaaGreatW.PrintLast Go.Proofs.YtndkmnjbjlfeaaaGreatW.PrintMore
attribute [local go_sem] bU bS ct cr bw bz bP bT
set_option linter.unusedVariables false
set_option linter.unusedSimpArgs false
noncomputable def da.f(l0:List (cn))(a1:Int)(a2:Int):Option (Int):=if(l0.length:Int)=0 then(some 2) else(if a1<1 then(some 1) else(if a1>a2 then(some 13) else((cX.f l0 a1).bind fun t101=>(if t101=true then(some 0) else(some 4)))))
set_option maxHeartbeats 8000000 in
set_option maxRecDepth 100000 in
theorem da.calls(A0:Option Addr)(c0:Nat)(l0:List (cn))(a1:Int)(a2:Int)(r:Int)(w:World)(hr0:Kd.C fB w A0 l0.length l0)(hc0:l0.length≤c0)(h:da.f l0 a1 a2=some r):
  Calls Tryz.prog 23 #[bh (.slice A0 l0.length c0), .int .i64 a1, .int .i64 a2] w fun e w'=>e= .returned (.int .i64 r)∧au w w':=by
 have HR0:=aa.mk hr0
 have HC0:=aa.mk hc0
 clear hr0 hc0
 have H:=h;unfold da.f at H
 clear h
 by_cases c4:(l0.length:Int)=0
 ·rw[if_pos c4] at H
  have c4b0:=beq_iff_eq.mpr c4
  have c4b1:=bne_eq_false_iff_eq.mpr c4
  have hT_HR0:=jh A0 c0 (show l0.length=0 by omega)
  (try rw[hT_HR0])
  clear c4
  obtain rfl:=Option.some.inj H
  go_enter Tryz.func23,Tryz.ntmps23
  go_wp2
  go_ret
  exact⟨a8,dk⟩
 ·rw[if_neg c4] at H
  have c4b0:=beq_eq_false_iff_ne.mpr c4
  have c4b1:=bne_iff_ne.mpr c4
  have c4b2: ¬(l0=[]):=fun h_=>c4 (by rw[h_];rfl)
  obtain⟨aT_HR0,hT_HR0⟩:=jS A0 c0 (show¬(l0.length=0) by omega)
  (try rw[hT_HR0])
  by_cases c5:a1<1
  ·rw[if_pos c5] at H
   have c5b0:=decide_eq_true c5
   clear c5
   obtain rfl:=Option.some.inj H
   go_enter Tryz.func23,Tryz.ntmps23
   go_wp2
   go_ret
   exact⟨a8,dk⟩
  ·rw[if_neg c5] at H
   have c5b0:=decide_eq_false c5
   clear c5
   by_cases c6:a1>a2
   ·rw[if_pos c6] at H
    have c6b0:=decide_eq_true c6
    clear c6
    obtain rfl:=Option.some.inj H
    go_enter Tryz.func23,Tryz.ntmps23
    go_wp2
    go_ret
    exact⟨a8,dk⟩
   ·rw[if_neg c6] at H
    have c6b0:=decide_eq_false c6
    clear c6
    replace H:=Option.bind_eq_some_iff.mp H
    obtain⟨t101,A70,H⟩:=H
    (try dsimp only at H)
    have A7:=aa.mk A70
    clear A70
    by_cases c8:t101=true
    ·subst c8
     have H1:=H;rw[if_pos rfl] at H1
     clear H
     have H:=H1
     clear H1
     obtain rfl:=Option.some.inj H
     go_enter Tryz.func23,Tryz.ntmps23
     go_wp2_with (first|((with_reducible refine aM (f:=58) rfl ?_);refine cj (some 20) rfl rfl Tryz.func58 (by kernel_rfl) rfl #[bh (.slice A0 l0.length c0), .int .i64 a1] rfl (jy hT_HR0) ?_;(try rw[←hT_HR0]);(with_reducible refine(cX.calls _ _ l0 a1 true _ ?side1 ?side2 A7.out).mono ?_);(case side1=>exact cw HR0.out);(case side2=>exact HC0.out);rintro e w' ⟨rfl,⟨nd,rfl⟩⟩;refine⟨_,rfl,?_⟩))
     go_ret
     exact⟨a8,dk⟩
    ·replace c8:=Bool.eq_false_iff.mpr c8
     subst c8
     have H1:=H;rw[if_neg (show¬(false=true) by decide)] at H1
     clear H
     have H:=H1
     clear H1
     obtain rfl:=Option.some.inj H
     go_enter Tryz.func23,Tryz.ntmps23
     go_wp2_with (first|((with_reducible refine aM (f:=58) rfl ?_);refine cj (some 20) rfl rfl Tryz.func58 (by kernel_rfl) rfl #[bh (.slice A0 l0.length c0), .int .i64 a1] rfl (jy hT_HR0) ?_;(try rw[←hT_HR0]);(with_reducible refine(cX.calls _ _ l0 a1 false _ ?side1 ?side2 A7.out).mono ?_);(case side1=>exact cw HR0.out);(case side2=>exact HC0.out);rintro e w' ⟨rfl,⟨nd,rfl⟩⟩;refine⟨_,rfl,?_⟩))
     go_ret
     exact⟨a8,dk⟩
noncomputable def cJ.l0:Nat→List (cn)→List Int→Int→Int→Option (Bool)
 |0,_,_,_,_=>none
 |k+1,x0,x7,x8,x9=>if x9<x8 then(if 0≤x9 then(if x9<(x7.length:Int) then((dt.f x0 (rd x7 x9)).bind fun t103=>(if t103=true then(cJ.l0 k x0 x7 x8 (wrap64 (x9+1))) else(some false))) else(none)) else(none)) else(if(x0.length:Int)=0 then(some false) else(some true))
noncomputable def cJ.f(k:Nat)(l0:List (cn))(l1:List Int):Option (Bool):=if(l0.length:Int)=0 then(cJ.l0 k l0 l1 (l1.length:Int) 0) else(cJ.l0 k l0 l1 (l1.length:Int) 0)
set_option maxHeartbeats 8000000 in
set_option maxRecDepth 100000 in
theorem cJ.calls(k:Nat)(A0:Option Addr)(c0:Nat)(l0:List (cn))(A1:Option Addr)(c1:Nat)(l1:List Int)(r:Bool)(w:World)(hr0:Kd.C fB w A0 l0.length l0)(hc0:l0.length≤c0)(hr1:Kd.C (Kd.int .u64) w A1 l1.length l1)(hc1:l1.length≤c1)(h:cJ.f k l0 l1=some r):
  Calls Tryz.prog 24 #[bh (.slice A0 l0.length c0), .slice A1 l1.length c1] w fun e w'=>e= .returned (.bool r)∧au w w':=by
 have HR0:=aa.mk hr0
 have HC0:=aa.mk hc0
 clear hr0 hc0
 have HR1:=aa.mk hr1
 have HC1:=aa.mk hc1
 clear hr1 hc1
 have H:=h;unfold cJ.f at H
 clear h
 by_cases c3:(l0.length:Int)=0
 ·rw[if_pos c3] at H
  have c3b0:=beq_iff_eq.mpr c3
  have c3b1:=bne_eq_false_iff_eq.mpr c3
  have hT_HR0:=jh A0 c0 (show l0.length=0 by omega)
  (try rw[hT_HR0])
  clear c3
  have H':=aa.mk H
  clear H
  go_enter Tryz.func24,Tryz.ntmps24
  go_wp2
  go_loopg [9] k (fun kq v9 w'=> ∃(x9_1:Int),v9= .int .i64 x9_1∧aa (cJ.l0 kq l0 l1 (l1.length:Int) x9_1=some r)∧aa (kq≤k)∧au w w')
  case atStart=>exact⟨(0),a8,H',⟨Nat.le_refl _⟩,dk⟩
  case round=>
   clear H'
   obtain⟨x9_1,rfl,HA,HK1,⟨m1,rfl⟩⟩:=hrel
   cases gk with
   |zero=>exact absurd HA.out (by simp[cJ.l0])
   |succ k1=>
    have H:=HA.out
    clear HA
    simp only[cJ.l0] at H
    by_cases c4:x9_1<(l1.length:Int)
    ·rw[if_pos c4] at H
     have c4b0:=decide_eq_true c4
     clear c4
     by_cases c5:0≤x9_1
     ·rw[if_pos c5] at H
      have c5b0:=decide_eq_true c5
      clear c5
      by_cases c6:x9_1<(l1.length:Int)
      ·rw[if_pos c6] at H
       have c6b0:=decide_eq_true c6
       clear c6
       replace H:=Option.bind_eq_some_iff.mp H
       obtain⟨t103,A70,H⟩:=H
       (try dsimp only at H)
       have A7:=aa.mk A70
       clear A70
       by_cases c8:t103=true
       ·subst c8
        have H1:=H;rw[if_pos rfl] at H1
        clear H
        have H:=H1
        clear H1
        have H':=aa.mk H
        clear H
        have p102:0≤(x9_1:Int):=of_decide_eq_true (by assumption)
        have q102:x9_1<(l1.length:Int):=of_decide_eq_true (by assumption)
        obtain⟨ad102,e102,hx102_0⟩:=Kd.cR HR1.out x9_1 p102 q102
        cases e102
        replace p102:=eq_true p102
        replace q102:=eq_true q102
        go_wp2_with (first|((with_reducible refine aM (f:=59) rfl ?_);refine cj (some 15) rfl rfl Tryz.func59 (by kernel_rfl) rfl #[bh (.slice A0 l0.length c0), .int .u64 (rd l1 x9_1)] rfl (jy hT_HR0) ?_;(try rw[←hT_HR0]);(with_reducible refine(dt.calls _ _ l0 (rd l1 x9_1) true _ ?side1 ?side2 A7.out).mono ?_);(case side1=>exact cw HR0.out);(case side2=>exact HC0.out);rintro e w' ⟨rfl,⟨nd,rfl⟩⟩;refine⟨_,rfl,?_⟩))
        go_roundg k1
        case measure=>have:=HK1.out;omega
        case rel=>exact⟨(wrap64 (x9_1+1)),a8,H',⟨by have:=HK1.out;omega⟩,dk⟩
       ·replace c8:=Bool.eq_false_iff.mpr c8
        subst c8
        have H1:=H;rw[if_neg (show¬(false=true) by decide)] at H1
        clear H
        have H:=H1
        clear H1
        obtain rfl:=Option.some.inj H
        have p102:0≤(x9_1:Int):=of_decide_eq_true (by assumption)
        have q102:x9_1<(l1.length:Int):=of_decide_eq_true (by assumption)
        obtain⟨ad102,e102,hx102_0⟩:=Kd.cR HR1.out x9_1 p102 q102
        cases e102
        replace p102:=eq_true p102
        replace q102:=eq_true q102
        go_wp2_with (first|((with_reducible refine aM (f:=59) rfl ?_);refine cj (some 15) rfl rfl Tryz.func59 (by kernel_rfl) rfl #[bh (.slice A0 l0.length c0), .int .u64 (rd l1 x9_1)] rfl (jy hT_HR0) ?_;(try rw[←hT_HR0]);(with_reducible refine(dt.calls _ _ l0 (rd l1 x9_1) false _ ?side1 ?side2 A7.out).mono ?_);(case side1=>exact cw HR0.out);(case side2=>exact HC0.out);rintro e w' ⟨rfl,⟨nd,rfl⟩⟩;refine⟨_,rfl,?_⟩))
        go_ret
        exact⟨a8,dk⟩
      ·rw[if_neg c6] at H
       exact absurd H (by simp)
     ·rw[if_neg c5] at H
      exact absurd H (by simp)
    ·rw[if_neg c4] at H
     have c4b0:=decide_eq_false c4
     clear c4
     by_cases c9:(l0.length:Int)=0
     ·rw[if_pos c9] at H
      have c9b0:=beq_iff_eq.mpr c9
      have c9b1:=bne_eq_false_iff_eq.mpr c9
      have hT_HR0:=jh A0 c0 (show l0.length=0 by omega)
      (try rw[hT_HR0])
      clear c9
      obtain rfl:=Option.some.inj H
      go_wp2
      go_ret
      exact⟨a8,dk⟩
     ·rw[if_neg c9] at H
      have c9b0:=beq_eq_false_iff_ne.mpr c9
      have c9b1:=bne_iff_ne.mpr c9
      have c9b2: ¬(l0=[]):=fun h_=>c9 (by rw[h_];rfl)
      obtain⟨_,hq_⟩:=jS A0 c0 (show¬(l0.length=0) by omega)
      exact absurd (hT_HR0.symm.trans hq_) (by simp)
 ·rw[if_neg c3] at H
  have c3b0:=beq_eq_false_iff_ne.mpr c3
  have c3b1:=bne_iff_ne.mpr c3
  have c3b2: ¬(l0=[]):=fun h_=>c3 (by rw[h_];rfl)
  obtain⟨aT_HR0,hT_HR0⟩:=jS A0 c0 (show¬(l0.length=0) by omega)
  (try rw[hT_HR0])
  have H':=aa.mk H
  clear H
  go_enter Tryz.func24,Tryz.ntmps24
  go_wp2
  go_loopg [9] k (fun kq v9 w'=> ∃(x9_1:Int),v9= .int .i64 x9_1∧aa (cJ.l0 kq l0 l1 (l1.length:Int) x9_1=some r)∧aa (kq≤k)∧au w w')
  case atStart=>exact⟨(0),a8,H',⟨Nat.le_refl _⟩,dk⟩
  case round=>
   clear H'
   try clear hx1
   try clear hx102_0
   obtain⟨x9_1,rfl,HA,HK1,⟨m1,rfl⟩⟩:=hrel
   cases gk with
   |zero=>exact absurd HA.out (by simp[cJ.l0])
   |succ k1=>
    have H:=HA.out
    clear HA
    simp only[cJ.l0] at H
    by_cases ek:x9_1<(l1.length:Int)
    ·rw[if_pos ek] at H
     have c10b0:=decide_eq_true ek
     clear ek
     by_cases eW:0≤x9_1
     ·rw[if_pos eW] at H
      have c11b0:=decide_eq_true eW
      clear eW
      by_cases iR:x9_1<(l1.length:Int)
      ·rw[if_pos iR] at H
       have c12b0:=decide_eq_true iR
       clear iR
       replace H:=Option.bind_eq_some_iff.mp H
       obtain⟨t103,A130,H⟩:=H
       (try dsimp only at H)
       have A13:=aa.mk A130
       clear A130
       by_cases fa:t103=true
       ·subst fa
        have H1:=H;rw[if_pos rfl] at H1
        clear H
        have H:=H1
        clear H1
        have H':=aa.mk H
        clear H
        have p102:0≤(x9_1:Int):=of_decide_eq_true (by assumption)
        have q102:x9_1<(l1.length:Int):=of_decide_eq_true (by assumption)
        obtain⟨ad102,e102,hx102_0⟩:=Kd.cR HR1.out x9_1 p102 q102
        cases e102
        replace p102:=eq_true p102
        replace q102:=eq_true q102
        go_wp2_with (first|((with_reducible refine aM (f:=59) rfl ?_);refine cj (some 15) rfl rfl Tryz.func59 (by kernel_rfl) rfl #[bh (.slice A0 l0.length c0), .int .u64 (rd l1 x9_1)] rfl (jy hT_HR0) ?_;(try rw[←hT_HR0]);(with_reducible refine(dt.calls _ _ l0 (rd l1 x9_1) true _ ?side1 ?side2 A13.out).mono ?_);(case side1=>exact cw HR0.out);(case side2=>exact HC0.out);rintro e w' ⟨rfl,⟨nd,rfl⟩⟩;refine⟨_,rfl,?_⟩))
        go_roundg k1
        case measure=>have:=HK1.out;omega
        case rel=>exact⟨(wrap64 (x9_1+1)),a8,H',⟨by have:=HK1.out;omega⟩,dk⟩
       ·replace fa:=Bool.eq_false_iff.mpr fa
        subst fa
        have H1:=H;rw[if_neg (show¬(false=true) by decide)] at H1
        clear H
        have H:=H1
        clear H1
        obtain rfl:=Option.some.inj H
        have p102:0≤(x9_1:Int):=of_decide_eq_true (by assumption)
        have q102:x9_1<(l1.length:Int):=of_decide_eq_true (by assumption)
        obtain⟨ad102,e102,hx102_0⟩:=Kd.cR HR1.out x9_1 p102 q102
        cases e102
        replace p102:=eq_true p102
        replace q102:=eq_true q102
        go_wp2_with (first|((with_reducible refine aM (f:=59) rfl ?_);refine cj (some 15) rfl rfl Tryz.func59 (by kernel_rfl) rfl #[bh (.slice A0 l0.length c0), .int .u64 (rd l1 x9_1)] rfl (jy hT_HR0) ?_;(try rw[←hT_HR0]);(with_reducible refine(dt.calls _ _ l0 (rd l1 x9_1) false _ ?side1 ?side2 A13.out).mono ?_);(case side1=>exact cw HR0.out);(case side2=>exact HC0.out);rintro e w' ⟨rfl,⟨nd,rfl⟩⟩;refine⟨_,rfl,?_⟩))
        go_ret
        exact⟨a8,dk⟩
      ·rw[if_neg iR] at H
       exact absurd H (by simp)
     ·rw[if_neg eW] at H
      exact absurd H (by simp)
    ·rw[if_neg ek] at H
     have c10b0:=decide_eq_false ek
     clear ek
     by_cases iK:(l0.length:Int)=0
     ·rw[if_pos iK] at H
      have c15b0:=beq_iff_eq.mpr iK
      have c15b1:=bne_eq_false_iff_eq.mpr iK
      have hq_:=jh A0 c0 (show l0.length=0 by omega)
      exact absurd (hT_HR0.symm.trans hq_) (by simp)
     ·rw[if_neg iK] at H
      have c15b0:=beq_eq_false_iff_ne.mpr iK
      have c15b1:=bne_iff_ne.mpr iK
      have c15b2: ¬(l0=[]):=fun h_=>iK (by rw[h_];rfl)
      obtain⟨aT_HR0,hT_HR0⟩:=jS A0 c0 (show¬(l0.length=0) by omega)
      (try rw[hT_HR0])
      obtain rfl:=Option.some.inj H
      go_wp2
      go_ret
      exact⟨a8,dk⟩
noncomputable def db.l0:Nat→List (cn)→Int→List Int→List Int→Int→Int→Option (List Int)
 |0,_,_,_,_,_,_=>none
 |k+1,x0,x5,x6,x19,x20,x21=>if x21<x20 then(if 0≤x21 then(if x21<(x19.length:Int) then((bb.f x0 x5 (rd x19 x21)).bind fun t110=>(if x21<(x6.length:Int) then(db.l0 k x0 x5 (x6.set (x21:Int).toNat t110) x19 x20 (wrap64 (x21+1))) else(none))) else(none)) else(none)) else(some x6)
noncomputable def db.f(k:Nat)(l0:List (cn))(l1:List Int):Option (List Int):=(cN.f l0 (IntKind.u64.wrap ((l1.length:Int)))).bind fun t104=>((bY.f l0 t104).bind fun t105=>(if 0≤(l1.length:Int) then(if((l1.length:Int):Int).toNat≤35184372088832 then(db.l0 k l0 t105 (List.replicate ((l1.length:Int):Int).toNat 0) l1 (l1.length:Int) 0) else(none)) else(none)))
set_option maxHeartbeats 8000000 in
set_option maxRecDepth 100000 in
theorem db.calls(k:Nat)(A0:Option Addr)(c0:Nat)(l0:List (cn))(A1:Option Addr)(c1:Nat)(l1:List Int)(r:List Int)(w:World)(hr0:Kd.C fB w A0 l0.length l0)(hc0:l0.length≤c0)(hr1:Kd.C (Kd.int .u64) w A1 l1.length l1)(hc1:l1.length≤c1)(h:db.f k l0 l1=some r):
  Calls Tryz.prog 25 #[bh (.slice A0 l0.length c0), .slice A1 l1.length c1] w fun e w'=> ∃v0_:Value,e= .returned (v0_)∧Kd.R (Kd.int .u64) 22 w' w.heap.size (fun _=>True) v0_ r∧Below w.heap.size w w':=by
 have HR0:=aa.mk hr0
 have HC0:=aa.mk hc0
 clear hr0 hc0
 have HR1:=aa.mk hr1
 have HC1:=aa.mk hc1
 clear hr1 hc1
 have HB:=aa.mk (Below.refl w.heap.size w)
 have H:=h;unfold db.f at H
 clear h
 replace H:=Option.bind_eq_some_iff.mp H
 obtain⟨t104,A30,H⟩:=H
 (try dsimp only at H)
 have A3:=aa.mk A30
 clear A30
 replace H:=Option.bind_eq_some_iff.mp H
 obtain⟨t105,A40,H⟩:=H
 (try dsimp only at H)
 have A4:=aa.mk A40
 clear A40
 by_cases c5:0≤(l1.length:Int)
 ·rw[if_pos c5] at H
  have c5b0:=eq_true c5
  have c5b1:=decide_eq_true c5
  clear c5
  by_cases c6:((l1.length:Int):Int).toNat≤35184372088832
  ·rw[if_pos c6] at H
   have c6b0:=eq_true c6
   have c6b1:=decide_eq_true c6
   clear c6
   obtain⟨y106,hy106⟩: ∃y_:List Int,y_=(List.replicate ((l1.length:Int):Int).toNat 0):=⟨_,rfl⟩
   replace H:(db.l0 k l0 t105 y106 l1 (l1.length:Int) 0)=some r:=by first|(rw[hy106];with_reducible exact H)|(have H2_:=(Option.bind_some _ _).symm.trans H;rw[hy106];with_reducible exact H2_)|(have H2_:=(Option.bind_some _ _).symm.trans H;with_reducible exact H2_)|with_reducible exact H|(rw[hy106];exact H)|exact H
   have Ny106:=aa.mk hy106
   clear hy106
   have H':=aa.mk H
   clear H
   go_enter Tryz.func25,Tryz.ntmps25
   go_wp2_with (first|((with_reducible refine aM (f:=61) rfl ?_);refine cj (some 14) rfl rfl Tryz.func61 (by kernel_rfl) rfl #[bh (.slice A0 l0.length c0), .int .u64 (IntKind.u64.wrap ((l1.length:Int)))] rfl (by(try simp only[List.map_toArray,List.map_cons,List.map_nil]);first|done|(rw[hT_HR0]<;>rfl)|rfl|(simp only[List.length_drop,List.length_take];rfl)) ?_;(try rw[←hT_HR0]);(with_reducible refine(cN.calls _ _ l0 (IntKind.u64.wrap ((l1.length:Int))) t104 _ ?side1 ?side2 A3.out).mono ?_);(case side1=>exact cw HR0.out);(case side2=>exact HC0.out);rintro e w' ⟨rfl,⟨nd,rfl⟩⟩;refine⟨_,rfl,?_⟩)|((with_reducible refine aM (f:=60) rfl ?_);refine cj (some 15) rfl rfl Tryz.func60 (by kernel_rfl) rfl #[bh (.slice A0 l0.length c0), .int .u64 t104] rfl (by(try simp only[List.map_toArray,List.map_cons,List.map_nil]);first|done|(rw[hT_HR0]<;>rfl)|rfl|(simp only[List.length_drop,List.length_take];rfl)) ?_;(try rw[←hT_HR0]);(with_reducible refine(bY.calls _ _ l0 t104 t105 _ ?side1 ?side2 A4.out).mono ?_);(case side1=>exact cw HR0.out);(case side2=>exact HC0.out);rintro e w' ⟨rfl,⟨nd,rfl⟩⟩;refine⟨_,rfl,?_⟩)|((with_reducible refine bk (N:=18) rfl ?_);refine Kd.jc (Kd.int .u64) _ 22 rfl (N:=18) rfl 26 _ _ rfl (l1.length:Int) rfl rfl Tryz.underlying26 (.int .u64 0) 8 gE rfl (by decide) (by omega) 0 (ok:=fun _=>True) (okp:=fun _=>True) rfl (fun _ hk=>hk) trivial (of_decide_eq_true (by assumption)) (Nat.le_trans (Nat.mul_le_mul_right _ (of_decide_eq_true (by assumption):(l1.length:Int).toNat≤35184372088832)) (by omega)) (Below.refl _ _) (Nat.le_refl _) ?_;intro v107 w7 ho8 hb hg_ hnew_;clear hg_ hnew_;(first|rw[←Ny106.out] at ho8|(simp only[Int.reduceToNat] at ho8;rw[←Ny106.out] at ho8));have n0_:=aa.mk (Kd.bN ho8 (ai ak));have n1_:=aa.mk (ah ak hb);clear HB;have HO108:=n0_;have HB:=n1_;clear n0_ n1_;clear hb ho8))
   go_loopg [21] k (fun kq v21 w'=> ∃(x6_1:List Int) (x21_1:Int),v21= .int .i64 x21_1∧aa (db.l0 kq l0 t105 x6_1 l1 (l1.length:Int) x21_1=some r)∧aa (kq≤k)∧aa (Kd.R (Kd.int .u64) 22 w' w.heap.size (fun _=>True) v107 x6_1)∧aa (Below w.heap.size w w'))
   case atStart=>exact⟨(y106),(0),a8,H',⟨Nat.le_refl _⟩,⟨bK HO108.out⟩,⟨ak⟩⟩
   case round=>
    clear H'
    obtain⟨x6_1,x21_1,rfl,HA,HK1,HO_6,HB⟩:=hrel
    cases gk with
    |zero=>exact absurd HA.out (by simp[db.l0])
    |succ k1=>
     have H:=HA.out
     clear HA
     simp only[db.l0] at H
     by_cases c9:x21_1<(l1.length:Int)
     ·rw[if_pos c9] at H
      have c9b0:=decide_eq_true c9
      clear c9
      by_cases ek:0≤x21_1
      ·rw[if_pos ek] at H
       have c10b0:=decide_eq_true ek
       clear ek
       by_cases eW:x21_1<(l1.length:Int)
       ·rw[if_pos eW] at H
        have c11b0:=decide_eq_true eW
        clear eW
        replace H:=Option.bind_eq_some_iff.mp H
        obtain⟨t110,A120,H⟩:=H
        (try dsimp only at H)
        have A12:=aa.mk A120
        clear A120
        by_cases iG:x21_1<(x6_1.length:Int)
        ·rw[if_pos iG] at H
         have c13b0:=decide_eq_true iG
         clear iG
         obtain⟨y111,hy111⟩: ∃y_:List Int,y_=(x6_1.set (x21_1:Int).toNat t110):=⟨_,rfl⟩
         replace H:(db.l0 k1 l0 t105 y111 l1 (l1.length:Int) (wrap64 (x21_1+1)))=some r:=by first|(rw[hy111];with_reducible exact H)|(have H2_:=(Option.bind_some _ _).symm.trans H;rw[hy111];with_reducible exact H2_)|(have H2_:=(Option.bind_some _ _).symm.trans H;with_reducible exact H2_)|with_reducible exact H|(rw[hy111];exact H)|exact H
         have Ny111:=aa.mk hy111
         clear hy111
         have H':=aa.mk H
         clear H
         have p109:0≤(x21_1:Int):=of_decide_eq_true (by assumption)
         have q109:x21_1<(l1.length:Int):=of_decide_eq_true (by assumption)
         obtain⟨ad109,e109,hx109_0⟩:=Kd.cR HR1.out x21_1 p109 q109
         cases e109
         replace hx109_0:=dP HB.out hx109_0
         replace p109:=eq_true p109
         replace q109:=eq_true q109
         go_wp2_with (first|((with_reducible refine aM (f:=62) rfl ?_);refine cj (some 31) rfl rfl Tryz.func62 (by kernel_rfl) rfl #[bh (.slice A0 l0.length c0), .int .u64 t105, .int .u64 (rd l1 x21_1)] rfl (by(try simp only[List.map_toArray,List.map_cons,List.map_nil]);first|done|(rw[hT_HR0]<;>rfl)|rfl|(simp only[List.length_drop,List.length_take];rfl)) ?_;(try rw[←hT_HR0]);(with_reducible refine(bb.calls _ _ l0 t105 (rd l1 x21_1) t110 _ ?side1 ?side2 A12.out).mono ?_);(case side1=>exact cw (Kd.bu HR0.out HB.out));(case side2=>exact HC0.out);rintro e w' ⟨rfl,⟨nd,rfl⟩⟩;refine⟨_,rfl,?_⟩;(try(rw[ks wr];generalize hq_:World.drewN wr _=wr;have n0_:aa (Kd.R (Kd.int .u64) 22 wr w.heap.size (fun _=>True) v107 x6_1):=⟨by rw[←hq_];exact(bK HO_6.out)⟩;have n1_:aa (Below w.heap.size w wr):=⟨by rw[←hq_];exact ak⟩;clear HO_6 HB hq_;have HO_6:=n0_;have HB:=n1_;clear n0_ n1_));have p14:0≤(x21_1:Int):=of_decide_eq_true (by assumption);have q14:(x21_1:Int)<((x6_1.length:Int):Int):=of_decide_eq_true (by assumption);obtain⟨go14,co14,eo14,gb14,gl14,cl14,HG14⟩:=Kd.fY HO_6.out (by omega);(first|cases eo14|(injection eo14 with ea_ en_ ec_;(first|subst ea_|(injection ea_ with ea_;subst ea_));subst ec_;clear en_));have GB14:=aa.mk gb14;have GG14:=aa.mk HG14;clear gb14 gl14 HG14;obtain⟨hx14_0,hf14_0⟩:=Kd.eE 0 HO_6.out (x21_1:Int) p14 q14;replace p14:=eq_true p14;replace q14:=eq_true q14;obtain⟨hy15_,hz15_⟩:=Kd.eE 0 HO_6.out (x21_1:Int) (of_decide_eq_true (by assumption)) (of_decide_eq_true (by assumption));have HP15:=Kd.iF HO_6.out (x21_1:Int) t110)|((with_reducible refine eQ (t:=22) (p:=32) rfl ?_);refine eC (t:=22) (p:=32) (v:=?vo_w16) (w1:=(wr.setCell ⟨go14,(x21_1:Int).toNat,none⟩ (.int .u64 t110))) ?hg ?ho ?hn ?hr ?_;(case ho=>rfl);(case hg=>rfl);(case hn=>rfl);(case hr=>first|(go_simp;done)|(go_simp;rfl));intro w16 hw;have hg:wr.grownBy w16 (some go14):=(by rw[hw];exact HP15.2);have hp_:Kd.R (Kd.int .u64) 22 w16 w.heap.size (fun _=>True) (.slice (some ⟨go14,0,none⟩) x6_1.length co14) y111:=(by rw[hw,Ny111.out];exact HP15.1);clear HP15;have n0_:=aa.mk (hp_);have n1_:=aa.mk ((by rw[hw];exact cg (HB.out) GB14.out:Below w.heap.size w w16));clear HO_6;clear HB;have HO_6:=n0_;have HB:=n1_;clear n0_ n1_;clear hg hw hp_))
         go_roundg k1
         case measure=>have:=HK1.out;omega
         case rel=>exact⟨(y111),(wrap64 (x21_1+1)),a8,H',⟨by have:=HK1.out;omega⟩,⟨bK HO_6.out⟩,⟨ak⟩⟩
        ·rw[if_neg iG] at H
         exact absurd H (by simp)
       ·rw[if_neg eW] at H
        exact absurd H (by simp)
      ·rw[if_neg ek] at H
       exact absurd H (by simp)
     ·rw[if_neg c9] at H
      have c9b0:=decide_eq_false c9
      clear c9
      obtain rfl:=Option.some.inj H
      go_wp2
      go_ret
      exact⟨_,a8,bK HO_6.out,ak⟩
  ·rw[if_neg c6] at H
   exact absurd H (by simp)
 ·rw[if_neg c5] at H
  exact absurd H (by simp)
end Go.Proofs.YtndkmnjbjlfeaaaGreat.XG
end
section
namespace Go.Proofs.YtndkmnjbjlfeaaaGreat.XG
open Go.RowKit Go.Proofs.YtndkmnjbjlfeaaaGreat.Given Go.Proofs.YtndkmnjbjlfeaaaGreat.Row05 Go.Proofs.YtndkmnjbjlfeaaaGreat.XS Go.Proofs.YtndkmnjbjlfeaaaGreat.XT Go.Proofs.YtndkmnjbjlfeaaaGreat.XR Go.Proofs.YtndkmnjbjlfeaaaGreat.F06 Go.Proofs.YtndkmnjbjlfeaaaGreat.XK Go.Proofs.YtndkmnjbjlfeaaaGreat.XW Go.Proofs.YtndkmnjbjlfeaaaGreatW.PrintWords Go.Proofs.YtndkmnjbjlfeaaaGreatW.PrintLast Go.Proofs.YtndkmnjbjlfeaaaGreatW.PrintMore
attribute [local go_sem] bU bS ct cr bw bz bP bT
set_option linter.unusedVariables false
set_option linter.unusedSimpArgs false
mutual
noncomputable def bW.l0:Nat→List (cn)→List Int→Int→List Int→List Int→Int→Int→Option (List Int)
 |0,_,_,_,_,_,_,_=>none
 |k+1,x0,x1,x7,x8,x10,x27,x28=>if x28<x27 then(bW.l1 k x0 x1 x7 x8 x10 x28 0 x27 x28 x1 (x1.length:Int) 0) else(some x10)
noncomputable def bW.l1:Nat→List (cn)→List Int→Int→List Int→List Int→Int→Int→Int→Int→List Int→Int→Int→Option (List Int)
 |0,_,_,_,_,_,_,_,_,_,_,_,_=>none
 |k+1,x0,x1,x7,x8,x10,x11,x12,x27,x28,x31,x32,x33=>if x33<x32 then(if 0≤x33 then(if x33<(x31.length:Int) then(if 0≤x11 then(if x11<(x10.length:Int) then(if 0≤x12 then(if x12<(x8.length:Int) then((bb.f x0 (rd x8 x12) (rd x31 x33)).bind fun t122=>((cM.f x0 (rd x10 x11) t122).bind fun t123=>(if x7=0 then(none) else(bW.l1 k x0 x1 x7 x8 (x10.set (x11:Int).toNat t123) x11 (Int.tmod (wrap64 (x12+x11)) x7) x27 x28 x31 x32 (wrap64 (x33+1)))))) else(none)) else(none)) else(none)) else(none)) else(none)) else(none)) else(bW.l0 k x0 x1 x7 x8 x10 x27 (wrap64 (x28+1)))
end
noncomputable def bW.f(k:Nat)(l0:List (cn))(l1:List Int)(a2:Bool):Option (List Int):=(dE.f k l0 (l1.length:Int) a2).bind fun bt112=>(if 0≤(l1.length:Int) then(if((l1.length:Int):Int).toNat≤35184372088832 then((some (List.replicate ((l1.length:Int):Int).toNat 0:List Int)).bind fun y116=>(bW.l0 k l0 l1 (l1.length:Int) bt112.1 y116 (y116.length:Int) 0)) else(none)) else(none))
def bW.Bg:Bool×List (List Nat×List Nat):=(true,[([],[]),([],[]),([],[]),([],[]),([],[]),([3,4],[3,4]),([5],[5]),([],[]),([],[]),([],[]),([8,9],[8,9]),([10],[10]),([],[]),([7,11,12],[7,11,12]),([2,6,13,13],[2,6,13]),([0,1,0,1,2,3,4,5,6,7,8,9,10,11,12,13,14],[0,1]),([15,14,14,0,1,2,3,4,5,6,7,8,9,10,11,12,13,14],[14,15])])
def bW.Bh:List Nat:=[0,0,0,0,0,24,56,0,0,0,768,1792,0,8064,16380,32767,65535]
theorem bW.zV:fX .any (opsOf Tryz.f53 11)=bW.Bg:=by kernel_rfl
theorem bW.zA:fC bW.Bg.2 bW.Bh=true:=by kernel_rfl
set_option maxHeartbeats 8000000 in
set_option maxRecDepth 100000 in
theorem bW.calls(k:Nat)(A0:Option Addr)(c0:Nat)(l0:List (cn))(A1:Option Addr)(c1:Nat)(l1:List Int)(a2:Bool)(r:List Int)(w:World)(hr0:Kd.C fB w A0 l0.length l0)(hc0:l0.length≤c0)(hr1:Kd.C (Kd.int .u64) w A1 l1.length l1)(hc1:l1.length≤c1)(h:bW.f k l0 l1 a2=some r):
  Calls Tryz.prog 53 #[bh (.slice A0 l0.length c0), .slice A1 l1.length c1, .bool a2] w fun e w'=> ∃v0_:Value,e= .returned (v0_)∧Kd.R (Kd.int .u64) 22 w' w.heap.size (fun _=>True) v0_ r∧Below w.heap.size w w':=by
 have HR0:=aa.mk hr0
 have HC0:=aa.mk hc0
 clear hr0 hc0
 have HR1:=aa.mk hr1
 have HC1:=aa.mk hc1
 clear hr1 hc1
 have HB:=aa.mk (Below.refl w.heap.size w)
 have H:=h;unfold bW.f at H
 clear h
 replace H:=Option.bind_eq_some_iff.mp H
 obtain⟨⟨t112,t113⟩,A40,H⟩:=H
 (try dsimp only at H)
 have A4:=aa.mk A40
 clear A40
 by_cases c5:0≤(l1.length:Int)
 ·rw[if_pos c5] at H
  have c5b0:=eq_true c5
  have c5b1:=decide_eq_true c5
  clear c5
  by_cases c6:((l1.length:Int):Int).toNat≤35184372088832
  ·rw[if_pos c6] at H
   have c6b0:=eq_true c6
   have c6b1:=decide_eq_true c6
   clear c6
   obtain⟨y116,hy116⟩: ∃y_:List Int,y_=(List.replicate ((l1.length:Int):Int).toNat 0):=⟨_,rfl⟩
   replace H:(bW.l0 k l0 l1 (l1.length:Int) t112 y116 (y116.length:Int) 0)=some r:=by first|(rw[hy116];with_reducible exact H)|(have H2_:=(Option.bind_some _ _).symm.trans H;rw[hy116];with_reducible exact H2_)|(have H2_:=(Option.bind_some _ _).symm.trans H;with_reducible exact H2_)|with_reducible exact H|(rw[hy116];exact H)|exact H
   have Ny116:=aa.mk hy116
   clear hy116
   have H':=aa.mk H
   clear H
   go_enter Tryz.func53,Tryz.ntmps53
   go_wp2_with (first|((with_reducible refine aM (f:=66) rfl ?_);refine cj (some 21) rfl rfl Tryz.func66 (by kernel_rfl) rfl #[bh (.slice A0 l0.length c0), .int .i64 (l1.length:Int), .bool a2] rfl (by(try simp only[List.map_toArray,List.map_cons,List.map_nil]);first|done|(rw[hT_HR0]<;>rfl)|rfl|(simp only[List.length_drop,List.length_take];rfl)) ?_;(try rw[←hT_HR0]);(with_reducible refine(dE.calls k _ _ l0 (l1.length:Int) a2 t112 t113 _ ?side1 ?side2 A4.out).mono ?_);(case side1=>exact cw HR0.out);(case side2=>exact HC0.out);rintro e w7 ⟨v114,rfl,ho0,hb⟩;refine⟨_,rfl,?_⟩;have n0_:=aa.mk (Kd.bN ho0 (ai ak));have n1_:=aa.mk (ah ak hb);clear HB;have HO115:=n0_;have HB:=n1_;clear n0_ n1_;(try clear ho0))|((with_reducible refine bk (N:=25) rfl ?_);refine Kd.jc (Kd.int .u64) _ 22 rfl (N:=25) rfl 26 _ _ rfl (l1.length:Int) rfl rfl Tryz.underlying26 (.int .u64 0) 8 gE rfl (by decide) (by omega) 0 (ok:=fun _=>True) (okp:=fun _=>True) rfl (fun _ hk=>hk) trivial (of_decide_eq_true (by assumption)) (Nat.le_trans (Nat.mul_le_mul_right _ (of_decide_eq_true (by assumption):(l1.length:Int).toNat≤35184372088832)) (by omega)) (Below.refl _ _) (Nat.le_refl _) ?_;intro v117 w8 ho9 hb hg_ hnew_;clear hg_ hnew_;(first|rw[←Ny116.out] at ho9|(simp only[Int.reduceToNat] at ho9;rw[←Ny116.out] at ho9));have n0_:=aa.mk (Kd.dm (bK HO115.out) (Kd.dS ho9) hb);have n1_:=aa.mk (Kd.bN (Kd.eD ho9 (Kd.ik (bK HO115.out))) (ai ak));have n2_:=aa.mk (ah ak hb);clear HO115;clear HB;have HO115:=n0_;have HO118:=n1_;have HB:=n2_;clear n0_ n1_ n2_;clear hb ho9;obtain⟨Ao10,co10,eo10⟩:=Kd.cb HO118.out;subst eo10))
   go_loopg [28] k (fun kq v28 w'=> ∃(x10_1:List Int) (x28_1:Int),v28= .int .i64 x28_1∧aa (bW.l0 kq l0 l1 (l1.length:Int) t112 x10_1 (y116.length:Int) x28_1=some r)∧aa (kq≤k)∧aa (Kd.R (Kd.int .u64) 22 w' w.heap.size (fun k_=>some k_≠((.slice Ao10 y116.length co10):Value).ownBlock) v114 t112)∧aa (Kd.R (Kd.int .u64) 22 w' w.heap.size (fun k_=>some k_≠(v114:Value).ownBlock) (.slice Ao10 y116.length co10) x10_1)∧aa (Below w.heap.size w w'))
   case atStart=>exact⟨(y116),(0),a8,H',⟨Nat.le_refl _⟩,⟨by(with_reducible repeat(first|apply Kd.bI|apply Kd.bL|apply Kd.bM));exact Kd.bE HO115.out (fun _ hk=>hk.2)⟩,⟨by(with_reducible repeat(first|apply Kd.bI|apply Kd.bL|apply Kd.bM));exact Kd.bE HO118.out (fun _ hk=>hk.2)⟩,⟨ak⟩⟩
   case round=>
    clear H'
    obtain⟨x10_1,x28_1,rfl,HA,HK1,HO_8,HO_10,HB⟩:=hrel
    have hl10_1:=(Kd.aT HO_10.out).1
    rw[hl10_1] at HO_10
    (try simp only[hl10_1])
    (try simp only[hl10_1] at HO_8)
    cases gk with
    |zero=>exact absurd HA.out (by simp[bW.l0])
    |succ k1=>
     have H:=HA.out
     clear HA
     simp only[bW.l0] at H
     by_cases eW:x28_1<(y116.length:Int)
     ·rw[if_pos eW] at H
      have c11b0:=decide_eq_true eW
      (try(have c11b0hl10_1:=c11b0;simp only[hl10_1] at c11b0hl10_1))
      clear eW
      have H':=aa.mk H
      clear H
      go_wp2
      go_loopg [12,33] k1 (fun kq v12 v33 w'=> ∃(x10_2:List Int) (x12_2:Int) (x33_2:Int),v12= .int .i64 x12_2∧v33= .int .i64 x33_2∧aa (bW.l1 kq l0 l1 (l1.length:Int) t112 x10_2 x28_1 x12_2 (y116.length:Int) x28_1 l1 (l1.length:Int) x33_2=some r)∧aa (kq≤k1)∧aa (Kd.R (Kd.int .u64) 22 w' w.heap.size (fun k_=>some k_≠((.slice Ao10 x10_1.length co10):Value).ownBlock) v114 t112)∧aa (Kd.R (Kd.int .u64) 22 w' w.heap.size (fun k_=>some k_≠(v114:Value).ownBlock) (.slice Ao10 x10_1.length co10) x10_2)∧aa (Below w.heap.size w w'))
      case atStart=>exact⟨(x10_1),(0),(0),a8,a8,H',⟨Nat.le_refl _⟩,⟨by(try simp only[hl10_1]);(with_reducible repeat(first|apply Kd.bI|apply Kd.bL|apply Kd.bM));exact HO_8.out⟩,⟨by(try simp only[hl10_1]);(with_reducible repeat(first|apply Kd.bI|apply Kd.bL|apply Kd.bM));exact HO_10.out⟩,⟨ak⟩⟩
      case round=>
       clear H'
       obtain⟨x10_2,x12_2,x33_2,rfl,rfl,HA,HK2,HO_8,HO_10,HB⟩:=hrel
       have hl10_2:=(Kd.aT HO_10.out).1
       rw[hl10_2] at HO_10
       (try simp only[hl10_2])
       (try simp only[hl10_2] at HO_8)
       cases gk with
       |zero=>exact absurd HA.out (by simp[bW.l1])
       |succ k2=>
        have H:=HA.out
        clear HA
        simp only[bW.l1] at H
        by_cases iR:x33_2<(l1.length:Int)
        ·rw[if_pos iR] at H
         have c12b0:=decide_eq_true iR
         (try(have c12b0hl10_1:=c12b0;simp only[hl10_1] at c12b0hl10_1))
         (try(have c12b0hl10_2:=c12b0;simp only[hl10_2] at c12b0hl10_2))
         clear iR
         by_cases iG:0≤x33_2
         ·rw[if_pos iG] at H
          have c13b0:=decide_eq_true iG
          clear iG
          by_cases fa:x33_2<(l1.length:Int)
          ·rw[if_pos fa] at H
           have c14b0:=decide_eq_true fa
           (try(have c14b0hl10_1:=c14b0;simp only[hl10_1] at c14b0hl10_1))
           (try(have c14b0hl10_2:=c14b0;simp only[hl10_2] at c14b0hl10_2))
           clear fa
           by_cases iK:0≤x28_1
           ·rw[if_pos iK] at H
            have c15b0:=decide_eq_true iK
            clear iK
            by_cases jx:x28_1<(x10_2.length:Int)
            ·rw[if_pos jx] at H
             have c16b0:=decide_eq_true jx
             (try(have c16b0hl10_1:=c16b0;simp only[hl10_1] at c16b0hl10_1))
             (try(have c16b0hl10_2:=c16b0;simp only[hl10_2] at c16b0hl10_2))
             clear jx
             by_cases gC:0≤x12_2
             ·rw[if_pos gC] at H
              have c17b0:=decide_eq_true gC
              clear gC
              by_cases ji:x12_2<(t112.length:Int)
              ·rw[if_pos ji] at H
               have c18b0:=decide_eq_true ji
               (try(have c18b0hl10_1:=c18b0;simp only[hl10_1] at c18b0hl10_1))
               (try(have c18b0hl10_2:=c18b0;simp only[hl10_2] at c18b0hl10_2))
               clear ji
               replace H:=Option.bind_eq_some_iff.mp H
               obtain⟨t122,A190,H⟩:=H
               (try dsimp only at H)
               have A19:=aa.mk A190
               clear A190
               replace H:=Option.bind_eq_some_iff.mp H
               obtain⟨t123,A200,H⟩:=H
               (try dsimp only at H)
               have A20:=aa.mk A200
               clear A200
               obtain⟨y124,hy124⟩: ∃y_:List Int,y_=(x10_2.set (x28_1:Int).toNat t123):=⟨_,rfl⟩
               replace H:(if(l1.length:Int)=0 then(none) else(bW.l1 k2 l0 l1 (l1.length:Int) t112 y124 x28_1 (Int.tmod (wrap64 (x12_2+x28_1)) (l1.length:Int)) (y116.length:Int) x28_1 l1 (l1.length:Int) (wrap64 (x33_2+1))))=some r:=by first|(rw[hy124];with_reducible exact H)|(have H2_:=(Option.bind_some _ _).symm.trans H;rw[hy124];with_reducible exact H2_)|(have H2_:=(Option.bind_some _ _).symm.trans H;with_reducible exact H2_)|with_reducible exact H|(rw[hy124];exact H)|exact H
               have Ny124:=aa.mk hy124
               clear hy124
               by_cases mA:(l1.length:Int)=0
               ·rw[if_pos mA] at H
                exact absurd H (by simp)
               ·rw[if_neg mA] at H
                have c22b0:=beq_eq_false_iff_ne.mpr mA
                have c22b1:=bne_iff_ne.mpr mA
                have c22b2: ¬(l1=[]):=fun h_=>mA (by rw[h_];rfl)
                (try(have c22b0hl10_1:=c22b0;simp only[hl10_1] at c22b0hl10_1))
                (try(have c22b1hl10_1:=c22b1;simp only[hl10_1] at c22b1hl10_1))
                (try(have c22b0hl10_2:=c22b0;simp only[hl10_2] at c22b0hl10_2))
                (try(have c22b1hl10_2:=c22b1;simp only[hl10_2] at c22b1hl10_2))
                have H':=aa.mk H
                clear H
                have p119:0≤(x33_2:Int):=of_decide_eq_true (by assumption)
                have q119:x33_2<(l1.length:Int):=of_decide_eq_true (by assumption)
                obtain⟨ad119,e119,hx119_0⟩:=Kd.cR HR1.out x33_2 p119 q119
                cases e119
                replace hx119_0:=dP HB.out hx119_0
                replace p119:=eq_true p119
                replace q119:=eq_true q119
                try go_wp2
                have n0_:=aa.mk (Kd.bM HO_8.out)
                have n1_:=aa.mk (Kd.bM HO_10.out)
                have n2_:=aa.mk (bs HB.out)
                clear HO_8
                clear HO_10
                clear HB
                have HO_8:=n0_
                have HO_10:=n1_
                have HB:=n2_
                clear n0_ n1_ n2_
                have p120:0≤(x28_1:Int):=of_decide_eq_true (by assumption)
                have q120:x28_1<(x10_2.length:Int):=of_decide_eq_true (by assumption)
                obtain⟨ad120,e120,hx120_0⟩:=Kd.cR (Kd.aT HO_10.out).2.2 x28_1 p120 q120
                cases e120
                replace p120:=eq_true p120
                replace q120:=eq_true q120
                obtain⟨Ao24,co24,eo24⟩:=Kd.cb HO_8.out
                (first|subst eo24|(injection eo24 with f1_ f2_ f3_;have f4_:=f1_.symm;have f5_:=f3_.symm;clear f1_ f2_ f3_;subst f4_;subst f5_))
                have p121:0≤(x12_2:Int):=of_decide_eq_true (by assumption)
                have q121:x12_2<(t112.length:Int):=of_decide_eq_true (by assumption)
                obtain⟨ad121,e121,hx121_0⟩:=Kd.cR (Kd.aT HO_8.out).2.2 x12_2 p121 q121
                cases e121
                replace p121:=eq_true p121
                replace q121:=eq_true q121
                refine fF (n:=17) (S:=fun w'=>w'.cell? (ad120.add (x28_1).toNat)=some (.int .u64 (rd x10_2 x28_1))∧w'.cell? (ad121.add (x12_2).toNat)=some (.int .u64 (rd t112 x12_2))) (ds:=[16]) #[false,false,false,false,false,false,false,false,false,false,false,false,false,false,false,false,false] (by kernel_rfl) rfl rfl ⟨hx120_0,hx121_0⟩ (fun hHeld=>?_);refine dV bW.zV bW.zA (fun HT_ HW_=>?_)
                generalize wr.drew=w23 at HO_8 HO_10 HB hx120_0 hx121_0 hHeld ⊢
                refine dd 0 37 HT_ rfl rfl ?_
                refine dd 1 38 HT_ rfl rfl ?_
                refine dd 2 39 HT_ rfl rfl ?_
                refine dd 3 40 HT_ rfl rfl ?_
                refine dd 4 41 HT_ rfl rfl ?_
                refine dd 5 42 HT_ rfl rfl ?_
                refine dd 7 44 HT_ rfl rfl ?_
                refine dd 8 45 HT_ rfl rfl ?_
                refine dd 9 46 HT_ rfl rfl ?_
                refine dd 10 47 HT_ rfl rfl ?_
                refine dd 12 49 HT_ rfl rfl ?_
                refine jk 6 43 (ch HT_.out HW_.out (by kernel_rfl)) hHeld (by rintro w' ⟨s0,s1⟩;go_simp;with_reducible rfl) rfl rfl ?_
                refine jk 11 48 (ch HT_.out HW_.out (by kernel_rfl)) hHeld (by rintro w' ⟨s0,s1⟩;go_simp;with_reducible rfl) rfl rfl ?_
                refine jz (i:=13) (N:=some 50) #[true,true,true,true,true,true,true,true,true,true,true,true,true,true,false,false,false] rfl rfl (eT HT_.out (by kernel_rfl)) (by decide) (fun K hK=>?_)
                refine gB Tryz.func62 (by kernel_rfl) rfl #[bh (.slice A0 l0.length c0), .int .u64 (rd t112 x12_2), .int .u64 (rd l1 x33_2)] (by rfl) rfl rfl (by(try simp only[List.map_toArray,List.map_cons,List.map_nil]);first|done|(rw[hT_HR0]<;>rfl)|(rw[hT_HR0]<;>rfl)|rfl|(simp only[List.length_drop,List.length_take];rfl)) ?_
                (try rw[←hT_HR0])
                with_reducible refine(bb.calls _ _ l0 (rd t112 x12_2) (rd l1 x33_2) t122 _ ?side1 ?side2 A19.out).mono ?_
                (case side1=>exact cw (Kd.bu HR0.out HB.out))
                (case side2=>exact HC0.out)
                rintro e w' ⟨rfl,⟨nd,rfl⟩⟩
                refine⟨_,rfl,?_⟩
                refine hK.out _ _ ⟨hHeld.1,hHeld.2⟩ (fun hHeld=>?_)
                clear hK K
                refine qK ?_
                refine jz (i:=14) (N:=some 51) #[true,true,true,true,true,true,true,true,true,true,true,true,true,true,true,false,false] rfl rfl (eT HT_.out (by kernel_rfl)) (by decide) (fun K hK=>?_)
                refine gB Tryz.func96 (by kernel_rfl) rfl #[bh (.slice A0 l0.length c0), .int .u64 (rd x10_2 x28_1), .int .u64 t122] (by rfl) rfl rfl (by(try simp only[List.map_toArray,List.map_cons,List.map_nil]);first|done|(rw[hT_HR0]<;>rfl)|(rw[hT_HR0]<;>rfl)|rfl|(simp only[List.length_drop,List.length_take];rfl)) ?_
                (try rw[←hT_HR0])
                with_reducible refine(cM.calls _ _ l0 (rd x10_2 x28_1) t122 t123 _ ?side1 ?side2 A20.out).mono ?_
                (case side1=>exact cw (Kd.bu HR0.out ak))
                (case side2=>exact HC0.out)
                rintro e w' ⟨rfl,⟨nd,rfl⟩⟩
                refine⟨_,rfl,?_⟩
                have p21:0≤(x28_1:Int):=of_decide_eq_true (by assumption)
                have q21:(x28_1:Int)<((x10_2.length:Int):Int):=of_decide_eq_true (by assumption)
                obtain⟨go21,co21,eo21,gb21,gl21,cl21,HG21⟩:=Kd.fY HO_10.out (by omega)
                (first|cases eo21|(injection eo21 with ea_ en_ ec_;(first|subst ea_|(injection ea_ with ea_;subst ea_));subst ec_;clear en_))
                have GB21:=aa.mk gb21
                have GG21:=aa.mk HG21
                clear gb21 gl21 HG21
                (first|simp only[add_plain] at hx120_0|skip)
                obtain⟨hx21_0,hf21_0⟩:=Kd.eE 0 HO_10.out (x28_1:Int) p21 q21
                replace p21:=eq_true p21
                replace q21:=eq_true q21
                have HP25:=Kd.oY HO_10.out (x28_1:Int) t123
                rw[←Ny124.out] at HP25
                have HQ25:=aa.mk HP25
                clear HP25
                refine hK.out _ _ ⟨hHeld.1,hHeld.2⟩ (fun hHeld=>?_)
                clear hK K
                refine qK ?_
                refine dd 15 52 HT_ rfl rfl ?_
                refine pR (i:=16) (N:=none) #[true,true,true,true,true,true,true,true,true,true,true,true,true,true,true,true,true] rfl rfl (eT HT_.out (by kernel_rfl)) (by decide) (fun K hK=>?_)
                refine qD (w1:=?_) (by rfl) rfl ?_ ?_
                rotate_left
                ·go_simp
                 rfl
                refine hK.out _ _ ?_
                clear hK K
                refine gQ (fA HT_.out (by kernel_rfl)) ?_
                try go_wp2
                (try simp only[←hl10_2])
                go_roundg k2
                case measure=>have:=HK1.out;have:=HK2.out;omega
                case rel=>exact⟨(y124),(Int.tmod (wrap64 (x12_2+x28_1)) (l1.length:Int)),(wrap64 (x33_2+1)),a8,a8,H',⟨by have:=HK1.out;have:=HK2.out;omega⟩,⟨by(try simp only[hl10_1]);(try simp only[hl10_2]);(with_reducible repeat(first|apply Kd.bI|apply Kd.bL|apply Kd.bM));exact Kd.bE (Kd.mT (p:=⟨go21,(x28_1:Int).toNat,none⟩) (Kd.bE HO_8.out (fun k_ hk=>(⟨hk,fun e_=>hk (by rw[e_];rfl)⟩:_∧k_≠go21))) (fun _ hk=>hk.2) (.int .u64 t123)) (fun _ hk=>hk.1)⟩,⟨by(try simp only[hl10_1]);(try simp only[hl10_2]);(with_reducible repeat(first|apply Kd.bI|apply Kd.bL|apply Kd.bM));exact HQ25.out⟩,⟨by repeat(first|(with_reducible first|exact HB.out|apply aQ|apply ay|apply bs|refine cg ?_ GB21.out)|exact HB.out)⟩⟩
              ·rw[if_neg ji] at H
               exact absurd H (by simp)
             ·rw[if_neg gC] at H
              exact absurd H (by simp)
            ·rw[if_neg jx] at H
             exact absurd H (by simp)
           ·rw[if_neg iK] at H
            exact absurd H (by simp)
          ·rw[if_neg fa] at H
           exact absurd H (by simp)
         ·rw[if_neg iG] at H
          exact absurd H (by simp)
        ·rw[if_neg iR] at H
         have c12b0:=decide_eq_false iR
         (try(have c12b0hl10_1:=c12b0;simp only[hl10_1] at c12b0hl10_1))
         (try(have c12b0hl10_2:=c12b0;simp only[hl10_2] at c12b0hl10_2))
         clear iR
         have H':=aa.mk H
         clear H
         go_wp2
         (try simp only[←hl10_1,←hl10_2])
         go_roundg k2
         case measure=>have:=HK1.out;have:=HK2.out;omega
         case rel=>exact⟨(x10_2),(wrap64 (x28_1+1)),a8,H',⟨by have:=HK1.out;have:=HK2.out;omega⟩,⟨by(try simp only[hl10_1]);(try simp only[hl10_2]);(with_reducible repeat(first|apply Kd.bI|apply Kd.bL|apply Kd.bM));exact HO_8.out⟩,⟨by(try simp only[hl10_1]);(try simp only[hl10_2]);(with_reducible repeat(first|apply Kd.bI|apply Kd.bL|apply Kd.bM));exact HO_10.out⟩,⟨ak⟩⟩
     ·rw[if_neg eW] at H
      have c11b0:=decide_eq_false eW
      (try(have c11b0hl10_1:=c11b0;simp only[hl10_1] at c11b0hl10_1))
      clear eW
      obtain rfl:=Option.some.inj H
      go_wp2
      go_ret
      exact⟨_,a8,by(with_reducible repeat(first|apply Kd.bI|apply Kd.bL|apply Kd.bM));exact Kd.bE HO_10.out (fun _ hk=>trivial),ak⟩
  ·rw[if_neg c6] at H
   exact absurd H (by simp)
 ·rw[if_neg c5] at H
  exact absurd H (by simp)
noncomputable def jU.f(k:Nat)(l0:List (cn))(l1:List Int)(a2:Bool):Option (List Int×Int):=(da.f l0 (l1.length:Int) 1024).bind fun t125=>(if t125=0 then((cJ.f k l0 l1).bind fun t126=>(if t126=true then((bW.f k l0 l1 a2).bind fun t127=>(if a2=true then((db.f k l0 t127).bind fun t130=>(some (t130,0))) else(some (t127,0)))) else(some (([]:List Int),9)))) else(some (([]:List Int),t125)))
set_option maxHeartbeats 8000000 in
set_option maxRecDepth 100000 in
theorem jU.calls(k:Nat)(A0:Option Addr)(c0:Nat)(l0:List (cn))(A1:Option Addr)(c1:Nat)(l1:List Int)(a2:Bool)(r1:List Int)(r2:Int)(w:World)(hr0:Kd.C fB w A0 l0.length l0)(hc0:l0.length≤c0)(hr1:Kd.C (Kd.int .u64) w A1 l1.length l1)(hc1:l1.length≤c1)(h:jU.f k l0 l1 a2=some (r1,r2)):
  Calls Tryz.prog 18 #[bh (.slice A0 l0.length c0), .slice A1 l1.length c1, .bool a2] w fun e w'=> ∃v0_:Value,e= .returned (.tuple #[v0_, .int .i64 r2])∧Kd.R (Kd.int .u64) 22 w' w.heap.size (fun _=>True) v0_ r1∧Below w.heap.size w w':=by
 have HR0:=aa.mk hr0
 have HC0:=aa.mk hc0
 clear hr0 hc0
 have HR1:=aa.mk hr1
 have HC1:=aa.mk hc1
 clear hr1 hc1
 have HB:=aa.mk (Below.refl w.heap.size w)
 have H:=h;unfold jU.f at H
 clear h
 replace H:=Option.bind_eq_some_iff.mp H
 obtain⟨t125,A40,H⟩:=H
 (try dsimp only at H)
 have A4:=aa.mk A40
 clear A40
 by_cases c5:t125=0
 ·rw[if_pos c5] at H
  have c5b0:=beq_iff_eq.mpr c5
  have c5b1:=bne_eq_false_iff_eq.mpr c5
  clear c5
  replace H:=Option.bind_eq_some_iff.mp H
  obtain⟨t126,A60,H⟩:=H
  (try dsimp only at H)
  have A6:=aa.mk A60
  clear A60
  by_cases c7:t126=true
  ·subst c7
   have H1:=H;rw[if_pos rfl] at H1
   clear H
   have H:=H1
   clear H1
   replace H:=Option.bind_eq_some_iff.mp H
   obtain⟨t127,A80,H⟩:=H
   (try dsimp only at H)
   have A8:=aa.mk A80
   clear A80
   by_cases c9:a2=true
   ·subst c9
    have H1:=H;rw[if_pos rfl] at H1
    clear H
    have H:=H1
    clear H1
    replace H:=Option.bind_eq_some_iff.mp H
    obtain⟨t130,A100,H⟩:=H
    (try dsimp only at H)
    have A10:=aa.mk A100
    clear A100
    simp only[Option.some.injEq,Prod.mk.injEq] at H
    obtain⟨rfl,rfl⟩:=H
    go_enter Tryz.func18,Tryz.ntmps18
    go_wp2_with (first|((with_reducible refine aM (f:=23) rfl ?_);refine cj (some 13) rfl rfl Tryz.func23 (by kernel_rfl) rfl #[bh (.slice A0 l0.length c0), .int .i64 (l1.length:Int), .int .i64 1024] rfl (by(try simp only[List.map_toArray,List.map_cons,List.map_nil]);first|done|(rw[hT_HR0]<;>rfl)|rfl|(simp only[List.length_drop,List.length_take];rfl)) ?_;(try rw[←hT_HR0]);(with_reducible refine(da.calls _ _ l0 (l1.length:Int) 1024 t125 _ ?side1 ?side2 A4.out).mono ?_);(case side1=>exact cw HR0.out);(case side2=>exact HC0.out);rintro e w' ⟨rfl,⟨nd,rfl⟩⟩;refine⟨_,rfl,?_⟩)|((with_reducible refine aM (f:=24) rfl ?_);refine cj (some 19) rfl rfl Tryz.func24 (by kernel_rfl) rfl #[bh (.slice A0 l0.length c0), .slice A1 l1.length c1] rfl (by(try simp only[List.map_toArray,List.map_cons,List.map_nil]);first|done|(rw[hT_HR0]<;>rfl)|rfl|(simp only[List.length_drop,List.length_take];rfl)) ?_;(try rw[←hT_HR0]);(with_reducible refine(cJ.calls k _ _ l0 _ _ l1 true _ ?side1 ?side2 ?side3 ?side4 A6.out).mono ?_);(case side1=>exact cw HR0.out);(case side2=>exact HC0.out);(case side3=>exact cw HR1.out);(case side4=>exact HC1.out);rintro e w' ⟨rfl,⟨nd,rfl⟩⟩;refine⟨_,rfl,?_⟩)|((with_reducible refine aM (f:=53) rfl ?_);refine cj (some 24) rfl rfl Tryz.func53 (by kernel_rfl) rfl #[bh (.slice A0 l0.length c0), .slice A1 l1.length c1, .bool true] rfl (by(try simp only[List.map_toArray,List.map_cons,List.map_nil]);first|done|(rw[hT_HR0]<;>rfl)|rfl|(simp only[List.length_drop,List.length_take];rfl)) ?_;(try rw[←hT_HR0]);(with_reducible refine(bW.calls k _ _ l0 _ _ l1 true t127 _ ?side1 ?side2 ?side3 ?side4 A8.out).mono ?_);(case side1=>exact cw HR0.out);(case side2=>exact HC0.out);(case side3=>exact cw HR1.out);(case side4=>exact HC1.out);rintro e w11 ⟨v128,rfl,ho0,hb⟩;refine⟨_,rfl,?_⟩;have n0_:=aa.mk (Kd.bN ho0 (ai ak));have n1_:=aa.mk (ah ak hb);clear HB;have HO129:=n0_;have HB:=n1_;clear n0_ n1_;(try clear ho0);obtain⟨Ao12,co12,eo12⟩:=Kd.cb HO129.out;subst eo12)|((with_reducible refine aM (f:=25) rfl ?_);refine cj (some 28) rfl rfl Tryz.func25 (by kernel_rfl) rfl #[bh (.slice A0 l0.length c0), .slice Ao12 t127.length co12] rfl (by(try simp only[List.map_toArray,List.map_cons,List.map_nil]);first|done|(rw[hT_HR0]<;>rfl)|rfl|(simp only[List.length_drop,List.length_take];rfl)) ?_;(try rw[←hT_HR0]);(with_reducible refine(db.calls k _ _ l0 _ _ t127 t130 _ ?side1 ?side2 ?side3 ?side4 A10.out).mono ?_);(case side1=>exact cw (Kd.bu HR0.out HB.out));(case side2=>exact HC0.out);(case side3=>repeat(first|exact(Kd.aT HO129.out).2.2|(with_reducible refine Kd.dB ?_ _)|(with_reducible refine Kd.dQ ?_ _)|(with_reducible refine Kd.eX ?_)));(case side4=>exact(Kd.aT HO129.out).2.1);rintro e w13 ⟨v131,rfl,ho0,hb⟩;refine⟨_,rfl,?_⟩;have n0_:=aa.mk (Kd.dm (bK HO129.out) (Kd.dS ho0) hb);have n1_:=aa.mk (Kd.bN (Kd.eD ho0 (Kd.ik (bK HO129.out))) (ai ak));have n2_:=aa.mk (ah ak hb);clear HO129;clear HB;have HO129:=n0_;have HO132:=n1_;have HB:=n2_;clear n0_ n1_ n2_;(try clear ho0)))
    go_ret2
    exact⟨_,a8,by(with_reducible repeat(first|apply Kd.bI|apply Kd.bL|apply Kd.bM));exact Kd.bE HO132.out (fun _ hk=>trivial),ak⟩
   ·replace c9:=Bool.eq_false_iff.mpr c9
    subst c9
    have H1:=H;rw[if_neg (show¬(false=true) by decide)] at H1
    clear H
    have H:=H1
    clear H1
    simp only[Option.some.injEq,Prod.mk.injEq] at H
    obtain⟨rfl,rfl⟩:=H
    go_enter Tryz.func18,Tryz.ntmps18
    go_wp2_with (first|((with_reducible refine aM (f:=23) rfl ?_);refine cj (some 13) rfl rfl Tryz.func23 (by kernel_rfl) rfl #[bh (.slice A0 l0.length c0), .int .i64 (l1.length:Int), .int .i64 1024] rfl (by(try simp only[List.map_toArray,List.map_cons,List.map_nil]);first|done|(rw[hT_HR0]<;>rfl)|rfl|(simp only[List.length_drop,List.length_take];rfl)) ?_;(try rw[←hT_HR0]);(with_reducible refine(da.calls _ _ l0 (l1.length:Int) 1024 t125 _ ?side1 ?side2 A4.out).mono ?_);(case side1=>exact cw HR0.out);(case side2=>exact HC0.out);rintro e w' ⟨rfl,⟨nd,rfl⟩⟩;refine⟨_,rfl,?_⟩)|((with_reducible refine aM (f:=24) rfl ?_);refine cj (some 19) rfl rfl Tryz.func24 (by kernel_rfl) rfl #[bh (.slice A0 l0.length c0), .slice A1 l1.length c1] rfl (by(try simp only[List.map_toArray,List.map_cons,List.map_nil]);first|done|(rw[hT_HR0]<;>rfl)|rfl|(simp only[List.length_drop,List.length_take];rfl)) ?_;(try rw[←hT_HR0]);(with_reducible refine(cJ.calls k _ _ l0 _ _ l1 true _ ?side1 ?side2 ?side3 ?side4 A6.out).mono ?_);(case side1=>exact cw HR0.out);(case side2=>exact HC0.out);(case side3=>exact cw HR1.out);(case side4=>exact HC1.out);rintro e w' ⟨rfl,⟨nd,rfl⟩⟩;refine⟨_,rfl,?_⟩)|((with_reducible refine aM (f:=53) rfl ?_);refine cj (some 24) rfl rfl Tryz.func53 (by kernel_rfl) rfl #[bh (.slice A0 l0.length c0), .slice A1 l1.length c1, .bool false] rfl (by(try simp only[List.map_toArray,List.map_cons,List.map_nil]);first|done|(rw[hT_HR0]<;>rfl)|rfl|(simp only[List.length_drop,List.length_take];rfl)) ?_;(try rw[←hT_HR0]);(with_reducible refine(bW.calls k _ _ l0 _ _ l1 false t127 _ ?side1 ?side2 ?side3 ?side4 A8.out).mono ?_);(case side1=>exact cw HR0.out);(case side2=>exact HC0.out);(case side3=>exact cw HR1.out);(case side4=>exact HC1.out);rintro e w14 ⟨v128,rfl,ho0,hb⟩;refine⟨_,rfl,?_⟩;have n0_:=aa.mk (Kd.bN ho0 (ai ak));have n1_:=aa.mk (ah ak hb);clear HB;have HO129:=n0_;have HB:=n1_;clear n0_ n1_;(try clear ho0)))
    go_ret2
    exact⟨_,a8,bK HO129.out,ak⟩
  ·replace c7:=Bool.eq_false_iff.mpr c7
   subst c7
   have H1:=H;rw[if_neg (show¬(false=true) by decide)] at H1
   clear H
   have H:=H1
   clear H1
   simp only[Option.some.injEq,Prod.mk.injEq] at H
   obtain⟨rfl,rfl⟩:=H
   go_enter Tryz.func18,Tryz.ntmps18
   go_wp2_with (first|((with_reducible refine aM (f:=23) rfl ?_);refine cj (some 13) rfl rfl Tryz.func23 (by kernel_rfl) rfl #[bh (.slice A0 l0.length c0), .int .i64 (l1.length:Int), .int .i64 1024] rfl (by(try simp only[List.map_toArray,List.map_cons,List.map_nil]);first|done|(rw[hT_HR0]<;>rfl)|rfl|(simp only[List.length_drop,List.length_take];rfl)) ?_;(try rw[←hT_HR0]);(with_reducible refine(da.calls _ _ l0 (l1.length:Int) 1024 t125 _ ?side1 ?side2 A4.out).mono ?_);(case side1=>exact cw HR0.out);(case side2=>exact HC0.out);rintro e w' ⟨rfl,⟨nd,rfl⟩⟩;refine⟨_,rfl,?_⟩)|((with_reducible refine aM (f:=24) rfl ?_);refine cj (some 19) rfl rfl Tryz.func24 (by kernel_rfl) rfl #[bh (.slice A0 l0.length c0), .slice A1 l1.length c1] rfl (by(try simp only[List.map_toArray,List.map_cons,List.map_nil]);first|done|(rw[hT_HR0]<;>rfl)|rfl|(simp only[List.length_drop,List.length_take];rfl)) ?_;(try rw[←hT_HR0]);(with_reducible refine(cJ.calls k _ _ l0 _ _ l1 false _ ?side1 ?side2 ?side3 ?side4 A6.out).mono ?_);(case side1=>exact cw HR0.out);(case side2=>exact HC0.out);(case side3=>exact cw HR1.out);(case side4=>exact HC1.out);rintro e w' ⟨rfl,⟨nd,rfl⟩⟩;refine⟨_,rfl,?_⟩))
   go_ret2
   exact⟨_,a8,by first|exact Kd.fW _ _ _ _ _|exact Kd.lY _ _ _ _ _|exact Kd.mc _ _ _ _ _|exact Kd.lN _ _ _ _ _|exact Kd.jv _ _ _ _ _,ak⟩
 ·rw[if_neg c5] at H
  have c5b0:=beq_eq_false_iff_ne.mpr c5
  have c5b1:=bne_iff_ne.mpr c5
  simp only[Option.some.injEq,Prod.mk.injEq] at H
  obtain⟨rfl,rfl⟩:=H
  go_enter Tryz.func18,Tryz.ntmps18
  go_wp2_with (first|((with_reducible refine aM (f:=23) rfl ?_);refine cj (some 13) rfl rfl Tryz.func23 (by kernel_rfl) rfl #[bh (.slice A0 l0.length c0), .int .i64 (l1.length:Int), .int .i64 1024] rfl (by(try simp only[List.map_toArray,List.map_cons,List.map_nil]);first|done|(rw[hT_HR0]<;>rfl)|rfl|(simp only[List.length_drop,List.length_take];rfl)) ?_;(try rw[←hT_HR0]);(with_reducible refine(da.calls _ _ l0 (l1.length:Int) 1024 t125 _ ?side1 ?side2 A4.out).mono ?_);(case side1=>exact cw HR0.out);(case side2=>exact HC0.out);rintro e w' ⟨rfl,⟨nd,rfl⟩⟩;refine⟨_,rfl,?_⟩))
  go_ret2
  exact⟨_,a8,by first|exact Kd.fW _ _ _ _ _|exact Kd.lY _ _ _ _ _|exact Kd.mc _ _ _ _ _|exact Kd.lN _ _ _ _ _|exact Kd.jv _ _ _ _ _,ak⟩
end Go.Proofs.YtndkmnjbjlfeaaaGreat.XG
end
section
namespace Go.Proofs.YtndkmnjbjlfeaaaGreat.D11
open Go Go.RowKit Go.Proofs.YtndkmnjbjlfeaaaGreatW.PrintWords Go.Proofs.YtndkmnjbjlfeaaaGreatW.PrintLast Go.Proofs.YtndkmnjbjlfeaaaGreatW.PrintMore Go.Proofs.YtndkmnjbjlfeaaaGreat.Given Go.Proofs.YtndkmnjbjlfeaaaGreat.M Go.Proofs.YtndkmnjbjlfeaaaGreat.Mont Go.Proofs.YtndkmnjbjlfeaaaGreat.XS Go.Proofs.YtndkmnjbjlfeaaaGreat.XT Go.Proofs.YtndkmnjbjlfeaaaGreat.XR Go.Proofs.YtndkmnjbjlfeaaaGreat.Num Go.Proofs.YtndkmnjbjlfeaaaGreat.XK Go.Proofs.YtndkmnjbjlfeaaaGreat.F06 Go.Proofs.YtndkmnjbjlfeaaaGreat.T10 Go.Proofs.YtndkmnjbjlfeaaaGreat.XW Go.Proofs.YtndkmnjbjlfeaaaGreat.XG
set_option linter.unusedVariables false
theorem gz{l:List Int}{i:Nat}(h:i<l.length):rd l (i:Int)=l[i]:=by
 rw[lr,List.getD_eq_getElem?_getD,List.getElem?_eq_getElem h]
 rfl
theorem ow{α:Type}{y:List α}{i:Nat}(v:α)(h:i<y.length):(y.set i v).take (i+1)=y.take i++[v]:=by
 have hl:(y.take i).length=i:=by rw[List.length_take];omega
 rw[List.take_set,List.take_succ_eq_append_getElem h,List.set_append_right _ _ (by omega),hl,Nat.sub_self,List.set_cons_zero]
theorem iX{y:List Int}{i:Nat}(v:Int)(h:i<y.length):rd (y.set i v) (i:Int)=v:=by
 rw[gz (by rw[List.length_set];exact h),List.getElem_set_self]
theorem eI{y:List Int}{i j:Nat}(v:Int)(h:i≠j):rd (y.set i v) (j:Int)=rd y (j:Int):=by
 rw[lr,lr,List.getD_eq_getElem?_getD,List.getD_eq_getElem?_getD,List.getElem?_set_ne h]
theorem y7(n:Nat)(j:Nat):rd (List.replicate n 0) (j:Int)=0:=by
 rw[lr,List.getD_eq_getElem?_getD,List.getElem?_replicate]
 split<;>rfl
theorem fD{f:Nat→Int}{n i:Nat}(h:i<n):rd ((List.range n).map f) (i:Int)=f i:=by
 rw[gz (by rw[List.length_map,List.length_range];exact h),List.getElem_map,List.getElem_range]
def gK(p n most:Int):Int:=if n<1 then 1 else if n>most then 13 else if(p-1)%n=0 then 0 else 4
theorem hH{F:cn}{n most:Int}(hn:AE n):da.f [F] n most=some (gK F.p n most):=by
 unfold da.f gK
 rw[if_neg (by simp)]
 by_cases h1:n<1
 ·rw[if_pos h1,if_pos h1]
 rw[if_neg h1,if_neg h1]
 by_cases h2:n>most
 ·rw[if_pos h2,if_pos h2]
 rw[if_neg h2,if_neg h2,rN F hn.2]
 by_cases h3:(F.p-1)%n=0
 ·rw[if_pos h3,decide_eq_true ⟨by omega,h3⟩];rfl
 ·rw[if_neg h3,decide_eq_false (fun h=>h3 h.2)];rfl
theorem tx{p n most:Int}(hp:3≤p)(hp':p<9223372036854775808)(hn:AE n):cL.f p n most=some (gK p n most):=by
 have hn2:=hn.2
 unfold cL.f gK
 by_cases h1:n<1
 ·rw[if_pos h1,if_pos h1]
 rw[if_neg h1,if_neg h1]
 by_cases h2:n>most
 ·rw[if_pos h2,if_pos h2]
 have wn:IntKind.u64.wrap n=n:=aX _ (by omega) (by omega)
 have w1:IntKind.u64.wrap (p-1)=p-1:=aX _ (by omega) (by omega)
 rw[if_neg h2,if_neg h2,wn,w1,if_neg (by omega),bH (by omega)]
 by_cases h3:(p-1)%n=0
 ·rw[if_pos h3,if_pos h3]
 ·rw[if_neg h3,if_neg h3]
theorem At{p n most:Int}(h:gK p n most=0):1≤n∧n≤most∧(p-1)%n=0:=by
 unfold gK at h
 split at h
 ·omega
 split at h
 ·omega
 split at h
 ·rename_i h3;exact⟨by omega,by omega,h3⟩
 ·omega
theorem q6{p n most:Int}(h1:1≤n)(h2:n≤most)(h3:(p-1)%n=0):gK p n most=0:=by
 unfold gK
 rw[if_neg (by omega),if_neg (by omega),if_pos h3]
def mi(p:Int)(l:List Int):Bool:=decide (∀x∈l,x<p)
theorem oA(p x:Int)(l:List Int):mi p (x::l)=(decide (x<p)&&mi p l):=by
 unfold mi
 rw[Bool.eq_iff_iff]
 simp
theorem po(p:Int):mi p []=true:=by unfold mi;simp
theorem xM{F:cn}{l:List Int}(hn:l.length≤1000000)(d:Nat): ∀i:Nat,i+d=l.length→Ev (fun k=>cJ.l0 k [F] l (l.length:Int) (i:Int)) (mi F.p (l.drop i)):=by
 induction d with
 |zero=>
  intro i hi
  refine bX ⟨_,fun k=>by simp only[cJ.l0];rw[if_neg (by omega),if_neg (by simp)],wV (Ev.now _) ?_⟩
  rw[List.drop_eq_nil_of_le (by omega),po]
 |succ d ih=>
  intro i hi
  have hlt:i<l.length:=by omega
  have G:dt.f [F] (rd l (i:Int))=some (decide (rd l (i:Int)<F.p)):=rfl
  have hr:=gz hlt
  rw[List.drop_eq_getElem_cons hlt,oA,←hr]
  refine bX ⟨_,fun k=>by simp only[cJ.l0];rw[if_pos (by omega),if_pos (by omega),if_pos (by omega),cA (by omega)],kx G ?_⟩
  by_cases c:rd l (i:Int)<F.p
  ·rw[decide_eq_true c,Bool.true_and]
   exact dG rfl (ih (i+1) (by omega))
  ·rw[decide_eq_false c,Bool.false_and]
   exact gy (by decide) (Ev.now _)
theorem mu{F:cn}{l:List Int}(hn:l.length≤1000000):Ev (fun k=>cJ.f k [F] l) (mi F.p l):=by
 have h:=xM (F:=F) hn l.length 0 (by omega)
 rw[List.drop_zero] at h
 exact Ev.congr (fun k=>by unfold cJ.f;rw[if_neg (by simp)];rfl) h
theorem uv{p:Int}{l:List Int}(hn:l.length≤1000000)(d:Nat): ∀i:Nat,i+d=l.length→Ev (fun k=>bA.l0 k p l (l.length:Int) (i:Int)) (mi p (l.drop i)):=by
 induction d with
 |zero=>
  intro i hi
  refine bX ⟨_,fun k=>by simp only[bA.l0];rw[if_neg (by omega)],wV (Ev.now _) ?_⟩
  rw[List.drop_eq_nil_of_le (by omega),po]
 |succ d ih=>
  intro i hi
  have hlt:i<l.length:=by omega
  have hr:=gz hlt
  rw[List.drop_eq_getElem_cons hlt,oA,←hr]
  refine bX ⟨_,fun k=>by simp only[bA.l0];rw[if_pos (by omega),if_pos (by omega),if_pos (by omega),cA (by omega)],?_⟩
  by_cases c:rd l (i:Int)<p
  ·rw[decide_eq_true c,Bool.true_and]
   exact gy (by omega) (ih (i+1) (by omega))
  ·rw[decide_eq_false c,Bool.false_and]
   exact dG (by omega) (Ev.now _)
theorem wz{p:Int}{l:List Int}(hn:l.length≤1000000):Ev (fun k=>bA.f k p l) (mi p l):=by
 have h:=uv (p:=p) hn l.length 0 (by omega)
 rw[List.drop_zero] at h
 exact Ev.congr (fun k=>rfl) h
theorem vV{L:List cn}{c:Int}{T:Int→Int}{l:List Int}(hn:l.length≤1000000)(hT: ∀x∈l,bb.f L c x=some (T x))(d:Nat): ∀(i:Nat) (y:List Int),i+d=l.length→y.length=l.length→
  Ev (fun k=>db.l0 k L c y l (l.length:Int) (i:Int)) (y.take i++(l.drop i).map T):=by
 induction d with
 |zero=>
  intro i y hi hy
  exact bX ⟨_,fun k=>by simp only[db.l0];rw[if_neg (by omega)],wV (Ev.now _) (by rw[List.drop_eq_nil_of_le (by omega),List.map_nil,List.append_nil,List.take_of_length_le (by omega)])⟩
 |succ d ih=>
  intro i y hi hy
  have hlt:i<l.length:=by omega
  have G:=hT l[i] (List.getElem_mem hlt)
  have hr:=gz hlt
  have e:(y.set i (T l[i])).take (i+1)++(l.drop (i+1)).map T=y.take i++(l.drop i).map T:=by
   rw[ow _ (by omega),List.drop_eq_getElem_cons hlt,List.map_cons,List.append_assoc]
   rfl
  have IH:=ih (i+1) (y.set i (T l[i])) (by omega) (by rw[List.length_set];exact hy)
  rw[e] at IH
  have hy2:(i:Int)<(y.length:Int):=by omega
  refine bX ⟨_,fun k=>by simp only[db.l0];rw[if_pos (by omega),if_pos (by omega),if_pos (by omega),cA (by omega),Int.toNat_natCast,hr],?_⟩
  refine kx G ?_
  exact dG hy2 IH
theorem pA{F:cn}(hg:aJ F){l:List Int}(hn:l.length≤1000000)(hu: ∀x∈l,U x):Ev (fun k=>db.f k [F] l) (l.map fun x=>fo F.p (l.length:Int)*x%F.p):=by
 have wn:IntKind.u64.wrap (l.length:Int)=l.length:=aX _ (by omega) (by omega)
 have I:=cN.at_ (F:=F) (l:=[]) (a1:=(l.length:Int)) ⟨by omega,by omega⟩
 have Li:=bY.at_ (F:=F) (l:=[]) (hg.AR (l.length:Int))
 have S:=vV (L:=[F]) (c:=iv F.p (fo F.p l.length)) (T:=fun x=>fo F.p l.length*x%F.p) hn (fun x hx=>by
  rw[bb.at_ ⟨show U (iv F.p (fo F.p l.length)) from hg.uE _,hu x hx⟩,oE hg.m]) l.length 0 (List.replicate l.length 0) (by omega) List.length_replicate
 rw[List.take_zero,List.nil_append,List.drop_zero] at S
 refine Ev.congr (fun k=>rfl) (kx (by rw[wn];exact I) (kx Li (dG (by omega) (dG (by omega) (Ev.congr (fun k=>?_) S)))))
 rw[Int.toNat_natCast]
 rfl
theorem xx{F:cn}(hg:aJ F){l:List Int}{n:Nat}(hn:l.length=n)(n1:1≤n)(n2:n≤1024)(hu: ∀x∈l,U x){w:Int}{tab:List Int}(ht:tab.length=n)(hT: ∀j,j<n→rd tab (j:Int)=iv F.p (w^j%F.p))(hw: ∀a,w^a%F.p=w^(a%n)%F.p){r:List Int}{i:Nat}(hi:i<n)(d:Nat): ∀(j:Nat) (y:List Int),j+d=n→y.length=n→rd y (i:Int)=cS w (fun t=>rd l (t:Int)) j i%F.p→
  Ev (fun k=>bW.l0 k [F] l (n:Int) tab (y.set i (cS w (fun t=>rd l (t:Int)) n i%F.p)) (n:Int) (wrap64 ((i:Int)+1))) r→
  Ev (fun k=>bW.l1 k [F] l (n:Int) tab y (i:Int) ((i*j%n:Nat):Int) (n:Int) (i:Int) l (l.length:Int) (j:Int)) r:=by
 induction d with
 |zero=>
  intro j y hj hy hr E
  obtain rfl:j=n:=by omega
  have e:y.set i (cS w (fun t=>rd l (t:Int)) j i%F.p)=y:=by rw[←hr,gz (by omega),List.set_getElem_self]
  rw[e] at E
  exact bX ⟨_,fun k=>by simp only[bW.l1];rw[if_neg (by omega)],E⟩
 |succ d ih=>
  intro j y hj hy hr E
  have hjn:j<n:=by omega
  have hq:i*j%n<n:=Nat.mod_lt _ (by omega)
  have ut:=hu _ (gM (l:=l) (i:=j) (by omega))
  have T:=bb.at_ (F:=F) (l:=[]) ⟨show U (iv F.p (w^(i*j%n)%F.p)) from hg.uE _,ut⟩
  rw[oE hg.m,←hT _ hq] at T
  have A:=cM.at_ (F:=F) (l:=[]) ⟨show U (cS w (fun t=>rd l (t:Int)) j i%F.p) from hg.uE _,hg.uE (w^(i*j%n)%F.p*rd l (j:Int))⟩
  have ev:(cS w (fun t=>rd l (t:Int)) j i%F.p+w^(i*j%n)%F.p*rd l (j:Int)%F.p)%F.p=cS w (fun t=>rd l (t:Int)) (j+1) i%F.p:=by
   have e1:cS w (fun t=>rd l (t:Int)) (j+1) i=cS w (fun t=>rd l (t:Int)) j i+w^(i*j)*rd l (j:Int):=rfl
   rw[e1]
   exact mE (Int.emod_emod _ _) (by rw[Int.emod_emod,←hw,bl])
  rw[ev,←hr] at A
  have em:Int.tmod (wrap64 (((i*j%n:Nat):Int)+(i:Int))) (n:Int)=((i*(j+1)%n:Nat):Int):=by
   rw[cY _ (by omega) (by omega),bH (by omega),Nat.mul_succ,←Nat.mod_add_mod,Int.natCast_emod (i*j%n+i) n]
   rfl
  have IH:=ih (j+1) (y.set i (cS w (fun t=>rd l (t:Int)) (j+1) i%F.p)) (by omega) (by rw[List.length_set];exact hy) (iX _ (by omega)) (by rw[List.set_set];exact E)
  have q0:(0:Int)≤((i*j%n:Nat):Int):=Int.natCast_nonneg _
  have q1:((i*j%n:Nat):Int)<(tab.length:Int):=by omega
  have p1:(j:Int)<(l.length:Int):=by omega
  have p2:(0:Int)≤(j:Int):=Int.natCast_nonneg _
  have p3:(0:Int)≤(i:Int):=Int.natCast_nonneg _
  have p4:(i:Int)<(y.length:Int):=by omega
  have ws:wrap64 ((j:Int)+1)=((j+1:Nat):Int):=cA (by omega)
  have n0: ¬(n:Int)=0:=by omega
  refine bX ⟨_,fun k=>by simp only[bW.l1];rw[if_pos p1,if_pos p2,if_pos p1,if_pos p3,if_pos p4,if_pos q0,if_pos q1,ws,Int.toNat_natCast,em],?_⟩
  refine kx T ?_
  refine kx A ?_
  exact gy n0 IH
theorem xn{F:cn}(hg:aJ F){l:List Int}{n:Nat}(hn:l.length=n)(n1:1≤n)(n2:n≤1024)(hu: ∀x∈l,U x){w:Int}{tab:List Int}(ht:tab.length=n)(hT: ∀j,j<n→rd tab (j:Int)=iv F.p (w^j%F.p))(hw: ∀a,w^a%F.p=w^(a%n)%F.p)(d:Nat): ∀(i:Nat) (y:List Int),i+d=n→y.length=n→(∀t:Nat,i≤t→t<n→rd y (t:Int)=0)→
  Ev (fun k=>bW.l0 k [F] l (n:Int) tab y (n:Int) (i:Int)) (y.take i++((List.range n).drop i).map fun i=>cS w (fun t=>rd l (t:Int)) n i%F.p):=by
 induction d with
 |zero=>
  intro i y hi hy hz
  exact bX ⟨_,fun k=>by simp only[bW.l0];rw[if_neg (by omega)],wV (Ev.now _) (by rw[List.drop_eq_nil_of_le (by rw[List.length_range];omega),List.map_nil,List.append_nil,List.take_of_length_le (by omega)])⟩
 |succ d ih=>
  intro i y hi hy hz
  have hin:i<n:=by omega
  have hr:i<(List.range n).length:=by rw[List.length_range];exact hin
  have e:(y.set i (cS w (fun t=>rd l (t:Int)) n i%F.p)).take (i+1)++((List.range n).drop (i+1)).map (fun i=>cS w (fun t=>rd l (t:Int)) n i%F.p)=y.take i++((List.range n).drop i).map fun i=>cS w (fun t=>rd l (t:Int)) n i%F.p:=by
   rw[ow _ (by omega),List.drop_eq_getElem_cons hr,List.getElem_range,List.map_cons,List.append_assoc]
   rfl
  have IH:=ih (i+1) (y.set i (cS w (fun t=>rd l (t:Int)) n i%F.p)) (by omega) (by rw[List.length_set];exact hy) (fun t h1 h2=>by rw[eI _ (by omega)];exact hz t (by omega) h2)
  rw[e,←cA (by omega)] at IH
  have L1:=xx hg hn n1 n2 hu ht hT hw hin n 0 y (by omega) hy (by rw[hz i (Nat.le_refl _) hin];exact(Int.zero_emod _).symm) IH
  rw[Nat.mul_zero,Nat.zero_mod] at L1
  refine bX ⟨_,fun k=>by simp only[bW.l0];rw[if_pos (by omega)],?_⟩
  exact L1
theorem roots{F:cn}(hg:aJ F){n:Nat}(n1:1≤n)(hd:(F.p-1)% (n:Int)=0)(inv:Bool):fg F n (ca F n inv) (ca F n (!inv)):=by
 have hlo:=hg.lo
 have one:=(hg.inv (hg.sw (n:=(n:Int)) (by omega) hd)).2.1
 refine⟨hg,n1,?_,fun k=>n8 hg (by omega) hd inv k,fun k=>n8 hg (by omega) hd (!inv) k,?_⟩
 ·have:=Int.le_of_dvd (show 0<F.p-1 by omega) (Int.dvd_of_emod_eq_zero hd)
  omega
 ·cases inv with
  |false=>show fy F n*fo F.p (fy F n)%F.p=1;rw[Int.mul_comm];exact one
  |true=>exact one
theorem ya{F:cn}(hg:aJ F){l:List Int}(n1:1≤l.length)(n2:l.length≤1024)(hd:(F.p-1)% (l.length:Int)=0)(hu: ∀x∈l,U x)(inv:Bool):
  Ev (fun k=>bW.f k [F] l inv) ((List.range l.length).map fun i=>cS (ca F l.length inv) (fun t=>rd l (t:Int)) l.length i%F.p):=by
 have R:=roots hg n1 hd inv
 have lt:((kZ F.p (ca F l.length inv) (l.length:Int).toNat).map (iv F.p)).length=l.length:=by rw[List.length_map,iM,Int.toNat_natCast]
 have S:=xn hg (l:=l) rfl n1 n2 hu lt (fun j hj=>by rw[gz (by omega),List.getElem_map];congr 1;have:=sE (p:=F.p) (w:=ca F l.length inv) (n:=(l.length:Int).toNat) (i:=j) (by omega);rw[gz (by rw[iM];omega)] at this;exact this) R.Am l.length 0 (List.replicate l.length 0) (by omega) List.length_replicate (fun t _ _=>y7 _ _)
 rw[List.take_zero,List.nil_append,List.drop_zero] at S
 refine Ev.congr (fun k=>rfl) (Ev.bind (n6 hg (n:=(l.length:Int)) (by omega) (by omega) hd inv) (dG (by omega) (dG (by omega) (Ev.congr (fun k=>?_) S))))
 simp only[Option.bind_some,List.length_replicate,Int.toNat_natCast]
 rfl
noncomputable def cO(F:cn)(n:Nat)(inv:Bool):Int:=if inv=true then fo F.p (n:Int) else 1
noncomputable def gT(F:cn)(l:List Int)(inv:Bool):List Int:=(List.range l.length).map fun i=>cO F l.length inv*cS (ca F l.length inv) (fun t=>rd l (t:Int)) l.length i%F.p
theorem eY(F:cn)(l:List Int)(inv:Bool):(gT F l inv).length=l.length:=by unfold gT;rw[List.length_map,List.length_range]
theorem jK{F:cn}{l:List Int}{inv:Bool}{i:Nat}(h:i<l.length):rd (gT F l inv) (i:Int)=cO F l.length inv*cS (ca F l.length inv) (fun t=>rd l (t:Int)) l.length i%F.p:=fD h
structure gD (F:cn) (l:List Int):Prop where
 pos:1≤l.length
 top:l.length≤1024
 div:(F.p-1)% (l.length:Int)=0
 res: ∀x∈l,0≤x∧x<F.p
theorem gD.u{F:cn}{l:List Int}(hg:aJ F)(h:gD F l): ∀x∈l,U x:=fun x hx=>by
 have:=h.res x hx
 have:=hg.hi
 unfold U;omega
theorem gD.all{F:cn}{l:List Int}(h:gD F l):mi F.p l=true:=decide_eq_true fun x hx=>(h.res x hx).2
theorem qi{F:cn}{l:List Int}(hg:aJ F)(h:gD F l)(inv:Bool):gD F (gT F l inv):=by
 have e:=eY F l inv
 have:=hg.lo
 refine⟨by rw[e];exact h.pos,by rw[e];exact h.top,by rw[e];exact h.div,fun x hx=>?_⟩
 unfold gT at hx
 obtain⟨i,_,rfl⟩:=List.mem_map.1 hx
 exact⟨Int.emod_nonneg _ hg.ne,Int.emod_lt_of_pos _ (by omega)⟩
theorem lT{l:List Int}(h:l.length≤1000000):AE (l.length:Int):=⟨by omega,by omega⟩
theorem zJ{F:cn}(hg:aJ F){l:List Int}(h:gD F l)(inv:Bool):Ev (fun k=>jU.f k [F] l inv) (gT F l inv,0):=by
 have h1:=h.pos
 have h2:=h.top
 have C:=hH (F:=F) (most:=1024) (lT (l:=l) (by omega))
 rw[q6 (by omega) (by omega) h.div] at C
 have G:=mu (F:=F) (l:=l) (by omega)
 rw[h.all] at G
 have S:=ya hg h1 h2 h.div (h.u hg) inv
 refine Ev.congr (fun k=>rfl) (kx C (dG rfl (Ev.bind G (dG rfl (Ev.bind S ?_)))))
 cases inv with
 |false=>
  refine gy (by decide) (wV (Ev.now _) ?_)
  congr 1
  unfold gT
  refine List.map_congr_left fun i _=>?_
  show _=1*cS (ca F l.length false) (fun t=>rd l (t:Int)) l.length i%F.p
  rw[Int.one_mul]
 |true=>
  have ln:((List.range l.length).map fun i=>cS (ca F l.length true) (fun t=>rd l (t:Int)) l.length i%F.p).length=l.length:=by rw[List.length_map,List.length_range]
  have Sc:=pA hg (l:=(List.range l.length).map fun i=>cS (ca F l.length true) (fun t=>rd l (t:Int)) l.length i%F.p) (by omega) (fun x hx=>by
   obtain⟨i,_,rfl⟩:=List.mem_map.1 hx
   exact hg.uE _)
  refine dG rfl (Ev.bind Sc (wV (Ev.now _) ?_))
  congr 1
  rw[ln,List.map_map]
  unfold gT
  refine List.map_congr_left fun i _=>?_
  show fo F.p l.length*(cS (ca F l.length true) (fun t=>rd l (t:Int)) l.length i%F.p)%F.p=fo F.p l.length*cS (ca F l.length true) (fun t=>rd l (t:Int)) l.length i%F.p
  rw[bV]
theorem mn{F:cn}(hg:aJ F){n:Nat}(hn:(n:Int)%F.p≠0)(inv:Bool):cO F n inv*cO F n (!inv)*n%F.p=1:=by
 have h:=(hg.inv hn).2.1
 cases inv with
 |false=>show 1*fo F.p n*n%F.p=1;rw[Int.one_mul];exact h
 |true=>show fo F.p n*1*n%F.p=1;rw[Int.mul_one];exact h
theorem pZ(w c:Int)(f:Nat→Int)(n i:Nat):cS w (fun j=>c*f j) n i=c*cS w f n i:=by
 unfold cS
 rw[←ie]
 exact cm fun j _=>Int.mul_left_comm _ _ _
theorem iJ{a b:List Int}(hl:a.length=b.length)(h: ∀i,i<b.length→rd a (i:Int)=rd b (i:Int)):a=b:=by
 refine List.ext_getElem hl fun i h1 h2=>?_
 have:=h i h2
 rwa[gz h1,gz h2] at this
theorem uu{F:cn}(hg:aJ F){l:List Int}(h:gD F l)(inv:Bool):gT F (gT F l inv) (!inv)=l:=by
 have e:=eY F l inv
 have R:=roots hg h.pos h.div inv
 refine iJ (by rw[eY,e]) fun k hk=>?_
 rw[jK (by omega),e]
 have hk':=h.res _ (gM hk)
 have e1:cS (ca F l.length (!inv)) (fun t=>rd (gT F l inv) (t:Int)) l.length k%F.p=cO F l.length inv*(l.length*rd l (k:Int))%F.p:=by
  rw[px (f:=fun t=>rd (gT F l inv) (t:Int)) (g:=fun j=>cO F l.length inv*cS (ca F l.length inv) (fun t=>rd l (t:Int)) l.length j) _ (fun j hj=>by show rd (gT F l inv) (j:Int)%F.p=_;rw[jK hj,Int.emod_emod]),pZ]
  exact dZ rfl (R.back (fun t=>rd l (t:Int)) hk)
 rw[←bV,e1,bV,show cO F l.length (!inv)*(cO F l.length inv*(l.length*rd l (k:Int)))=cO F l.length inv*cO F l.length (!inv)*l.length*rd l (k:Int) by rw[Int.mul_comm (cO F l.length inv) (cO F l.length (!inv)),Int.mul_assoc,Int.mul_assoc],←bl,mn hg R.xF,Int.one_mul]
 exact Int.emod_eq_of_lt hk'.1 hk'.2
end Go.Proofs.YtndkmnjbjlfeaaaGreat.D11
end
section
namespace Go.Proofs.YtndkmnjbjlfeaaaGreat.D15
open Go Go.RowKit Go.Proofs.YtndkmnjbjlfeaaaGreatW.PrintWords Go.Proofs.YtndkmnjbjlfeaaaGreat.M Go.Proofs.YtndkmnjbjlfeaaaGreat.Mont Go.Proofs.YtndkmnjbjlfeaaaGreat.Num Go.Proofs.YtndkmnjbjlfeaaaGreat.F06 Go.Proofs.YtndkmnjbjlfeaaaGreat.T10 Go.Proofs.YtndkmnjbjlfeaaaGreat.D11
theorem qH{p x x' y z:Int}(h:x*y%p=1)(h':x'*z%p=1)(e:x%p=x'%p):y%p=z%p:=by
 have e1:y*(x'*z)%p=z%p:=by
  have:y*(x'*z)%p=(x*y)*z%p:=by
   rw[Int.mul_comm x y,Int.mul_assoc]
   exact dZ rfl (dZ e.symm rfl)
  rw[this,Int.mul_emod,h,Int.one_mul,Int.emod_emod]
 have e2:y*(x'*z)%p=y%p:=by rw[Int.mul_emod,h',Int.mul_one,Int.emod_emod]
 rw[←e2,e1]
theorem tc{F:cn}(hg:aJ F){n r:Nat}(hn:1≤n)(hr:1≤r)(hd:(F.p-1)% ((r*n:Nat):Int)=0):fy F ((r*n:Nat):Int)^r%F.p=fy F (n:Int):=by
 obtain⟨q,hq⟩:=Int.dvd_of_emod_eq_zero hd
 have hlo:=hg.lo
 have hrn:1≤r*n:=Nat.mul_pos hr hn
 have e1:(F.p-1)/((r*n:Nat):Int)=q:=by
  rw[hq]
  exact Int.mul_ediv_cancel_left _ fun e=>by
   have:=Int.ofNat_inj.1 (e.trans (rfl:(0:Int)=((0:Nat):Int)))
   omega
 have e2:(F.p-1)/(n:Int)=(r:Int)*q:=by
  rw[hq,Int.natCast_mul,Int.mul_comm (r:Int),Int.mul_assoc]
  exact Int.mul_ediv_cancel_left _ (by omega)
 have hq0:0≤q:=by rw[←e1];exact Int.ediv_nonneg (by omega) (Int.natCast_nonneg _)
 rw[oy,e1]
 unfold fy
 rw[e2]
 obtain⟨q',rfl⟩: ∃x:Nat,q=x:=⟨q.toNat,by omega⟩
 rw[←Int.natCast_mul,Int.toNat_natCast,Int.toNat_natCast,Nat.mul_comm]
theorem iT{p:Int}{n r:Nat}(hd:(p-1)% ((r*n:Nat):Int)=0):(p-1)% (n:Int)=0:=by
 refine Int.emod_eq_zero_of_dvd (Int.dvd_trans ?_ (Int.dvd_of_emod_eq_zero hd))
 exact⟨(r:Int),by rw[Int.natCast_mul,Int.mul_comm]⟩
theorem pM{F:cn}(hg:aJ F)(n:Int):fy F n%F.p=fy F n:=Int.emod_eq_of_lt (jC hg _).1 (jC hg _).2
theorem nB{F:cn}(hg:aJ F){n r:Nat}(hn:1≤n)(hr:1≤r)(hd:(F.p-1)% ((r*n:Nat):Int)=0)(inv:Bool):ca F ((r*n:Nat):Int) inv^r%F.p=ca F (n:Int) inv%F.p:=by
 have e:=tc hg hn hr hd
 cases inv with
 |false=>
  show fy F ((r*n:Nat):Int)^r%F.p=fy F (n:Int)%F.p
  rw[e,pM hg]
 |true=>
  have R1:=roots hg (n:=r*n) (Nat.mul_pos hr hn) hd false
  have R2:=roots hg (n:=n) hn (iT hd) false
  exact qH (R1.vk r) R2.one (show fy F ((r*n:Nat):Int)^r%F.p=fy F (n:Int)%F.p by rw[e,pM hg])
theorem yq{F:cn}(hg:aJ F){a b:Nat}(ha:1≤a)(hb:1≤b)(hd:(F.p-1)% ((a*b:Nat):Int)=0)(inv:Bool):cO F (a*b) inv%F.p=cO F a inv*cO F b inv%F.p:=by
 cases inv with
 |false=>show(1:Int)%F.p=1*1%F.p;rfl
 |true=>
  have R:=roots hg (n:=a*b) (Nat.mul_pos ha hb) hd false
  have Rb:=roots hg (n:=b) hb (iT hd) false
  have Ra:=roots hg (n:=a) ha (iT (r:=b) (by rw[Nat.mul_comm];exact hd)) false
  have e1:=mn hg R.xF true
  have e2:=mn hg Ra.xF true
  have e3:=mn hg Rb.xF true
  have z: ∀n,cO F n (!true)=1:=fun n=>rfl
  rw[z,Int.mul_one] at e1 e2 e3
  refine qH (x:=((a*b:Nat):Int)) (x':=(a:Int)*(b:Int)) (by rw[Int.mul_comm];exact e1) ?_ (by rw[Int.natCast_mul])
  have:(a:Int)*(b:Int)*(cO F a true*cO F b true)=(cO F a true*(a:Int))*(cO F b true*(b:Int)):=by
   rw[Int.mul_comm (a:Int) (b:Int),Int.mul_assoc,←Int.mul_assoc (a:Int),Int.mul_comm (a:Int),←Int.mul_assoc,Int.mul_comm (b:Int),Int.mul_assoc,Int.mul_comm (b:Int)]
  rw[this,Int.mul_emod,e2,e3]
  exact hg.one
theorem ng{F:cn}{m i:Nat}(g:Nat→Int)(inv:Bool)(h:i<m):rd (gT F ((List.range m).map g) inv) (i:Int)=cO F m inv*cS (ca F m inv) g m i%F.p:=by
 have hl:((List.range m).map g).length=m:=by rw[List.length_map,List.length_range]
 rw[jK (by rw[hl];exact h),hl]
 have e:cS (ca F (m:Int) inv) (fun t=>rd ((List.range m).map g) (t:Int)) m i=cS (ca F (m:Int) inv) g m i:=by
  unfold cS
  refine cm fun j hj=>?_
  show _*rd ((List.range m).map g) (j:Int)=_
  rw[fD hj]
 rw[e]
theorem tP{p:Int}(w c:Int)(f:Nat→Int)(n i:Nat):cS w (fun j=>c*f j%p) n i%p=c*cS w f n i%p:=by
 rw[←pZ]
 exact px w (fun j _=>Int.emod_emod_of_dvd _ (Int.dvd_refl p)) i
theorem tT{F:cn}(hg:aJ F){l:List Int}(h:gD F l){a b:Nat}(hn:l.length=a*b)(ha:1≤a)(hb:1≤b)(hab:Nat.Coprime a b)(inv:Bool){k:Nat}(hk:k<a*b):
  rd (gT F l inv) (k:Int)=cO F a inv*cS (ca F a inv) (fun i=>cO F b inv*cS (ca F b inv) (fun j=>rd l (((b*i+a*j)% (a*b):Nat):Int)) b (k%b)%F.p) a (k%a)%F.p:=by
 have hd:=h.div
 rw[hn] at hd
 have hd':(F.p-1)% ((b*a:Nat):Int)=0:=by rw[Nat.mul_comm];exact hd
 have R:=roots hg (n:=a*b) (Nat.mul_pos ha hb) hd inv
 rw[jK (by rw[hn];exact hk),hn]
 have e1:=tq (p:=F.p) (w:=ca F ((a*b:Nat):Int) inv) hg.one hab ((R.w_ord _).2 (Nat.dvd_refl _)) (fun t=>rd l (t:Int)) k
 have ra:=nB hg hb ha hd inv
 have rb:=nB hg ha hb hd' inv
 rw[Nat.mul_comm b a] at rb
 have e2:cS (ca F ((a*b:Nat):Int) inv^b) (fun i=>cS (ca F ((a*b:Nat):Int) inv^a) (fun j=>rd l (((b*i+a*j)% (a*b):Nat):Int)) b (k%b)) a (k%a)%F.p=cS (ca F a inv) (fun i=>cS (ca F b inv) (fun j=>rd l (((b*i+a*j)% (a*b):Nat):Int)) b (k%b)) a (k%a)%F.p:=by
  unfold cS
  refine fi fun i _=>dZ (pO rb _) ?_
  exact fi fun j _=>dZ (pO ra _) rfl
 have e3:=tP (p:=F.p) (ca F a inv) (cO F b inv) (fun i=>cS (ca F b inv) (fun j=>rd l (((b*i+a*j)% (a*b):Nat):Int)) b (k%b)) a (k%a)
 refine(dZ (yq hg ha hb hd inv) (e1.trans e2)).trans ?_
 rw[Int.mul_assoc]
 exact dZ rfl e3.symm
end Go.Proofs.YtndkmnjbjlfeaaaGreat.D15
end
section
namespace Go.Proofs.YtndkmnjbjlfeaaaGreat.XM
open Go.RowKit Go.Proofs.YtndkmnjbjlfeaaaGreat.Given Go.Proofs.YtndkmnjbjlfeaaaGreat.Row05 Go.Proofs.YtndkmnjbjlfeaaaGreat.XS Go.Proofs.YtndkmnjbjlfeaaaGreat.XT Go.Proofs.YtndkmnjbjlfeaaaGreat.XR Go.Proofs.YtndkmnjbjlfeaaaGreat.F06 Go.Proofs.YtndkmnjbjlfeaaaGreat.XK Go.Proofs.YtndkmnjbjlfeaaaGreat.XW Go.Proofs.YtndkmnjbjlfeaaaGreat.XG Go.Proofs.YtndkmnjbjlfeaaaGreatW.PrintWords Go.Proofs.YtndkmnjbjlfeaaaGreatW.PrintLast Go.Proofs.YtndkmnjbjlfeaaaGreatW.PrintMore
attribute [local go_sem] bU bS ct cr bw bz bP bT
set_option linter.unusedVariables false
set_option linter.unusedSimpArgs false
mutual
noncomputable def bR.l0:Nat→Int→Bool→List Int→Int→Int→Option (Int×Int)
 |0,_,_,_,_,_=>none
 |k+1,x4,x5,x11,x12,x13=>if x13<x12 then(if 0≤x13 then(if x13<(x11.length:Int) then(if(rd x11 x13)<2 then(some (0,1)) else(if x5=true then(bR.j1 k x4 x5 (rd x11 x13) x11 x12 x13 true) else(if x4=0 then(none) else(bR.j1 k x4 x5 (rd x11 x13) x11 x12 x13 (decide ((rd x11 x13)>(wrap64 (Int.tdiv (4096:Int) x4)))))))) else(none)) else(none)) else(if x5=true then(some (0,13)) else(some (x4,0)))
noncomputable def bR.j1:Nat→Int→Bool→Int→List Int→Int→Int→Bool→Option (Int×Int)
 |0,_,_,_,_,_,_,_=>none
 |k+1,x4,x5,x7,x11,x12,x13,x25=>if x25=true then(bR.l0 k x4 true x11 x12 (wrap64 (x13+1))) else(bR.l0 k (wrap64 (x4*x7)) x5 x11 x12 (wrap64 (x13+1)))
end
noncomputable def bR.f(k:Nat)(l0:List Int):Option (Int×Int):=if(l0.length:Int)>12 then(some (0,1)) else(bR.l0 k 1 false l0 (l0.length:Int) 0)
set_option maxHeartbeats 8000000 in
set_option maxRecDepth 100000 in
theorem bR.calls(k:Nat)(A0:Option Addr)(c0:Nat)(l0:List Int)(r1:Int)(r2:Int)(w:World)(hr0:Kd.C (Kd.int .i64) w A0 l0.length l0)(hc0:l0.length≤c0)(h:bR.f k l0=some (r1,r2)):
  Calls Tryz.prog 104 #[.slice A0 l0.length c0] w fun e w'=>e= .returned (.tuple #[.int .i64 r1, .int .i64 r2])∧au w w':=by
 have HR0:=aa.mk hr0
 have HC0:=aa.mk hc0
 clear hr0 hc0
 have H:=h;unfold bR.f at H
 clear h
 by_cases c2:(l0.length:Int)>12
 ·rw[if_pos c2] at H
  have c2b0:=decide_eq_true c2
  have c2b1:decide (12<l0.length)=true:=decide_eq_true (by omega)
  clear c2
  simp only[Option.some.injEq,Prod.mk.injEq] at H
  obtain⟨rfl,rfl⟩:=H
  go_enter Tryz.func104,Tryz.ntmps104
  go_wp2
  go_ret2
  exact⟨a8,dk⟩
 ·rw[if_neg c2] at H
  have c2b0:=decide_eq_false c2
  have c2b1:decide (12<l0.length)=false:=decide_eq_false (by omega)
  clear c2
  have H':=aa.mk H
  clear H
  go_enter Tryz.func104,Tryz.ntmps104
  go_wp2
  go_loopg [4,5,13] k (fun kq v4 v5 v13 w'=> ∃(x4_1:Int) (x5_1:Bool) (x13_1:Int),v4= .int .i64 x4_1∧v5= .bool x5_1∧v13= .int .i64 x13_1∧aa (bR.l0 kq x4_1 x5_1 l0 (l0.length:Int) x13_1=some (r1,r2))∧aa (kq≤k)∧au w w')
  case atStart=>exact⟨(1),(false),(0),a8,a8,a8,H',⟨Nat.le_refl _⟩,dk⟩
  case round=>
   clear H'
   obtain⟨x4_1,x5_1,x13_1,rfl,rfl,rfl,HA,HK1,⟨m1,rfl⟩⟩:=hrel
   cases gk with
   |zero=>exact absurd HA.out (by simp[bR.l0])
   |succ k1=>
    have H:=HA.out
    clear HA
    simp only[bR.l0] at H
    by_cases c3:x13_1<(l0.length:Int)
    ·rw[if_pos c3] at H
     have c3b0:=decide_eq_true c3
     clear c3
     by_cases c4:0≤x13_1
     ·rw[if_pos c4] at H
      have c4b0:=decide_eq_true c4
      clear c4
      by_cases c5:x13_1<(l0.length:Int)
      ·rw[if_pos c5] at H
       have c5b0:=decide_eq_true c5
       clear c5
       by_cases c6:(rd l0 x13_1)<2
       ·rw[if_pos c6] at H
        have c6b0:=decide_eq_true c6
        clear c6
        simp only[Option.some.injEq,Prod.mk.injEq] at H
        obtain⟨rfl,rfl⟩:=H
        have p101:0≤(x13_1:Int):=of_decide_eq_true (by assumption)
        have q101:x13_1<(l0.length:Int):=of_decide_eq_true (by assumption)
        obtain⟨ad101,e101,hx101_0⟩:=Kd.cR HR0.out x13_1 p101 q101
        cases e101
        replace p101:=eq_true p101
        replace q101:=eq_true q101
        go_wp2
        go_ret2
        exact⟨a8,dk⟩
       ·rw[if_neg c6] at H
        have c6b0:=decide_eq_false c6
        clear c6
        have HC7:=aa.mk H
        clear H
        have p101:0≤(x13_1:Int):=of_decide_eq_true (by assumption)
        have q101:x13_1<(l0.length:Int):=of_decide_eq_true (by assumption)
        obtain⟨ad101,e101,hx101_0⟩:=Kd.cR HR0.out x13_1 p101 q101
        cases e101
        replace p101:=eq_true p101
        replace q101:=eq_true q101
        go_upto_region 9 with(fail)
        go_cut [25] (fun v25 wc=> ∃(kq:Nat) (x25_6:Bool),v25= .bool x25_6∧aa (bR.j1 kq x4_1 x5_1 (rd l0 x13_1) l0 (l0.length:Int) x13_1 x25_6=some (r1,r2))∧aa (kq≤k1)∧au w wc)
        case first=>
         have H:=HC7.out
         clear HC7
         by_cases c8:x5_1=true
         ·subst c8
          have H1:=H;rw[if_pos rfl] at H1
          clear H
          have H:=H1
          clear H1
          have H':=aa.mk H
          clear H
          go_wp2
          go_meet
          case rel=>exact⟨_,(true),a8,H',⟨by have:=HK1.out;first|omega|exact Nat.le_refl _⟩,dk⟩
         ·replace c8:=Bool.eq_false_iff.mpr c8
          subst c8
          have H1:=H;rw[if_neg (show¬(false=true) by decide)] at H1
          clear H
          have H:=H1
          clear H1
          by_cases c9:x4_1=0
          ·rw[if_pos c9] at H
           exact absurd H (by simp)
          ·rw[if_neg c9] at H
           have c9b0:=beq_eq_false_iff_ne.mpr c9
           have c9b1:=bne_iff_ne.mpr c9
           (first|rw[c9b0]|(simp only[bp,bQ];rw[c9b0])|skip)
           have H':=aa.mk H
           clear H
           go_wp2
           go_meet
           case rel=>exact⟨_,(decide ((rd l0 x13_1)>(wrap64 (Int.tdiv (4096:Int) x4_1)))),a8,H',⟨by have:=HK1.out;first|omega|exact Nat.le_refl _⟩,dk⟩
        case rest=>
         clear HC7
         try clear hx1
         try clear hx101_0
         obtain⟨kq,x25_6,rfl,HA,HJ6,⟨mc6,rfl⟩⟩:=hcut
         cases kq with
         |zero=>exact absurd HA.out (by simp[bR.j1])
         |succ kj6=>
          have H:=HA.out
          clear HA
          simp only[bR.j1] at H
          by_cases ek:x25_6=true
          ·subst ek
           have H1:=H;rw[if_pos rfl] at H1
           clear H
           have H:=H1
           clear H1
           have H':=aa.mk H
           clear H
           go_wp2
           go_roundg kj6
           case measure=>have:=HK1.out;have:=HJ6.out;omega
           case rel=>exact⟨(x4_1),(true),(wrap64 (x13_1+1)),a8,a8,a8,H',⟨by have:=HK1.out;have:=HJ6.out;omega⟩,dk⟩
          ·replace ek:=Bool.eq_false_iff.mpr ek
           subst ek
           have H1:=H;rw[if_neg (show¬(false=true) by decide)] at H1
           clear H
           have H:=H1
           clear H1
           have H':=aa.mk H
           clear H
           go_wp2
           go_roundg kj6
           case measure=>have:=HK1.out;have:=HJ6.out;omega
           case rel=>exact⟨(wrap64 (x4_1*(rd l0 x13_1))),(x5_1),(wrap64 (x13_1+1)),a8,a8,a8,H',⟨by have:=HK1.out;have:=HJ6.out;omega⟩,dk⟩
      ·rw[if_neg c5] at H
       exact absurd H (by simp)
     ·rw[if_neg c4] at H
      exact absurd H (by simp)
    ·rw[if_neg c3] at H
     have c3b0:=decide_eq_false c3
     clear c3
     by_cases eW:x5_1=true
     ·subst eW
      have H1:=H;rw[if_pos rfl] at H1
      clear H
      have H:=H1
      clear H1
      simp only[Option.some.injEq,Prod.mk.injEq] at H
      obtain⟨rfl,rfl⟩:=H
      go_wp2
      go_ret2
      exact⟨a8,dk⟩
     ·replace eW:=Bool.eq_false_iff.mpr eW
      subst eW
      have H1:=H;rw[if_neg (show¬(false=true) by decide)] at H1
      clear H
      have H:=H1
      clear H1
      simp only[Option.some.injEq,Prod.mk.injEq] at H
      obtain⟨rfl,rfl⟩:=H
      go_wp2
      go_ret2
      exact⟨a8,dk⟩
noncomputable def dc.l0:Nat→Int→Int→List Int→Int→Int→Option (Int)
 |0,_,_,_,_,_=>none
 |k+1,x1,x5,x8,x9,x10=>if x10<x9 then(if 0≤x10 then(if x10<(x8.length:Int) then(if(rd x8 x10)=0 then(none) else(dc.l0 k (wrap64 (Int.tdiv x1 (rd x8 x10))) (wrap64 ((wrap64 (x5*(rd x8 x10)))+(Int.tmod x1 (rd x8 x10)))) x8 x9 (wrap64 (x10+1)))) else(none)) else(none)) else(some x5)
noncomputable def dc.f(k:Nat)(l0:List Int)(a1:Int):Option (Int):=dc.l0 k a1 0 l0 (l0.length:Int) 0
set_option maxHeartbeats 8000000 in
set_option maxRecDepth 100000 in
theorem dc.calls(k:Nat)(A0:Option Addr)(c0:Nat)(l0:List Int)(a1:Int)(r:Int)(w:World)(hr0:Kd.C (Kd.int .i64) w A0 l0.length l0)(hc0:l0.length≤c0)(h:dc.f k l0 a1=some r):
  Calls Tryz.prog 105 #[.slice A0 l0.length c0, .int .i64 a1] w fun e w'=>e= .returned (.int .i64 r)∧au w w':=by
 have HR0:=aa.mk hr0
 have HC0:=aa.mk hc0
 clear hr0 hc0
 have H:=h;unfold dc.f at H
 clear h
 have H':=aa.mk H
 clear H
 go_enter Tryz.func105,Tryz.ntmps105
 go_wp2
 go_loopg [1,5,10] k (fun kq v1 v5 v10 w'=> ∃(x1_1:Int) (x5_1:Int) (x10_1:Int),v1= .int .i64 x1_1∧v5= .int .i64 x5_1∧v10= .int .i64 x10_1∧aa (dc.l0 kq x1_1 x5_1 l0 (l0.length:Int) x10_1=some r)∧aa (kq≤k)∧au w w')
 case atStart=>exact⟨(a1),(0),(0),a8,a8,a8,H',⟨Nat.le_refl _⟩,dk⟩
 case round=>
  clear H'
  obtain⟨x1_1,x5_1,x10_1,rfl,rfl,rfl,HA,HK1,⟨m1,rfl⟩⟩:=hrel
  cases gk with
  |zero=>exact absurd HA.out (by simp[dc.l0])
  |succ k1=>
   have H:=HA.out
   clear HA
   simp only[dc.l0] at H
   by_cases c3:x10_1<(l0.length:Int)
   ·rw[if_pos c3] at H
    have c3b0:=decide_eq_true c3
    clear c3
    by_cases c4:0≤x10_1
    ·rw[if_pos c4] at H
     have c4b0:=decide_eq_true c4
     clear c4
     by_cases c5:x10_1<(l0.length:Int)
     ·rw[if_pos c5] at H
      have c5b0:=decide_eq_true c5
      clear c5
      by_cases c6:(rd l0 x10_1)=0
      ·rw[if_pos c6] at H
       exact absurd H (by simp)
      ·rw[if_neg c6] at H
       have c6b0:=beq_eq_false_iff_ne.mpr c6
       have c6b1:=bne_iff_ne.mpr c6
       have H':=aa.mk H
       clear H
       have p102:0≤(x10_1:Int):=of_decide_eq_true (by assumption)
       have q102:x10_1<(l0.length:Int):=of_decide_eq_true (by assumption)
       obtain⟨ad102,e102,hx102_0⟩:=Kd.cR HR0.out x10_1 p102 q102
       cases e102
       replace p102:=eq_true p102
       replace q102:=eq_true q102
       go_wp2
       go_roundg k1
       case measure=>have:=HK1.out;omega
       case rel=>exact⟨(wrap64 (Int.tdiv x1_1 (rd l0 x10_1))),(wrap64 ((wrap64 (x5_1*(rd l0 x10_1)))+(Int.tmod x1_1 (rd l0 x10_1)))),(wrap64 (x10_1+1)),a8,a8,a8,H',⟨by have:=HK1.out;omega⟩,dk⟩
     ·rw[if_neg c5] at H
      exact absurd H (by simp)
    ·rw[if_neg c4] at H
     exact absurd H (by simp)
   ·rw[if_neg c3] at H
    have c3b0:=decide_eq_false c3
    clear c3
    obtain rfl:=Option.some.inj H
    go_wp2
    go_ret
    exact⟨a8,dk⟩
noncomputable def cG.l0:Nat→List Int→List Int→List Int→Int→Int→Option (List Int×Int)
 |0,_,_,_,_,_=>none
 |k+1,x1,x8,x25,x26,x27=>if x27<x26 then(if 0≤x27 then(if x27<(x25.length:Int) then((dc.f k x1 x27).bind fun t109=>(if 0≤t109 then(if t109<(x8.length:Int) then(cG.l0 k x1 (x8.set (t109:Int).toNat (rd x25 x27)) x25 x26 (wrap64 (x27+1))) else(none)) else(none))) else(none)) else(none)) else(some (x8,0))
noncomputable def cG.f(k:Nat)(l0:List Int)(l1:List Int):Option (List Int×Int):=(bR.f k l1).bind fun bt103=>(if bt103.2=0 then(if(l0.length:Int)=bt103.1 then(if 0≤bt103.1 then(if(bt103.1:Int).toNat≤35184372088832 then(cG.l0 k l1 (List.replicate (bt103.1:Int).toNat 0) l0 (l0.length:Int) 0) else(none)) else(none)) else(some (([]:List Int),1))) else(some (([]:List Int),bt103.2)))
set_option maxHeartbeats 8000000 in
set_option maxRecDepth 100000 in
theorem cG.calls(k:Nat)(A0:Option Addr)(c0:Nat)(l0:List Int)(A1:Option Addr)(c1:Nat)(l1:List Int)(r1:List Int)(r2:Int)(w:World)(hr0:Kd.C (Kd.int .u64) w A0 l0.length l0)(hc0:l0.length≤c0)(hr1:Kd.C (Kd.int .i64) w A1 l1.length l1)(hc1:l1.length≤c1)(h:cG.f k l0 l1=some (r1,r2)):
  Calls Tryz.prog 67 #[.slice A0 l0.length c0, .slice A1 l1.length c1] w fun e w'=> ∃v0_:Value,e= .returned (.tuple #[v0_, .int .i64 r2])∧Kd.R (Kd.int .u64) 22 w' w.heap.size (fun _=>True) v0_ r1∧Below w.heap.size w w':=by
 have HR0:=aa.mk hr0
 have HC0:=aa.mk hc0
 clear hr0 hc0
 have HR1:=aa.mk hr1
 have HC1:=aa.mk hc1
 clear hr1 hc1
 have HB:=aa.mk (Below.refl w.heap.size w)
 have H:=h;unfold cG.f at H
 clear h
 replace H:=Option.bind_eq_some_iff.mp H
 obtain⟨⟨t103,t104⟩,A30,H⟩:=H
 (try dsimp only at H)
 have A3:=aa.mk A30
 clear A30
 by_cases c4:t104=0
 ·rw[if_pos c4] at H
  have c4b0:=beq_iff_eq.mpr c4
  have c4b1:=bne_eq_false_iff_eq.mpr c4
  clear c4
  by_cases c5:(l0.length:Int)=t103
  ·rw[if_pos c5] at H
   have c5b0:=beq_iff_eq.mpr c5
   have c5b1:=bne_eq_false_iff_eq.mpr c5
   clear c5
   by_cases c6:0≤t103
   ·rw[if_pos c6] at H
    have c6b0:=eq_true c6
    have c6b1:=decide_eq_true c6
    clear c6
    by_cases c7:(t103:Int).toNat≤35184372088832
    ·rw[if_pos c7] at H
     have c7b0:=eq_true c7
     have c7b1:=decide_eq_true c7
     clear c7
     obtain⟨y105,hy105⟩: ∃y_:List Int,y_=(List.replicate (t103:Int).toNat 0):=⟨_,rfl⟩
     replace H:(cG.l0 k l1 y105 l0 (l0.length:Int) 0)=some (r1,r2):=by first|(rw[hy105];with_reducible exact H)|(have H2_:=(Option.bind_some _ _).symm.trans H;rw[hy105];with_reducible exact H2_)|(have H2_:=(Option.bind_some _ _).symm.trans H;with_reducible exact H2_)|with_reducible exact H|(rw[hy105];exact H)|exact H
     have Ny105:=aa.mk hy105
     clear hy105
     have H':=aa.mk H
     clear H
     go_enter Tryz.func67,Tryz.ntmps67
     go_wp2_with (first|(refine fh 13 Tryz.func104 #[.slice A1 l1.length c1] rfl ?_;(with_reducible refine(bR.calls k _ _ l1 t103 t104 _ ?side1 ?side2 A3.out).mono ?_);(case side1=>exact cw HR1.out);(case side2=>exact HC1.out);rintro e w' ⟨rfl,⟨nd,rfl⟩⟩;refine⟨_,rfl,?_⟩)|((with_reducible refine bk (N:=24) rfl ?_);refine Kd.jc (Kd.int .u64) _ 22 rfl (N:=24) rfl 26 _ _ rfl t103 rfl rfl Tryz.underlying26 (.int .u64 0) 8 gE rfl (by decide) (by omega) 0 (ok:=fun _=>True) (okp:=fun _=>True) rfl (fun _ hk=>hk) trivial (of_decide_eq_true (by assumption)) (Nat.le_trans (Nat.mul_le_mul_right _ (of_decide_eq_true (by assumption):t103.toNat≤35184372088832)) (by omega)) (Below.refl _ _) (Nat.le_refl _) ?_;intro v106 w8 ho9 hb hg_ hnew_;clear hg_ hnew_;(first|rw[←Ny105.out] at ho9|(simp only[Int.reduceToNat] at ho9;rw[←Ny105.out] at ho9));have n0_:=aa.mk (Kd.bN ho9 (ai ak));have n1_:=aa.mk (ah ak hb);clear HB;have HO107:=n0_;have HB:=n1_;clear n0_ n1_;clear hb ho9))
     go_loopg [27] k (fun kq v27 w'=> ∃(x8_1:List Int) (x27_1:Int),v27= .int .i64 x27_1∧aa (cG.l0 kq l1 x8_1 l0 (l0.length:Int) x27_1=some (r1,r2))∧aa (kq≤k)∧aa (Kd.R (Kd.int .u64) 22 w' w.heap.size (fun _=>True) v106 x8_1)∧aa (Below w.heap.size w w'))
     case atStart=>exact⟨(y105),(0),a8,H',⟨Nat.le_refl _⟩,⟨bK HO107.out⟩,⟨ak⟩⟩
     case round=>
      clear H'
      obtain⟨x8_1,x27_1,rfl,HA,HK1,HO_8,HB⟩:=hrel
      cases gk with
      |zero=>exact absurd HA.out (by simp[cG.l0])
      |succ k1=>
       have H:=HA.out
       clear HA
       simp only[cG.l0] at H
       by_cases ek:x27_1<(l0.length:Int)
       ·rw[if_pos ek] at H
        have c10b0:=decide_eq_true ek
        clear ek
        by_cases eW:0≤x27_1
        ·rw[if_pos eW] at H
         have c11b0:=decide_eq_true eW
         clear eW
         by_cases iR:x27_1<(l0.length:Int)
         ·rw[if_pos iR] at H
          have c12b0:=decide_eq_true iR
          clear iR
          replace H:=Option.bind_eq_some_iff.mp H
          obtain⟨t109,A130,H⟩:=H
          (try dsimp only at H)
          have A13:=aa.mk A130
          clear A130
          by_cases fa:0≤t109
          ·rw[if_pos fa] at H
           have c14b0:=decide_eq_true fa
           clear fa
           by_cases iK:t109<(x8_1.length:Int)
           ·rw[if_pos iK] at H
            have c15b0:=decide_eq_true iK
            clear iK
            obtain⟨y110,hy110⟩: ∃y_:List Int,y_=(x8_1.set (t109:Int).toNat (rd l0 x27_1)):=⟨_,rfl⟩
            replace H:(cG.l0 k1 l1 y110 l0 (l0.length:Int) (wrap64 (x27_1+1)))=some (r1,r2):=by first|(rw[hy110];with_reducible exact H)|(have H2_:=(Option.bind_some _ _).symm.trans H;rw[hy110];with_reducible exact H2_)|(have H2_:=(Option.bind_some _ _).symm.trans H;with_reducible exact H2_)|with_reducible exact H|(rw[hy110];exact H)|exact H
            have Ny110:=aa.mk hy110
            clear hy110
            have H':=aa.mk H
            clear H
            have p108:0≤(x27_1:Int):=of_decide_eq_true (by assumption)
            have q108:x27_1<(l0.length:Int):=of_decide_eq_true (by assumption)
            obtain⟨ad108,e108,hx108_0⟩:=Kd.cR HR0.out x27_1 p108 q108
            cases e108
            replace hx108_0:=dP HB.out hx108_0
            replace p108:=eq_true p108
            replace q108:=eq_true q108
            go_wp2_with (first|(refine fh 35 Tryz.func105 #[.slice A1 l1.length c1, .int .i64 x27_1] rfl ?_;(with_reducible refine(dc.calls k1 _ _ l1 x27_1 t109 _ ?side1 ?side2 A13.out).mono ?_);(case side1=>exact cw (Kd.bu HR1.out HB.out));(case side2=>exact HC1.out);rintro e w' ⟨rfl,⟨nd,rfl⟩⟩;refine⟨_,rfl,?_⟩;(try(rw[ks wr];generalize hq_:World.drewN wr _=wr;have n0_:aa (Kd.R (Kd.int .u64) 22 wr w.heap.size (fun _=>True) v106 x8_1):=⟨by rw[←hq_];exact(bK HO_8.out)⟩;have n1_:aa (Below w.heap.size w wr):=⟨by rw[←hq_];exact ak⟩;clear HO_8 HB hq_;have HO_8:=n0_;have HB:=n1_;clear n0_ n1_));have p16:0≤(t109:Int):=of_decide_eq_true (by assumption);have q16:(t109:Int)<((x8_1.length:Int):Int):=of_decide_eq_true (by assumption);obtain⟨go16,co16,eo16,gb16,gl16,cl16,HG16⟩:=Kd.fY HO_8.out (by omega);(first|cases eo16|(injection eo16 with ea_ en_ ec_;(first|subst ea_|(injection ea_ with ea_;subst ea_));subst ec_;clear en_));have GB16:=aa.mk gb16;have GG16:=aa.mk HG16;clear gb16 gl16 HG16;obtain⟨hx16_0,hf16_0⟩:=Kd.eE 0 HO_8.out (t109:Int) p16 q16;replace p16:=eq_true p16;replace q16:=eq_true q16;obtain⟨hy17_,hz17_⟩:=Kd.eE 0 HO_8.out (t109:Int) (of_decide_eq_true (by assumption)) (of_decide_eq_true (by assumption));have HP17:=Kd.iF HO_8.out (t109:Int) (rd l0 x27_1))|((with_reducible refine eQ (t:=22) (p:=37) rfl ?_);refine eC (t:=22) (p:=37) (v:=?vo_w18) (w1:=(wr.setCell ⟨go16,(t109:Int).toNat,none⟩ (.int .u64 (rd l0 x27_1)))) ?hg ?ho ?hn ?hr ?_;(case ho=>rfl);(case hg=>rfl);(case hn=>rfl);(case hr=>first|(go_simp;done)|(go_simp;rfl));intro w18 hw;have hg:wr.grownBy w18 (some go16):=(by rw[hw];exact HP17.2);have hp_:Kd.R (Kd.int .u64) 22 w18 w.heap.size (fun _=>True) (.slice (some ⟨go16,0,none⟩) x8_1.length co16) y110:=(by rw[hw,Ny110.out];exact HP17.1);clear HP17;have n0_:=aa.mk (hp_);have n1_:=aa.mk ((by rw[hw];exact cg (HB.out) GB16.out:Below w.heap.size w w18));clear HO_8;clear HB;have HO_8:=n0_;have HB:=n1_;clear n0_ n1_;clear hg hw hp_))
            go_roundg k1
            case measure=>have:=HK1.out;omega
            case rel=>exact⟨(y110),(wrap64 (x27_1+1)),a8,H',⟨by have:=HK1.out;omega⟩,⟨bK HO_8.out⟩,⟨ak⟩⟩
           ·rw[if_neg iK] at H
            exact absurd H (by simp)
          ·rw[if_neg fa] at H
           exact absurd H (by simp)
         ·rw[if_neg iR] at H
          exact absurd H (by simp)
        ·rw[if_neg eW] at H
         exact absurd H (by simp)
       ·rw[if_neg ek] at H
        have c10b0:=decide_eq_false ek
        clear ek
        simp only[Option.some.injEq,Prod.mk.injEq] at H
        obtain⟨rfl,rfl⟩:=H
        go_wp2
        go_ret2
        exact⟨_,a8,bK HO_8.out,ak⟩
    ·rw[if_neg c7] at H
     exact absurd H (by simp)
   ·rw[if_neg c6] at H
    exact absurd H (by simp)
  ·rw[if_neg c5] at H
   have c5b0:=beq_eq_false_iff_ne.mpr c5
   have c5b1:=bne_iff_ne.mpr c5
   simp only[Option.some.injEq,Prod.mk.injEq] at H
   obtain⟨rfl,rfl⟩:=H
   go_enter Tryz.func67,Tryz.ntmps67
   go_wp2_with (first|(refine fh 13 Tryz.func104 #[.slice A1 l1.length c1] rfl ?_;(with_reducible refine(bR.calls k _ _ l1 t103 t104 _ ?side1 ?side2 A3.out).mono ?_);(case side1=>exact cw HR1.out);(case side2=>exact HC1.out);rintro e w' ⟨rfl,⟨nd,rfl⟩⟩;refine⟨_,rfl,?_⟩))
   go_ret2
   exact⟨_,a8,tO,ak⟩
 ·rw[if_neg c4] at H
  have c4b0:=beq_eq_false_iff_ne.mpr c4
  have c4b1:=bne_iff_ne.mpr c4
  simp only[Option.some.injEq,Prod.mk.injEq] at H
  obtain⟨rfl,rfl⟩:=H
  go_enter Tryz.func67,Tryz.ntmps67
  go_wp2_with (first|(refine fh 13 Tryz.func104 #[.slice A1 l1.length c1] rfl ?_;(with_reducible refine(bR.calls k _ _ l1 t103 t104 _ ?side1 ?side2 A3.out).mono ?_);(case side1=>exact cw HR1.out);(case side2=>exact HC1.out);rintro e w' ⟨rfl,⟨nd,rfl⟩⟩;refine⟨_,rfl,?_⟩))
  go_ret2
  exact⟨_,a8,tO,ak⟩
noncomputable def di.f(l0_0:List (cn))(l0_1:List Int)(a0_2:Int)(a0_3:Int)(a1:Int):Option (Int):=if(wrap64 (a0_2*a0_3))=0 then(none) else(if(l0_1.length:Int)=0 then(none) else(if 0≤(Int.tmod (wrap64 (a1*(wrap64 (Int.tdiv (l0_1.length:Int) (wrap64 (a0_2*a0_3)))))) (l0_1.length:Int)) then(if(Int.tmod (wrap64 (a1*(wrap64 (Int.tdiv (l0_1.length:Int) (wrap64 (a0_2*a0_3)))))) (l0_1.length:Int))<(l0_1.length:Int) then(some (rd l0_1 (Int.tmod (wrap64 (a1*(wrap64 (Int.tdiv (l0_1.length:Int) (wrap64 (a0_2*a0_3)))))) (l0_1.length:Int)))) else(none)) else(none)))
set_option maxHeartbeats 8000000 in
set_option maxRecDepth 100000 in
theorem di.calls(A0_0:Option Addr)(c0_0:Nat)(l0_0:List (cn))(A0_1:Option Addr)(c0_1:Nat)(l0_1:List Int)(a0_2:Int)(a0_3:Int)(a1:Int)(r:Int)(w:World)(hr0_0:Kd.C fB w A0_0 l0_0.length l0_0)(hc0_0:l0_0.length≤c0_0)(hr0_1:Kd.C (Kd.int .u64) w A0_1 l0_1.length l0_1)(hc0_1:l0_1.length≤c0_1)(h:di.f l0_0 l0_1 a0_2 a0_3 a1=some r):
  Calls Tryz.prog 133 #[.agg #[bh (.slice A0_0 l0_0.length c0_0), .slice A0_1 l0_1.length c0_1, .int .i64 a0_2, .int .i64 a0_3], .int .i64 a1] w fun e w'=>e= .returned (.int .u64 r)∧Below w.heap.size w w':=by
 have hu104:=Tryz.underlying104
 have HR0_0:=aa.mk hr0_0
 have HC0_0:=aa.mk hc0_0
 clear hr0_0 hc0_0
 have HR0_1:=aa.mk hr0_1
 have HC0_1:=aa.mk hc0_1
 clear hr0_1 hc0_1
 have HB:=aa.mk (Below.refl w.heap.size w)
 have H:=h;unfold di.f at H
 clear h
 by_cases c3:(wrap64 (a0_2*a0_3))=0
 ·rw[if_pos c3] at H
  exact absurd H (by simp)
 ·rw[if_neg c3] at H
  have c3b0:=beq_eq_false_iff_ne.mpr c3
  have c3b1:=bne_iff_ne.mpr c3
  by_cases c4:(l0_1.length:Int)=0
  ·rw[if_pos c4] at H
   exact absurd H (by simp)
  ·rw[if_neg c4] at H
   have c4b0:=beq_eq_false_iff_ne.mpr c4
   have c4b1:=bne_iff_ne.mpr c4
   have c4b2: ¬(l0_1=[]):=fun h_=>c4 (by rw[h_];rfl)
   obtain⟨ji5,hji5⟩: ∃j_:Int,(Int.tmod (wrap64 (a1*(wrap64 (Int.tdiv (l0_1.length:Int) (wrap64 (a0_2*a0_3)))))) (l0_1.length:Int))=j_:=⟨_,rfl⟩
   (first|rw[hji5] at H|simp only[hji5] at H)
   (try have hji5q_:(Int.tmod (wrap64 (a1*(wrap64 ((l0_1.length:Int)/(wrap64 (a0_2*a0_3)))))) (l0_1.length:Int))=ji5:=by rw[←Int.tdiv_eq_ediv_of_nonneg (by omega)];exact hji5)
   have hji5v:(Int.tmod (IntKind.i64.wrap (a1*(IntKind.i64.wrap (Int.tdiv (l0_1.length:Int) (IntKind.i64.wrap (a0_2*a0_3)))))) (l0_1.length:Int))=ji5:=by simp only[bp];exact hji5
   by_cases c6:0≤(ji5)
   ·rw[if_pos c6] at H
    have c6b0:=decide_eq_true c6
    clear c6
    by_cases c7:(ji5)<(l0_1.length:Int)
    ·rw[if_pos c7] at H
     have c7b0:=decide_eq_true c7
     clear c7
     obtain rfl:=Option.some.inj H
     go_enter Tryz.func133,Tryz.ntmps133
     go_wp2_with (first|((with_reducible refine bk (N:=2) rfl ?_);refine jg 2 #[bh (.slice A0_0 l0_0.length c0_0), .slice A0_1 l0_1.length c0_1, .int .i64 a0_2, .int .i64 a0_3] 104 ?_;intro gb111 hg w8 hbox hb;have n0_:=aa.mk (ah ak hb);have n1_:=aa.mk (hbox);have n2_:=aa.mk ((by rw[hg];exact(ai ak):w.heap.size≤gb111));have n3_:=aa.mk ((by rw[hg];exact(ai ak):w.heap.size≤gb111));clear HB;have HB:=n0_;have BK111:=n1_;have GW111:=n2_;have GE111:=n3_;clear n0_ n1_ n2_ n3_;clear hb hbox hg;have hcz9_0:=bt BK111.out 0 rfl;have hcz9_1:=bt BK111.out 1 rfl;have hcz9_2:=bt BK111.out 2 rfl;have hcz9_3:=bt BK111.out 3 rfl;have hfz9_0:=ab BK111.out 0;have hfz9_1:=ab BK111.out 1;have hfz9_2:=ab BK111.out 2;have hfz9_3:=ab BK111.out 3;have p112:0≤((ji5):Int):=of_decide_eq_true (by assumption);have q112:(ji5)<(l0_1.length:Int):=of_decide_eq_true (by assumption);obtain⟨ad112,e112,hx112_0⟩:=Kd.cR HR0_1.out (ji5) p112 q112;cases e112;replace hx112_0:=dP HB.out hx112_0;replace p112:=eq_true p112;replace q112:=eq_true q112))
     repeat(go_quiet (first|((with_reducible refine bk (N:=2) rfl ?_);refine jg 2 #[bh (.slice A0_0 l0_0.length c0_0), .slice A0_1 l0_1.length c0_1, .int .i64 a0_2, .int .i64 a0_3] 104 ?_;intro gb111 hg w8 hbox hb;have n0_:=aa.mk (ah ak hb);have n1_:=aa.mk (hbox);have n2_:=aa.mk ((by rw[hg];exact(ai ak):w.heap.size≤gb111));have n3_:=aa.mk ((by rw[hg];exact(ai ak):w.heap.size≤gb111));clear HB;have HB:=n0_;have BK111:=n1_;have GW111:=n2_;have GE111:=n3_;clear n0_ n1_ n2_ n3_;clear hb hbox hg;have hcz9_0:=bt BK111.out 0 rfl;have hcz9_1:=bt BK111.out 1 rfl;have hcz9_2:=bt BK111.out 2 rfl;have hcz9_3:=bt BK111.out 3 rfl;have hfz9_0:=ab BK111.out 0;have hfz9_1:=ab BK111.out 1;have hfz9_2:=ab BK111.out 2;have hfz9_3:=ab BK111.out 3;have p112:0≤((ji5):Int):=of_decide_eq_true (by assumption);have q112:(ji5)<(l0_1.length:Int):=of_decide_eq_true (by assumption);obtain⟨ad112,e112,hx112_0⟩:=Kd.cR HR0_1.out (ji5) p112 q112;cases e112;replace hx112_0:=dP HB.out hx112_0;replace p112:=eq_true p112;replace q112:=eq_true q112));try go_wp2_with (first|((with_reducible refine bk (N:=2) rfl ?_);refine jg 2 #[bh (.slice A0_0 l0_0.length c0_0), .slice A0_1 l0_1.length c0_1, .int .i64 a0_2, .int .i64 a0_3] 104 ?_;intro gb111 hg w8 hbox hb;have n0_:=aa.mk (ah ak hb);have n1_:=aa.mk (hbox);have n2_:=aa.mk ((by rw[hg];exact(ai ak):w.heap.size≤gb111));have n3_:=aa.mk ((by rw[hg];exact(ai ak):w.heap.size≤gb111));clear HB;have HB:=n0_;have BK111:=n1_;have GW111:=n2_;have GE111:=n3_;clear n0_ n1_ n2_ n3_;clear hb hbox hg;have hcz9_0:=bt BK111.out 0 rfl;have hcz9_1:=bt BK111.out 1 rfl;have hcz9_2:=bt BK111.out 2 rfl;have hcz9_3:=bt BK111.out 3 rfl;have hfz9_0:=ab BK111.out 0;have hfz9_1:=ab BK111.out 1;have hfz9_2:=ab BK111.out 2;have hfz9_3:=ab BK111.out 3;have p112:0≤((ji5):Int):=of_decide_eq_true (by assumption);have q112:(ji5)<(l0_1.length:Int):=of_decide_eq_true (by assumption);obtain⟨ad112,e112,hx112_0⟩:=Kd.cR HR0_1.out (ji5) p112 q112;cases e112;replace hx112_0:=dP HB.out hx112_0;replace p112:=eq_true p112;replace q112:=eq_true q112)))
     go_ret
     exact⟨by first|rfl|(simp[dU,dX]<;>rfl)|(simp only[←hji5];first|rfl|(simp[dU,dX]<;>rfl))|(simp[*,dU,dX]<;>rfl),ak⟩
    ·rw[if_neg c7] at H
     exact absurd H (by simp)
   ·rw[if_neg c6] at H
    exact absurd H (by simp)
end Go.Proofs.YtndkmnjbjlfeaaaGreat.XM
end
section
namespace Go.Proofs.YtndkmnjbjlfeaaaGreat.XM
open Go.RowKit Go.Proofs.YtndkmnjbjlfeaaaGreat.Given Go.Proofs.YtndkmnjbjlfeaaaGreat.Row05 Go.Proofs.YtndkmnjbjlfeaaaGreat.XS Go.Proofs.YtndkmnjbjlfeaaaGreat.XT Go.Proofs.YtndkmnjbjlfeaaaGreat.XR Go.Proofs.YtndkmnjbjlfeaaaGreat.F06 Go.Proofs.YtndkmnjbjlfeaaaGreat.XK Go.Proofs.YtndkmnjbjlfeaaaGreat.XW Go.Proofs.YtndkmnjbjlfeaaaGreat.XG Go.Proofs.YtndkmnjbjlfeaaaGreatW.PrintWords Go.Proofs.YtndkmnjbjlfeaaaGreatW.PrintLast Go.Proofs.YtndkmnjbjlfeaaaGreatW.PrintMore
attribute [local go_sem] bU bS ct cr bw bz bP bT
set_option linter.unusedVariables false
set_option linter.unusedSimpArgs false
mutual
noncomputable def ar.l0(s9 n9:Nat):Nat→List Int→Int→List Int→Int→Int→List (cn)→List Int→Int→Int→Option (List Int)
 |0,_,_,_,_,_,_,_,_,_=>none
 |k+1,x1,x2,x6,x16,x17,x114000,x114001,x114002,x114003=>if x17<x16 then((di.f x114000 x114001 x114002 x114003 (wrap64 (x17*x2))).bind fun t117=>(if 0≤(wrap64 ((wrap64 (x17*x114003))+x2)) then(if(wrap64 ((wrap64 (x17*x114003))+x2))<(n9:Int) then((bb.f x114000 t117 (zm s9 x1 (wrap64 ((wrap64 (x17*x114003))+x2)))).bind fun t119=>(if 0≤x17 then(if x17<(x6.length:Int) then(ar.l0 s9 n9 k x1 x2 (x6.set (x17:Int).toNat t119) x16 (wrap64 (x17+1)) x114000 x114001 x114002 x114003) else(none)) else(none))) else(none)) else(none))) else(ar.l1 s9 n9 k x1 x2 x6 (x6.length:Int) 0 x114000 x114001 x114002 x114003)
noncomputable def ar.l1(s9 n9:Nat):Nat→List Int→Int→List Int→Int→Int→List (cn)→List Int→Int→Int→Option (List Int)
 |0,_,_,_,_,_,_,_,_,_=>none
 |k+1,x1,x2,x6,x42,x43,x114000,x114001,x114002,x114003=>if x43<x42 then(ar.l2 s9 n9 k x1 x2 x6 x43 0 x42 x43 x6 (x6.length:Int) 0 x114000 x114001 x114002 x114003) else(some x1)
noncomputable def ar.l2(s9 n9:Nat):Nat→List Int→Int→List Int→Int→Int→Int→Int→List Int→Int→Int→List (cn)→List Int→Int→Int→Option (List Int)
 |0,_,_,_,_,_,_,_,_,_,_,_,_,_,_=>none
 |k+1,x1,x2,x6,x8,x9,x42,x43,x46,x47,x48,x114000,x114001,x114002,x114003=>if x48<x47 then(if 0≤x48 then(if x48<(x46.length:Int) then((di.f x114000 x114001 x114002 x114003 (wrap64 ((wrap64 (x48*x8))*x114003))).bind fun t123=>((bb.f x114000 t123 (rd x46 x48)).bind fun t124=>((cM.f x114000 x9 t124).bind fun t125=>(ar.l2 s9 n9 k x1 x2 x6 x8 t125 x42 x43 x46 x47 (wrap64 (x48+1)) x114000 x114001 x114002 x114003)))) else(none)) else(none)) else(if 0≤(wrap64 ((wrap64 (x8*x114003))+x2)) then(if(wrap64 ((wrap64 (x8*x114003))+x2))<(n9:Int) then(ar.l1 s9 n9 k (x1.set (s9+((wrap64 ((wrap64 (x8*x114003))+x2)):Int).toNat) x9) x2 x6 x42 (wrap64 (x43+1)) x114000 x114001 x114002 x114003) else(none)) else(none))
end
noncomputable def ar.f(s9 n9:Nat)(k:Nat)(l0_0:List (cn))(l0_1:List Int)(a0_2:Int)(a0_3:Int)(l1:List Int)(a2:Int):Option (List Int):=if 0≤a0_2 then(if(a0_2:Int).toNat≤35184372088832 then((some (List.replicate (a0_2:Int).toNat 0:List Int)).bind fun y114=>(ar.l0 s9 n9 k l1 a2 y114 (y114.length:Int) 0 l0_0 l0_1 a0_2 a0_3)) else(none)) else(none)
def ar.T5:Bool×List (List Nat×List Nat):=(true,[([],[]),([],[]),([],[]),([2],[2]),([],[]),([],[]),([],[]),([5,6],[5,6]),([4,7],[4,7]),([],[]),([],[]),([],[]),([11],[11]),([10,12],[10,12]),([],[]),([13,14],[13,14]),([9,15],[9,15]),([16],[16]),([3,8,17,8],[3,8,17]),([0,1,0,1,2,3,4,5,6,7,8,9,10,11,12,13,14,15,16,17,18],[0,1]),([19,18,18,0,1,2,3,4,5,6,7,8,9,10,11,12,13,14,15,16,17,18],[18,19])])
def ar.B5:List Nat:=[0,0,0,4,0,0,0,96,240,0,0,0,2048,7168,0,31744,65024,130560,262140,524287,1048575]
theorem ar.yV:fX .any (opsOf Tryz.f106 5)=ar.T5:=by kernel_rfl
theorem ar.wM:fC ar.T5.2 ar.B5=true:=by kernel_rfl
def ar.Bf:Bool×List (List Nat×List Nat):=(true,[([],[]),([0],[0]),([],[]),([],[]),([3],[3]),([],[]),([],[]),([],[]),([6,7],[6,7]),([],[]),([9],[9]),([8,10],[8,10]),([5,11],[5,11]),([],[]),([4,12,13,12],[4,12,13]),([1,2,14,14],[1,2,14]),([15,15,0,1,2,3,4,5,6,7,8,9,10,11,12,13,14,15],[2,15])])
def ar.Bk:List Nat:=[0,1,0,0,8,0,0,0,192,0,512,1984,4064,0,16376,32767,65535]
theorem ar.As:fX .any (opsOf Tryz.f106 14)=ar.Bf:=by kernel_rfl
theorem ar.yN:fC ar.Bf.2 ar.Bk=true:=by kernel_rfl
set_option maxHeartbeats 8000000 in
set_option maxRecDepth 100000 in
theorem ar.calls(k:Nat)(A0_0:Option Addr)(c0_0:Nat)(l0_0:List (cn))(A0_1:Option Addr)(c0_1:Nat)(l0_1:List Int)(a0_2:Int)(a0_3:Int)(P1_:Nat→Prop)(g9 s9 n9 cp9 co9:Nat)(l1:List Int)(a2:Int)(r:List Int)(w0 w:World)(hB:Below w0.heap.size w0 w)(hr0_0: ∀W_,Kept w W_ (fun k_=>P1_ k_)→Kd.C fB W_ A0_0 l0_0.length l0_0)(hc0_0:l0_0.length≤c0_0)(hr0_1: ∀W_,Kept w W_ (fun k_=>P1_ k_)→Kd.C (Kd.int .u64) W_ A0_1 l0_1.length l0_1)(hc0_1:l0_1.length≤c0_1)(ho1:Kd.R (Kd.int .u64) 22 w w0.heap.size P1_ (.slice (some ⟨g9,0,none⟩) l1.length co9) l1)(hs9:s9+n9≤l1.length)(h:ar.f s9 n9 k l0_0 l0_1 a0_2 a0_3 l1 a2=some r):
  Calls Tryz.prog 106 #[.agg #[bh (.slice A0_0 l0_0.length c0_0), .slice A0_1 l0_1.length c0_1, .int .i64 a0_2, .int .i64 a0_3], .slice (some ⟨g9,s9,none⟩) n9 cp9, .int .i64 a2] w fun e w'=>e= .returned (.tuple #[])∧Kd.R (Kd.int .u64) 22 w' w0.heap.size (fun k_=>(P1_ k_∨w.heap.size≤k_)) (.slice (some ⟨g9,0,none⟩) l1.length co9) r∧Below w0.heap.size w0 w'∧Kept w w' (fun k_=>P1_ k_):=by
 have hu104:=Tryz.underlying104
 have HS9:=aa.mk hs9
 clear hs9
 have HR0_0:=aa.mk hr0_0
 have HC0_0:=aa.mk hc0_0
 clear hr0_0 hc0_0
 have HR0_1:=aa.mk hr0_1
 have HC0_1:=aa.mk hc0_1
 clear hr0_1 hc0_1
 have HO1:=aa.mk (show Kd.R (Kd.int .u64) 22 w w0.heap.size (fun k_=>(P1_ k_∨w.heap.size≤k_)) (.slice (some ⟨g9,0,none⟩) l1.length co9) l1 from Kd.bE ho1 (fun k_ hk=>(.inl hk)))
 have HK:=aa.mk (Kept.refl w (fun k_=>P1_ k_))
 have HW0:=aa.mk hB.size
 have HB:=aa.mk hB
 clear hB
 have H:=h;unfold ar.f at H
 clear h
 by_cases c4:0≤a0_2
 ·rw[if_pos c4] at H
  have c4b0:=eq_true c4
  have c4b1:=decide_eq_true c4
  clear c4
  by_cases c5:(a0_2:Int).toNat≤35184372088832
  ·rw[if_pos c5] at H
   have c5b0:=eq_true c5
   have c5b1:=decide_eq_true c5
   clear c5
   obtain⟨y114,hy114⟩: ∃y_:List Int,y_=(List.replicate (a0_2:Int).toNat 0):=⟨_,rfl⟩
   replace H:(ar.l0 s9 n9 k l1 a2 y114 (y114.length:Int) 0 l0_0 l0_1 a0_2 a0_3)=some r:=by first|(rw[hy114];with_reducible exact H)|(have H2_:=(Option.bind_some _ _).symm.trans H;rw[hy114];with_reducible exact H2_)|(have H2_:=(Option.bind_some _ _).symm.trans H;with_reducible exact H2_)|with_reducible exact H|(rw[hy114];exact H)|exact H
   have Ny114:=aa.mk hy114
   clear hy114
   have H':=aa.mk H
   clear H
   go_enter Tryz.func106,Tryz.ntmps106
   go_wp2_with (first|((with_reducible refine bk (N:=3) rfl ?_);refine jg 3 #[bh (.slice A0_0 l0_0.length c0_0), .slice A0_1 l0_1.length c0_1, .int .i64 a0_2, .int .i64 a0_3] 104 ?_;intro gb113 hg w6 hbox hb;have n0_:=aa.mk (Kd.dp (bK HO1.out) hb);have n1_:=aa.mk (Kept.below (S:=(fun k_=>P1_ k_)) im hb);have n2_:=aa.mk (ah ak hb);have n3_:=aa.mk (hbox);have n4_:=aa.mk ((by rw[hg];exact(by first|exact HK.out.1|exact(show Kept w _ (fun k_=>P1_ k_) from im).1):w.heap.size≤gb113));have n5_:=aa.mk ((by rw[hg];exact(ai ak):w0.heap.size≤gb113));clear HO1;clear HK;clear HB;have HO1:=n0_;have HK:=n1_;have HB:=n2_;have BK113:=n3_;have GW113:=n4_;have GE113:=n5_;clear n0_ n1_ n2_ n3_ n4_ n5_;clear hb hbox hg;have hcz7_0:=bt BK113.out 0 rfl;have hcz7_1:=bt BK113.out 1 rfl;have hcz7_2:=bt BK113.out 2 rfl;have hcz7_3:=bt BK113.out 3 rfl;have hfz7_0:=ab BK113.out 0;have hfz7_1:=ab BK113.out 1;have hfz7_2:=ab BK113.out 2;have hfz7_3:=ab BK113.out 3)|((with_reducible refine bk (N:=14) rfl ?_);refine Kd.jc (Kd.int .u64) _ 22 rfl (N:=14) rfl 26 _ _ rfl a0_2 rfl rfl Tryz.underlying26 (.int .u64 0) 8 gE rfl (by decide) (by omega) 0 (ok:=fun _=>True) (okp:=fun _=>True) rfl (fun _ hk=>hk) trivial (of_decide_eq_true (by assumption)) (Nat.le_trans (Nat.mul_le_mul_right _ (of_decide_eq_true (by assumption):a0_2.toNat≤35184372088832)) (by omega)) (Below.refl _ _) (Nat.le_refl _) ?_;intro v115 w8 ho9 hb hg_ hnew_;clear hg_ hnew_;(first|rw[←Ny114.out] at ho9|(simp only[Int.reduceToNat] at ho9;rw[←Ny114.out] at ho9));have n0_:=aa.mk (Kd.dm (bK HO1.out) (Kd.dS ho9) hb);have n1_:=aa.mk (Kd.bN (Kd.eD (Kd.rQ (M:=fun k_=>(P1_ k_∨w.heap.size≤k_)) ho9 (by first|exact HK.out.1|exact(show Kept w _ (fun k_=>P1_ k_) from im).1) (fun k_ h_=> .inr h_)) (Kd.ik (bK HO1.out))) (ai ak));have n2_:=aa.mk (aU BK113.out hb);have n3_:=aa.mk (Kept.below (S:=(fun k_=>P1_ k_)) im hb);have n4_:=aa.mk (ah ak hb);clear HO1;clear BK113;clear HK;clear HB;have HO1:=n0_;have HO116:=n1_;have BK113:=n2_;have HK:=n3_;have HB:=n4_;clear n0_ n1_ n2_ n3_ n4_;clear hb ho9;obtain⟨Ao10,co10,eo10⟩:=Kd.cb HO116.out;subst eo10))
   go_loopg [17] k (fun kq v17 w'=> ∃(x6_1:List Int) (x17_1:Int),v17= .int .i64 x17_1∧aa (ar.l0 s9 n9 kq l1 a2 x6_1 (y114.length:Int) x17_1 l0_0 l0_1 a0_2 a0_3=some r)∧aa (kq≤k)∧aa (Kd.R (Kd.int .u64) 22 w' w0.heap.size (fun k_=>(P1_ k_∨w.heap.size≤k_)∧some k_≠((.slice Ao10 y114.length co10):Value).ownBlock) (.slice (some ⟨g9,0,none⟩) l1.length co9) l1)∧aa (Kd.R (Kd.int .u64) 22 w' w0.heap.size (fun k_=>(P1_ k_∨w.heap.size≤k_)∧some k_≠((.slice (some ⟨g9,0,none⟩) l1.length co9):Value).ownBlock) (.slice Ao10 y114.length co10) x6_1)∧aa (w'.heap[gb113]?=some (.cells #[(bh (.slice A0_0 l0_0.length c0_0)),(.slice A0_1 l0_1.length c0_1), .int .i64 a0_2, .int .i64 a0_3] 104 (0,0)))∧aa (Kept w w' (fun k_=>P1_ k_))∧aa (Below w0.heap.size w0 w'))
   case atStart=>exact⟨(y114),(0),a8,H',⟨Nat.le_refl _⟩,⟨bK HO1.out⟩,⟨by(with_reducible repeat(first|apply Kd.bI|apply Kd.bL|apply Kd.bM));exact Kd.bE HO116.out (fun _ hk=>⟨hk.1.1,hk.2⟩)⟩,⟨cP BK113.out⟩,⟨im⟩,⟨ak⟩⟩
   case round=>
    clear H'
    obtain⟨x6_1,x17_1,rfl,HA,HK1,HO_1,HO_6,BK113,HK,HB⟩:=hrel
    have hl6_1:=(Kd.aT HO_6.out).1
    rw[hl6_1] at HO_6
    (try simp only[hl6_1])
    (try simp only[hl6_1] at BK113)
    (try simp only[hl6_1] at HO_1)
    cases gk with
    |zero=>exact absurd HA.out (by simp[ar.l0])
    |succ k1=>
     have H:=HA.out
     clear HA
     simp only[ar.l0] at H
     by_cases eW:x17_1<(y114.length:Int)
     ·rw[if_pos eW] at H
      have c11b0:=decide_eq_true eW
      (try(have c11b0hl6_1:=c11b0;simp only[hl6_1] at c11b0hl6_1))
      clear eW
      replace H:=Option.bind_eq_some_iff.mp H
      obtain⟨t117,A120,H⟩:=H
      (try dsimp only at H)
      have A12:=aa.mk A120
      clear A120
      obtain⟨ji13,hji13⟩: ∃j_:Int,(wrap64 ((wrap64 (x17_1*a0_3))+a2))=j_:=⟨_,rfl⟩
      (first|rw[hji13] at H|simp only[hji13] at H)
      (try rw[hji13] at A12)
      have hji13v:(IntKind.i64.wrap ((IntKind.i64.wrap (x17_1*a0_3))+a2))=ji13:=by simp only[bp];exact hji13
      have hji13w:(IntKind.i64.wrap ((wrap64 (x17_1*a0_3))+a2))=ji13:=(bp _).trans hji13
      by_cases fa:0≤(ji13)
      ·rw[if_pos fa] at H
       have c14b0:=decide_eq_true fa
       clear fa
       by_cases iK:(ji13)<(n9:Int)
       ·rw[if_pos iK] at H
        have c15b0:=decide_eq_true iK
        (try(have c15b0hl6_1:=c15b0;simp only[hl6_1] at c15b0hl6_1))
        clear iK
        replace H:=Option.bind_eq_some_iff.mp H
        obtain⟨t119,A160,H⟩:=H
        (try dsimp only at H)
        have A16:=aa.mk A160
        clear A160
        by_cases gC:0≤x17_1
        ·rw[if_pos gC] at H
         have c17b0:=decide_eq_true gC
         clear gC
         by_cases ji:x17_1<(x6_1.length:Int)
         ·rw[if_pos ji] at H
          have c18b0:=decide_eq_true ji
          (try(have c18b0hl6_1:=c18b0;simp only[hl6_1] at c18b0hl6_1))
          clear ji
          obtain⟨y120,hy120⟩: ∃y_:List Int,y_=(x6_1.set (x17_1:Int).toNat t119):=⟨_,rfl⟩
          replace H:(ar.l0 s9 n9 k1 l1 a2 y120 (y114.length:Int) (wrap64 (x17_1+1)) l0_0 l0_1 a0_2 a0_3)=some r:=by first|(rw[hy120];with_reducible exact H)|(have H2_:=(Option.bind_some _ _).symm.trans H;rw[hy120];with_reducible exact H2_)|(have H2_:=(Option.bind_some _ _).symm.trans H;with_reducible exact H2_)|with_reducible exact H|(rw[hy120];exact H)|exact H
          have Ny120:=aa.mk hy120
          clear hy120
          have H':=aa.mk H
          clear H
          try go_wp2
          have n0_:=aa.mk (Kd.bM HO_1.out)
          have n1_:=aa.mk (Kd.bM HO_6.out)
          have n2_:=aa.mk (bG BK113.out)
          have n3_:=aa.mk (Kept.drew HK.out)
          have n4_:=aa.mk (bs HB.out)
          clear HO_1
          clear HO_6
          clear BK113
          clear HK
          clear HB
          have HO_1:=n0_
          have HO_6:=n1_
          have BK113:=n2_
          have HK:=n3_
          have HB:=n4_
          clear n0_ n1_ n2_ n3_ n4_
          have p118:0≤((ji13):Int):=of_decide_eq_true (by assumption)
          have q118:(ji13)<(n9:Int):=of_decide_eq_true (by assumption)
          have hx118_0:=(wC HO_1.out HS9.out (ji13) p118 q118).1
          replace p118:=eq_true p118
          replace q118:=eq_true q118
          refine fF (n:=21) (S:=fun w'=>w'.cell? ⟨gb113,0,none⟩=some (bh (.slice A0_0 l0_0.length c0_0))∧w'.cell? ⟨gb113,1,none⟩=some (.slice A0_1 l0_1.length c0_1)∧w'.cell? ⟨gb113,2,none⟩=some (.int .i64 a0_2)∧w'.cell? ⟨gb113,3,none⟩=some (.int .i64 a0_3)∧w'.cell? ⟨g9,s9+((ji13)).toNat,none⟩=some (.int .u64 (zm s9 l1 (ji13)))) (ds:=[20]) #[false,false,false,false,false,false,false,false,false,false,false,false,false,false,false,false,false,false,false,false,false] (by kernel_rfl) rfl rfl ⟨(aj BK113.out 0).trans rfl,(aj BK113.out 1).trans rfl,(aj BK113.out 2).trans rfl,(aj BK113.out 3).trans rfl,hx118_0⟩ (fun hHeld=>?_);refine dV ar.yV ar.wM (fun HT_ HW_=>?_)
          generalize wr.drew=w20 at HO_1 HO_6 BK113 HK HB hx118_0 hHeld ⊢
          refine dd 0 20 HT_ rfl rfl ?_
          refine dd 1 21 HT_ rfl rfl ?_
          refine dd 2 22 HT_ rfl rfl ?_
          refine dd 5 25 HT_ rfl rfl ?_
          refine dd 6 26 HT_ rfl rfl ?_
          refine dd 7 27 HT_ rfl rfl ?_
          refine dd 9 29 HT_ rfl rfl ?_
          refine dd 10 30 HT_ rfl rfl ?_
          refine dd 11 31 HT_ rfl rfl ?_
          refine dd 14 34 HT_ rfl rfl ?_
          refine jk 3 23 (ch HT_.out HW_.out (by kernel_rfl)) hHeld (by rintro w' ⟨s0,s1,s2,s3,s4⟩;go_simp;with_reducible rfl) rfl rfl ?_
          refine jk 4 24 (ch HT_.out HW_.out (by kernel_rfl)) hHeld (by rintro w' ⟨s0,s1,s2,s3,s4⟩;go_simp;with_reducible rfl) rfl rfl ?_
          refine jk 12 32 (ch HT_.out HW_.out (by kernel_rfl)) hHeld (by rintro w' ⟨s0,s1,s2,s3,s4⟩;go_simp;with_reducible rfl) rfl rfl ?_
          refine dd 13 33 HT_ rfl rfl ?_
          refine dd 15 35 HT_ rfl rfl ?_
          refine dd 16 36 HT_ rfl rfl ?_
          refine jk 17 37 (ch HT_.out HW_.out (by kernel_rfl)) hHeld (by rintro w' ⟨s0,s1,s2,s3,s4⟩;go_simp;with_reducible rfl) rfl rfl ?_
          refine jz (i:=8) (N:=some 28) #[true,true,true,true,true,true,true,true,true,true,true,true,true,true,true,true,true,true,false,false,false] rfl rfl (eT HT_.out (by kernel_rfl)) (by decide) (fun K hK=>?_)
          refine gB Tryz.func133 (by kernel_rfl) rfl #[.agg #[bh (.slice A0_0 l0_0.length c0_0), .slice A0_1 l0_1.length c0_1, .int .i64 a0_2, .int .i64 a0_3], .int .i64 (wrap64 (x17_1*a2))] (by rfl) rfl rfl (by(try simp only[List.map_toArray,List.map_cons,List.map_nil]);first|done|(rw[hT_HR0_0]<;>rfl)|(rw[hT_HR0_0]<;>rfl)|rfl|(simp only[List.length_drop,List.length_take];rfl)) ?_
          (try rw[←hT_HR0_0])
          with_reducible refine(di.calls _ _ l0_0 _ _ l0_1 a0_2 a0_3 (wrap64 (x17_1*a2)) t117 _ ?side1 ?side2 ?side3 ?side4 A12.out).mono ?_
          (case side1=>exact Kd.fw HR0_0.out im)
          (case side2=>exact HC0_0.out)
          (case side3=>exact Kd.fw HR0_1.out im)
          (case side4=>exact HC0_1.out)
          rintro e w22 ⟨rfl,hb⟩
          have HS4_:=(hb.cell (World.block_lt_of_cell? _ _ (hHeld.2.2.2.2))).trans (hHeld.2.2.2.2)
          refine⟨_,rfl,?_⟩
          have n0_:=aa.mk (Kd.dp (bK HO_1.out) hb)
          have n1_:=aa.mk (Kd.dp (bK HO_6.out) hb)
          have n2_:=aa.mk (aU BK113.out hb)
          have n3_:=aa.mk (Kept.below (S:=(fun k_=>P1_ k_)) im hb)
          have n4_:=aa.mk (ah ak hb)
          clear HO_1
          clear HO_6
          clear BK113
          clear HK
          clear HB
          have HO_1:=n0_
          have HO_6:=n1_
          have BK113:=n2_
          have HK:=n3_
          have HB:=n4_
          clear n0_ n1_ n2_ n3_ n4_
          (try clear hb)
          (try clear hb2)
          (try clear hk)
          (try clear hi)
          refine hK.out _ _ ⟨(aj BK113.out 0).trans rfl,(aj BK113.out 1).trans rfl,(aj BK113.out 2).trans rfl,(aj BK113.out 3).trans rfl,HS4_⟩ (fun hHeld=>?_)
          clear hK K
          refine qK ?_
          refine jz (i:=18) (N:=some 38) #[true,true,true,true,true,true,true,true,true,true,true,true,true,true,true,true,true,true,true,false,false] rfl rfl (eT HT_.out (by kernel_rfl)) (by decide) (fun K hK=>?_)
          refine gB Tryz.func62 (by kernel_rfl) rfl #[bh (.slice A0_0 l0_0.length c0_0), .int .u64 t117, .int .u64 (zm s9 l1 (ji13))] (by rfl) rfl rfl (by(try simp only[List.map_toArray,List.map_cons,List.map_nil]);first|done|(rw[hT_HR0_0]<;>rfl)|(rw[hT_HR0_0]<;>rfl)|(simp only[hji13];rfl)|rfl|(simp only[List.length_drop,List.length_take];rfl)) ?_
          (try rw[←hT_HR0_0])
          with_reducible refine(bb.calls _ _ l0_0 t117 (zm s9 l1 (ji13)) t119 _ ?side1 ?side2 A16.out).mono ?_
          (case side1=>exact Kd.fw HR0_0.out im)
          (case side2=>exact HC0_0.out)
          rintro e w' ⟨rfl,⟨nd,rfl⟩⟩
          refine⟨_,rfl,?_⟩
          have p19:0≤(x17_1:Int):=of_decide_eq_true (by assumption)
          have q19:(x17_1:Int)<((x6_1.length:Int):Int):=of_decide_eq_true (by assumption)
          obtain⟨go19,co19,eo19,gb19,gl19,cl19,HG19⟩:=Kd.fY HO_6.out (by omega)
          (first|cases eo19|(injection eo19 with ea_ en_ ec_;(first|subst ea_|(injection ea_ with ea_;subst ea_));subst ec_;clear en_))
          have GB19:=aa.mk gb19
          have GG19:=aa.mk HG19
          clear gb19 gl19 HG19
          have HMgo19:=aa.mk (show(P1_ go19∨w.heap.size≤go19) from(HO_6.out.1 _ rfl).1)
          obtain⟨hx19_0,hf19_0⟩:=Kd.eE 0 HO_6.out (x17_1:Int) p19 q19
          replace p19:=eq_true p19
          replace q19:=eq_true q19
          have HP23:=Kd.oY HO_6.out (x17_1:Int) t119
          rw[←Ny120.out] at HP23
          have HQ23:=aa.mk HP23
          clear HP23
          refine hK.out _ _ ⟨(aj BK113.out 0).trans rfl,(aj BK113.out 1).trans rfl,(aj BK113.out 2).trans rfl,(aj BK113.out 3).trans rfl,hHeld.2.2.2.2⟩ (fun hHeld=>?_)
          clear hK K
          refine qK ?_
          refine dd 19 39 HT_ rfl rfl ?_
          refine pR (i:=20) (N:=none) #[true,true,true,true,true,true,true,true,true,true,true,true,true,true,true,true,true,true,true,true,true] rfl rfl (eT HT_.out (by kernel_rfl)) (by decide) (fun K hK=>?_)
          refine qD (w1:=?_) (by rfl) rfl ?_ ?_
          rotate_left
          ·go_simp
           rfl
          refine hK.out _ _ ?_
          clear hK K
          refine gQ (fA HT_.out (by kernel_rfl)) ?_
          try go_wp2
          (try simp only[←hl6_1])
          go_roundg k1
          case measure=>have:=HK1.out;omega
          case rel=>exact⟨(y120),(wrap64 (x17_1+1)),a8,H',⟨by have:=HK1.out;omega⟩,⟨by(try simp only[hl6_1]);(with_reducible repeat(first|apply Kd.bI|apply Kd.bL|apply Kd.bM));exact Kd.bE (Kd.mT (p:=⟨go19,(x17_1:Int).toNat,none⟩) (Kd.bE HO_1.out (fun k_ hk=>(⟨hk,fun e_=>hk.2 (by rw[e_];rfl)⟩:_∧k_≠go19))) (fun _ hk=>hk.2) (.int .u64 t119)) (fun _ hk=>⟨hk.1.1,hk.1.2⟩)⟩,⟨by(try simp only[hl6_1]);(with_reducible repeat(first|apply Kd.bI|apply Kd.bL|apply Kd.bM));exact HQ23.out⟩,⟨by(try simp only[hl6_1]);(with_reducible repeat(first|refine cB ?_ _|refine bG ?_|refine cC ?_ _));refine dx ?_ (by have h_:=Kd.ur HO_6.out BK113.out (by decide);intro e_;exact h_ (by rw[e_];rfl)) _;(with_reducible repeat(first|refine cB ?_ _|refine bG ?_|refine cC ?_ _));exact BK113.out⟩,⟨by repeat(first|(with_reducible first|exact HK.out|apply Kept.alloc|apply Kept.drewN|apply Kept.drew|refine Kept.setCell ?_ HMgo19.out _|refine Kept.setCell ?_ (.inr GW113.out) _)|exact HK.out)⟩,⟨by repeat(first|(with_reducible first|exact HB.out|apply aQ|apply ay|apply bs|refine cg ?_ GB19.out|refine cg ?_ GE113.out)|exact HB.out)⟩⟩
         ·rw[if_neg ji] at H
          exact absurd H (by simp)
        ·rw[if_neg gC] at H
         exact absurd H (by simp)
       ·rw[if_neg iK] at H
        exact absurd H (by simp)
      ·rw[if_neg fa] at H
       exact absurd H (by simp)
     ·rw[if_neg eW] at H
      have c11b0:=decide_eq_false eW
      (try(have c11b0hl6_1:=c11b0;simp only[hl6_1] at c11b0hl6_1))
      clear eW
      have H':=aa.mk H
      clear H
      go_wp2
      go_loopg [43] k1 (fun kq v43 w'=> ∃(x1_2:List Int) (x43_2:Int),v43= .int .i64 x43_2∧aa (ar.l1 s9 n9 kq x1_2 a2 x6_1 (x6_1.length:Int) x43_2 l0_0 l0_1 a0_2 a0_3=some r)∧aa (kq≤k1)∧aa (Kd.R (Kd.int .u64) 22 w' w0.heap.size (fun k_=>(P1_ k_∨w.heap.size≤k_)∧some k_≠((.slice Ao10 x6_1.length co10):Value).ownBlock) (.slice (some ⟨g9,0,none⟩) l1.length co9) x1_2)∧aa (Kd.R (Kd.int .u64) 22 w' w0.heap.size (fun k_=>(P1_ k_∨w.heap.size≤k_)∧some k_≠((.slice (some ⟨g9,0,none⟩) l1.length co9):Value).ownBlock) (.slice Ao10 x6_1.length co10) x6_1)∧aa (w'.heap[gb113]?=some (.cells #[(bh (.slice A0_0 l0_0.length c0_0)),(.slice A0_1 l0_1.length c0_1), .int .i64 a0_2, .int .i64 a0_3] 104 (0,0)))∧aa (Kept w w' (fun k_=>P1_ k_))∧aa (Below w0.heap.size w0 w'))
      case atStart=>exact⟨(l1),(0),a8,H',⟨Nat.le_refl _⟩,⟨by(try simp only[hl6_1]);(with_reducible repeat(first|apply Kd.bI|apply Kd.bL|apply Kd.bM));exact HO_1.out⟩,⟨by(try simp only[hl6_1]);(with_reducible repeat(first|apply Kd.bI|apply Kd.bL|apply Kd.bM));exact HO_6.out⟩,⟨by(try simp only[hl6_1]);(with_reducible repeat(first|refine cB ?_ _|refine bG ?_|refine cC ?_ _));exact BK113.out⟩,⟨im⟩,⟨ak⟩⟩
      case round=>
       clear H'
       try clear hx1
       try clear hx11
       try clear hx19
       try clear hf19
       try clear hx118_0
       try clear hx19_0
       obtain⟨x1_2,x43_2,rfl,HA,HK2,HO_1,HO_6,BK113,HK,HB⟩:=hrel
       cases gk with
       |zero=>exact absurd HA.out (by simp[ar.l1])
       |succ k2=>
        have H:=HA.out
        clear HA
        simp only[ar.l1] at H
        by_cases mC:x43_2<(x6_1.length:Int)
        ·rw[if_pos mC] at H
         have c24b0:=decide_eq_true mC
         (try(have c24b0hl6_1:=c24b0;simp only[hl6_1] at c24b0hl6_1))
         clear mC
         have H':=aa.mk H
         clear H
         go_wp2
         go_loopg [9,48] k2 (fun kq v9 v48 w'=> ∃(x9_3:Int) (x48_3:Int),v9= .int .u64 x9_3∧v48= .int .i64 x48_3∧aa (ar.l2 s9 n9 kq x1_2 a2 x6_1 x43_2 x9_3 (x6_1.length:Int) x43_2 x6_1 (x6_1.length:Int) x48_3 l0_0 l0_1 a0_2 a0_3=some r)∧aa (kq≤k2)∧aa (Kd.R (Kd.int .u64) 22 w' w0.heap.size (fun k_=>(P1_ k_∨w.heap.size≤k_)∧some k_≠((.slice Ao10 x6_1.length co10):Value).ownBlock∧some k_≠((.slice Ao10 x6_1.length co10):Value).ownBlock) (.slice (some ⟨g9,0,none⟩) l1.length co9) x1_2)∧aa (Kd.R (Kd.int .u64) 22 w' w0.heap.size (fun k_=>(P1_ k_∨w.heap.size≤k_)∧some k_≠((.slice (some ⟨g9,0,none⟩) l1.length co9):Value).ownBlock) (.slice Ao10 x6_1.length co10) x6_1)∧aa (Kd.R (Kd.int .u64) 22 w' w0.heap.size (fun k_=>(P1_ k_∨w.heap.size≤k_)∧some k_≠((.slice (some ⟨g9,0,none⟩) l1.length co9):Value).ownBlock) (.slice Ao10 x6_1.length co10) x6_1)∧aa (w'.heap[gb113]?=some (.cells #[(bh (.slice A0_0 l0_0.length c0_0)),(.slice A0_1 l0_1.length c0_1), .int .i64 a0_2, .int .i64 a0_3] 104 (0,0)))∧aa (Kept w w' (fun k_=>P1_ k_))∧aa (Below w0.heap.size w0 w'))
         case atStart=>exact⟨(0),(0),a8,a8,H',⟨Nat.le_refl _⟩,⟨by(try simp only[hl6_1]);(with_reducible repeat(first|apply Kd.bI|apply Kd.bL|apply Kd.bM));exact Kd.bE HO_1.out (fun _ hk=>⟨hk.1,⟨hk.2,hk.2⟩⟩)⟩,⟨by(try simp only[hl6_1]);(with_reducible repeat(first|apply Kd.bI|apply Kd.bL|apply Kd.bM));exact HO_6.out⟩,⟨by(try simp only[hl6_1]);(with_reducible repeat(first|apply Kd.bI|apply Kd.bL|apply Kd.bM));exact HO_6.out⟩,⟨by(try simp only[hl6_1]);(with_reducible repeat(first|refine cB ?_ _|refine bG ?_|refine cC ?_ _));exact BK113.out⟩,⟨im⟩,⟨ak⟩⟩
         case round=>
          clear H'
          try clear hx1
          try clear hx11
          try clear hx19
          try clear hf19
          try clear hx118_0
          try clear hx19_0
          obtain⟨x9_3,x48_3,rfl,rfl,HA,HK3,HO_1,HO_6,HO_46,BK113,HK,HB⟩:=hrel
          cases gk with
          |zero=>exact absurd HA.out (by simp[ar.l2])
          |succ k3=>
           have H:=HA.out
           clear HA
           simp only[ar.l2] at H
           by_cases kY:x48_3<(x6_1.length:Int)
           ·rw[if_pos kY] at H
            have c25b0:=decide_eq_true kY
            (try(have c25b0hl6_1:=c25b0;simp only[hl6_1] at c25b0hl6_1))
            clear kY
            by_cases ou:0≤x48_3
            ·rw[if_pos ou] at H
             have c26b0:=decide_eq_true ou
             clear ou
             by_cases ke:x48_3<(x6_1.length:Int)
             ·rw[if_pos ke] at H
              have c27b0:=decide_eq_true ke
              (try(have c27b0hl6_1:=c27b0;simp only[hl6_1] at c27b0hl6_1))
              clear ke
              replace H:=Option.bind_eq_some_iff.mp H
              obtain⟨t123,A280,H⟩:=H
              (try dsimp only at H)
              have A28:=aa.mk A280
              clear A280
              replace H:=Option.bind_eq_some_iff.mp H
              obtain⟨t124,A290,H⟩:=H
              (try dsimp only at H)
              have A29:=aa.mk A290
              clear A290
              replace H:=Option.bind_eq_some_iff.mp H
              obtain⟨t125,A300,H⟩:=H
              (try dsimp only at H)
              have A30:=aa.mk A300
              clear A300
              have H':=aa.mk H
              clear H
              have p122:0≤(x48_3:Int):=of_decide_eq_true (by assumption)
              have q122:x48_3<(x6_1.length:Int):=of_decide_eq_true (by assumption)
              obtain⟨ad122,e122,hx122_0⟩:=Kd.cR (Kd.aT HO_46.out).2.2 x48_3 p122 q122
              cases e122
              replace p122:=eq_true p122
              replace q122:=eq_true q122
              try go_wp2
              have n0_:=aa.mk (Kd.bM HO_1.out)
              have n1_:=aa.mk (Kd.bM HO_6.out)
              have n2_:=aa.mk (Kd.bM HO_46.out)
              have n3_:=aa.mk (bG BK113.out)
              have n4_:=aa.mk (Kept.drew HK.out)
              have n5_:=aa.mk (bs HB.out)
              clear HO_1
              clear HO_6
              clear HO_46
              clear BK113
              clear HK
              clear HB
              have HO_1:=n0_
              have HO_6:=n1_
              have HO_46:=n2_
              have BK113:=n3_
              have HK:=n4_
              have HB:=n5_
              clear n0_ n1_ n2_ n3_ n4_ n5_
              refine fF (n:=17) (S:=fun w'=>w'.cell? ⟨gb113,0,none⟩=some (bh (.slice A0_0 l0_0.length c0_0))∧w'.cell? ⟨gb113,1,none⟩=some (.slice A0_1 l0_1.length c0_1)∧w'.cell? ⟨gb113,2,none⟩=some (.int .i64 a0_2)∧w'.cell? ⟨gb113,3,none⟩=some (.int .i64 a0_3)) (ds:=[]) #[false,false,false,false,false,false,false,false,false,false,false,false,false,false,false,false,false] (by kernel_rfl) rfl rfl ⟨(aj BK113.out 0).trans rfl,(aj BK113.out 1).trans rfl,(aj BK113.out 2).trans rfl,(aj BK113.out 3).trans rfl⟩ (fun hHeld=>?_);refine dV ar.As ar.yN (fun HT_ HW_=>?_)
              generalize wr.drew=w31 at HO_1 HO_6 HO_46 BK113 HK HB hHeld ⊢
              refine dd 0 53 HT_ rfl rfl ?_
              refine dd 2 55 HT_ rfl rfl ?_
              refine dd 3 56 HT_ rfl rfl ?_
              refine dd 6 59 HT_ rfl rfl ?_
              refine dd 7 60 HT_ rfl rfl ?_
              refine dd 8 61 HT_ rfl rfl ?_
              refine dd 9 62 HT_ rfl rfl ?_
              refine dd 13 66 HT_ rfl rfl ?_
              refine jk 1 54 (ch HT_.out HW_.out (by kernel_rfl)) hHeld (by rintro w' ⟨s0,s1,s2,s3⟩;go_simp;with_reducible rfl) rfl rfl ?_
              refine jk 4 57 (ch HT_.out HW_.out (by kernel_rfl)) hHeld (by rintro w' ⟨s0,s1,s2,s3⟩;go_simp;with_reducible rfl) rfl rfl ?_
              refine jk 5 58 (ch HT_.out HW_.out (by kernel_rfl)) hHeld (by rintro w' ⟨s0,s1,s2,s3⟩;go_simp;with_reducible rfl) rfl rfl ?_
              refine jk 10 63 (ch HT_.out HW_.out (by kernel_rfl)) hHeld (by rintro w' ⟨s0,s1,s2,s3⟩;go_simp;with_reducible rfl) rfl rfl ?_
              refine dd 11 64 HT_ rfl rfl ?_
              refine jz (i:=12) (N:=some 65) #[true,true,true,true,true,true,true,true,true,true,true,true,true,true,false,false,false] rfl rfl (eT HT_.out (by kernel_rfl)) (by decide) (fun K hK=>?_)
              refine gB Tryz.func133 (by kernel_rfl) rfl #[.agg #[bh (.slice A0_0 l0_0.length c0_0), .slice A0_1 l0_1.length c0_1, .int .i64 a0_2, .int .i64 a0_3], .int .i64 (wrap64 ((wrap64 (x48_3*x43_2))*a0_3))] (by rfl) rfl rfl (by(try simp only[List.map_toArray,List.map_cons,List.map_nil]);first|done|(rw[hT_HR0_0]<;>rfl)|(rw[hT_HR0_0]<;>rfl)|rfl|(simp only[List.length_drop,List.length_take];rfl)) ?_
              (try rw[←hT_HR0_0])
              with_reducible refine(di.calls _ _ l0_0 _ _ l0_1 a0_2 a0_3 (wrap64 ((wrap64 (x48_3*x43_2))*a0_3)) t123 _ ?side1 ?side2 ?side3 ?side4 A28.out).mono ?_
              (case side1=>exact Kd.fw HR0_0.out im)
              (case side2=>exact HC0_0.out)
              (case side3=>exact Kd.fw HR0_1.out im)
              (case side4=>exact HC0_1.out)
              rintro e w32 ⟨rfl,hb⟩
              refine⟨_,rfl,?_⟩
              have n0_:=aa.mk (Kd.dp (bK HO_1.out) hb)
              have n1_:=aa.mk (Kd.dp (bK HO_6.out) hb)
              have n2_:=aa.mk (Kd.dp (bK HO_46.out) hb)
              have n3_:=aa.mk (aU BK113.out hb)
              have n4_:=aa.mk (Kept.below (S:=(fun k_=>P1_ k_)) im hb)
              have n5_:=aa.mk (ah ak hb)
              clear HO_1
              clear HO_6
              clear HO_46
              clear BK113
              clear HK
              clear HB
              have HO_1:=n0_
              have HO_6:=n1_
              have HO_46:=n2_
              have BK113:=n3_
              have HK:=n4_
              have HB:=n5_
              clear n0_ n1_ n2_ n3_ n4_ n5_
              (try clear hb)
              (try clear hb2)
              (try clear hk)
              (try clear hi)
              refine hK.out _ _ ⟨(aj BK113.out 0).trans rfl,(aj BK113.out 1).trans rfl,(aj BK113.out 2).trans rfl,(aj BK113.out 3).trans rfl⟩ (fun hHeld=>?_)
              clear hK K
              refine qK ?_
              refine jz (i:=14) (N:=some 67) #[true,true,true,true,true,true,true,true,true,true,true,true,true,true,true,false,false] rfl rfl (eT HT_.out (by kernel_rfl)) (by decide) (fun K hK=>?_)
              refine gB Tryz.func62 (by kernel_rfl) rfl #[bh (.slice A0_0 l0_0.length c0_0), .int .u64 t123, .int .u64 (rd x6_1 x48_3)] (by rfl) rfl rfl (by(try simp only[List.map_toArray,List.map_cons,List.map_nil]);first|done|(rw[hT_HR0_0]<;>rfl)|(rw[hT_HR0_0]<;>rfl)|rfl|(simp only[List.length_drop,List.length_take];rfl)) ?_
              (try rw[←hT_HR0_0])
              with_reducible refine(bb.calls _ _ l0_0 t123 (rd x6_1 x48_3) t124 _ ?side1 ?side2 A29.out).mono ?_
              (case side1=>exact Kd.fw HR0_0.out im)
              (case side2=>exact HC0_0.out)
              rintro e w' ⟨rfl,⟨nd,rfl⟩⟩
              refine⟨_,rfl,?_⟩
              refine hK.out _ _ ⟨(aj BK113.out 0).trans rfl,(aj BK113.out 1).trans rfl,(aj BK113.out 2).trans rfl,(aj BK113.out 3).trans rfl⟩ (fun hHeld=>?_)
              clear hK K
              refine qK ?_
              refine jz (i:=15) (N:=some 68) #[true,true,true,true,true,true,true,true,true,true,true,true,true,true,true,true,false] rfl rfl (eT HT_.out (by kernel_rfl)) (by decide) (fun K hK=>?_)
              refine gB Tryz.func96 (by kernel_rfl) rfl #[bh (.slice A0_0 l0_0.length c0_0), .int .u64 x9_3, .int .u64 t124] (by rfl) rfl rfl (by(try simp only[List.map_toArray,List.map_cons,List.map_nil]);first|done|(rw[hT_HR0_0]<;>rfl)|(rw[hT_HR0_0]<;>rfl)|rfl|(simp only[List.length_drop,List.length_take];rfl)) ?_
              (try rw[←hT_HR0_0])
              with_reducible refine(cM.calls _ _ l0_0 x9_3 t124 t125 _ ?side1 ?side2 A30.out).mono ?_
              (case side1=>exact Kd.fw HR0_0.out im)
              (case side2=>exact HC0_0.out)
              rintro e w' ⟨rfl,⟨nd,rfl⟩⟩
              refine⟨_,rfl,?_⟩
              refine hK.out _ _ ⟨(aj BK113.out 0).trans rfl,(aj BK113.out 1).trans rfl,(aj BK113.out 2).trans rfl,(aj BK113.out 3).trans rfl⟩ (fun hHeld=>?_)
              clear hK K
              refine qK ?_
              refine dd 16 9 HT_ rfl rfl ?_
              refine gQ (fA HT_.out (by kernel_rfl)) ?_
              try go_wp2
              go_roundg k3
              case measure=>have:=HK1.out;have:=HK2.out;have:=HK3.out;omega
              case rel=>exact⟨(t125),(wrap64 (x48_3+1)),a8,a8,H',⟨by have:=HK1.out;have:=HK2.out;have:=HK3.out;omega⟩,⟨by(try simp only[hl6_1]);(with_reducible repeat(first|apply Kd.bI|apply Kd.bL|apply Kd.bM));exact HO_1.out⟩,⟨by(try simp only[hl6_1]);(with_reducible repeat(first|apply Kd.bI|apply Kd.bL|apply Kd.bM));exact HO_6.out⟩,⟨by(try simp only[hl6_1]);(with_reducible repeat(first|apply Kd.bI|apply Kd.bL|apply Kd.bM));exact HO_46.out⟩,⟨by(try simp only[hl6_1]);(with_reducible repeat(first|refine cB ?_ _|refine bG ?_|refine cC ?_ _));exact BK113.out⟩,⟨im⟩,⟨ak⟩⟩
             ·rw[if_neg ke] at H
              exact absurd H (by simp)
            ·rw[if_neg ou] at H
             exact absurd H (by simp)
           ·rw[if_neg kY] at H
            have c25b0:=decide_eq_false kY
            (try(have c25b0hl6_1:=c25b0;simp only[hl6_1] at c25b0hl6_1))
            clear kY
            obtain⟨ji33,hji33⟩: ∃j_:Int,(wrap64 ((wrap64 (x43_2*a0_3))+a2))=j_:=⟨_,rfl⟩
            (first|rw[hji33] at H|simp only[hji33] at H)
            have hji33v:(IntKind.i64.wrap ((IntKind.i64.wrap (x43_2*a0_3))+a2))=ji33:=by simp only[bp];exact hji33
            have hji33w:(IntKind.i64.wrap ((wrap64 (x43_2*a0_3))+a2))=ji33:=(bp _).trans hji33
            by_cases c34:0≤(ji33)
            ·rw[if_pos c34] at H
             have c34b0:=decide_eq_true c34
             clear c34
             by_cases c35:(ji33)<(n9:Int)
             ·rw[if_pos c35] at H
              have c35b0:=decide_eq_true c35
              (try(have c35b0hl6_1:=c35b0;simp only[hl6_1] at c35b0hl6_1))
              clear c35
              obtain⟨y121,hy121⟩: ∃y_:List Int,y_=(x1_2.set (s9+((ji33):Int).toNat) x9_3):=⟨_,rfl⟩
              replace H:(ar.l1 s9 n9 k3 y121 a2 x6_1 (x6_1.length:Int) (wrap64 (x43_2+1)) l0_0 l0_1 a0_2 a0_3)=some r:=by first|(rw[hy121];with_reducible exact H)|(have H2_:=(Option.bind_some _ _).symm.trans H;rw[hy121];with_reducible exact H2_)|(have H2_:=(Option.bind_some _ _).symm.trans H;with_reducible exact H2_)|with_reducible exact H|(rw[hy121];exact H)|exact H
              have Ny121:=aa.mk hy121
              clear hy121
              have H':=aa.mk H
              clear H
              have hcz37_0:=bt BK113.out 0 rfl
              have hcz37_1:=bt BK113.out 1 rfl
              have hcz37_2:=bt BK113.out 2 rfl
              have hcz37_3:=bt BK113.out 3 rfl
              have hfz37_0:=ab BK113.out 0
              have hfz37_1:=ab BK113.out 1
              have hfz37_2:=ab BK113.out 2
              have hfz37_3:=ab BK113.out 3
              have p36:0≤((ji33):Int):=of_decide_eq_true (by assumption)
              have q36:((ji33):Int)<((n9:Int):Int):=of_decide_eq_true (by assumption)
              obtain⟨gb36,cl36,HG36⟩:=vu HO_1.out HS9.out p36 q36
              have GB36:=aa.mk gb36
              have GG36:=aa.mk HG36
              clear gb36 HG36
              have HMg9:=aa.mk (show(P1_ g9∨w.heap.size≤g9) from(HO_1.out.1 _ rfl).1)
              obtain⟨hx36_0,hf36_0⟩:=wC HO_1.out HS9.out ((ji33):Int) p36 q36
              have p36':0≤((ji33):Int):=p36
              replace p36:=eq_true p36
              replace q36:=eq_true q36
              have HP38:=xm HO_1.out (s:=s9) ((ji33):Int) x9_3 p36'
              go_wp2_with (first|((with_reducible refine eQ (t:=22) (p:=78) rfl ?_);refine eC (t:=22) (p:=78) (v:=?vo_w39) (w1:=(wr.setCell ⟨g9,s9+((ji33):Int).toNat,none⟩ (.int .u64 x9_3))) ?hg ?ho ?hn ?hr ?_;(case ho=>rfl);(case hg=>rfl);(case hn=>rfl);(case hr=>first|(go_simp;done)|(go_simp;rfl));intro w39 hw;have hg:wr.grownBy w39 (some g9):=(by rw[hw];exact HP38.2);have hp_:Kd.R (Kd.int .u64) 22 w39 w0.heap.size (fun k_=>(P1_ k_∨w.heap.size≤k_)∧some k_≠(.slice Ao10 x6_1.length co10:Value).ownBlock∧some k_≠(.slice Ao10 x6_1.length co10:Value).ownBlock) (.slice (some ⟨g9,0,none⟩) l1.length co9) y121:=(by rw[hw,Ny121.out];exact HP38.1);clear HP38;have n0_:=aa.mk (hp_);have n1_:=aa.mk (Kd.jZ (v:=(.slice (some ⟨g9,0,none⟩) l1.length co9)) (v1:=(.slice (some ⟨g9,0,none⟩) l1.length co9)) (ok:=(fun k_=>(P1_ k_∨w.heap.size≤k_))) (bK HO_6.out) hg (.inl rfl));have n2_:=aa.mk (Kd.jZ (v:=(.slice (some ⟨g9,0,none⟩) l1.length co9)) (v1:=(.slice (some ⟨g9,0,none⟩) l1.length co9)) (ok:=(fun k_=>(P1_ k_∨w.heap.size≤k_))) (bK HO_46.out) hg (.inl rfl));have n3_:=aa.mk (jY (g:=gb113) (o:= .cells #[bh (.slice A0_0 l0_0.length c0_0), .slice A0_1 l0_1.length c0_1, .int .i64 a0_2, .int .i64 a0_3] 104 (0,0)) (cP BK113.out) hg (Kd.ur HO_1.out BK113.out (by decide)));have n4_:=aa.mk ((by rw[hw];exact cg (HB.out) GB36.out:Below w0.heap.size w0 w39));have n5_:=aa.mk (Kept.kO (S:=(fun k_=>P1_ k_)) hg im (fun k_ e_=>(HO_1.out.1 k_ e_).1));clear HO_1;clear HO_6;clear HO_46;clear BK113;clear HB;clear HK;have HO_1:=n0_;have HO_6:=n1_;have HO_46:=n2_;have BK113:=n3_;have HB:=n4_;have HK:=n5_;clear n0_ n1_ n2_ n3_ n4_ n5_;clear hg hw hp_))
              go_roundg k3
              case measure=>have:=HK1.out;have:=HK2.out;have:=HK3.out;omega
              case rel=>exact⟨(y121),(wrap64 (x43_2+1)),a8,H',⟨by have:=HK1.out;have:=HK2.out;have:=HK3.out;omega⟩,⟨by(try simp only[hl6_1]);(with_reducible repeat(first|apply Kd.bI|apply Kd.bL|apply Kd.bM));exact Kd.bE HO_1.out (fun _ hk=>⟨hk.1,hk.2.1⟩)⟩,⟨by(try simp only[hl6_1]);(with_reducible repeat(first|apply Kd.bI|apply Kd.bL|apply Kd.bM));exact HO_6.out⟩,⟨by(try simp only[hl6_1]);(with_reducible repeat(first|refine cB ?_ _|refine bG ?_|refine cC ?_ _));exact BK113.out⟩,⟨im⟩,⟨ak⟩⟩
             ·rw[if_neg c35] at H
              exact absurd H (by simp)
            ·rw[if_neg c34] at H
             exact absurd H (by simp)
        ·rw[if_neg mC] at H
         have c24b0:=decide_eq_false mC
         (try(have c24b0hl6_1:=c24b0;simp only[hl6_1] at c24b0hl6_1))
         clear mC
         obtain rfl:=Option.some.inj H
         go_wp2
         first|go_end0|((try simp only[Exit.inBlock,Exit.then]);refine bodyPost_ret (results_none rfl _ _ _) rfl ?_)
         exact⟨a8,(by first|exact(by(with_reducible repeat(first|apply Kd.bI|apply Kd.bL|apply Kd.bM));exact Kd.bE HO_1.out (fun _ hk=>hk.1))|(simp only[hl6_1];exact(by(with_reducible repeat(first|apply Kd.bI|apply Kd.bL|apply Kd.bM));exact Kd.bE HO_1.out (fun _ hk=>hk.1)))),ak,im⟩
  ·rw[if_neg c5] at H
   exact absurd H (by simp)
 ·rw[if_neg c4] at H
  exact absurd H (by simp)
end Go.Proofs.YtndkmnjbjlfeaaaGreat.XM
end
section
namespace Go.Proofs.YtndkmnjbjlfeaaaGreat.XM
open Go Go.RowKit Go.Proofs.YtndkmnjbjlfeaaaGreatW.PrintWords Go.Proofs.YtndkmnjbjlfeaaaGreatW.PrintLast Go.Proofs.YtndkmnjbjlfeaaaGreatW.PrintMore Go.Proofs.YtndkmnjbjlfeaaaGreat.Given Go.Proofs.YtndkmnjbjlfeaaaGreat.M Go.Proofs.YtndkmnjbjlfeaaaGreat.Mont Go.Proofs.YtndkmnjbjlfeaaaGreat.XS Go.Proofs.YtndkmnjbjlfeaaaGreat.XT Go.Proofs.YtndkmnjbjlfeaaaGreat.XR Go.Proofs.YtndkmnjbjlfeaaaGreat.F06
set_option linter.unusedVariables false
mutual
noncomputable def bj.l0:Nat→List cn→List Int→Int→Int→List Int→Int→Option (List Int)
 |0,_,_,_,_,_,_=>none
 |k+1,F,T,r,m,x1,x5=>if x5<(x1.length:Int) then bj.l1 k F T r m x1 x5 0 else some x1
noncomputable def bj.l1:Nat→List cn→List Int→Int→Int→List Int→Int→Int→Option (List Int)
 |0,_,_,_,_,_,_,_=>none
 |k+1,F,T,r,m,x1,x5,x21=>if x21<m then(if 0≤x5∧x5<wrap64 (x5+wrap64 (r*m))∧wrap64 (x5+wrap64 (r*m))≤(x1.length:Int) then(ar.f x5.toNat ((wrap64 (x5+wrap64 (r*m))).toNat-x5.toNat) k F T r m x1 x21).bind fun y=>bj.l1 k F T r m y x5 (wrap64 (x21+1)) else none) else bj.l0 k F T r m x1 (wrap64 (x5+wrap64 (r*m)))
end
noncomputable def bj.f(k:Nat)(F:List cn)(T:List Int)(r m:Int)(l:List Int):Option (List Int):=bj.l0 k F T r m l 0
set_option maxHeartbeats 8000000 in
set_option maxRecDepth 100000 in
theorem bj.calls(k:Nat)(A0_0:Option Addr)(c0_0:Nat)(l0_0:List (cn))(A0_1:Option Addr)(c0_1:Nat)(l0_1:List Int)(a0_2:Int)(a0_3:Int)(P1_:Nat→Prop)(u9000_:Value)(l1:List Int)(r:List Int)(w0 w:World)(hB:Below w0.heap.size w0 w)(hr0_0: ∀W_,Kept w W_ (fun k_=>P1_ k_)→Kd.C fB W_ A0_0 l0_0.length l0_0)(hc0_0:l0_0.length≤c0_0)(hr0_1: ∀W_,Kept w W_ (fun k_=>P1_ k_)→Kd.C (Kd.int .u64) W_ A0_1 l0_1.length l0_1)(hc0_1:l0_1.length≤c0_1)(ho1:Kd.R (Kd.int .u64) 22 w w0.heap.size P1_ u9000_ l1)(h:bj.f k l0_0 l0_1 a0_2 a0_3 l1=some r):
  Calls Tryz.prog 68 #[.agg #[bh (.slice A0_0 l0_0.length c0_0), .slice A0_1 l0_1.length c0_1, .int .i64 a0_2, .int .i64 a0_3],u9000_] w fun e w'=>e= .returned (.tuple #[])∧Kd.R (Kd.int .u64) 22 w' w0.heap.size (fun k_=>(P1_ k_∨w.heap.size≤k_)) u9000_ r∧Below w0.heap.size w0 w'∧Kept w w' (fun k_=>P1_ k_):=by
 have hu104:=Tryz.underlying104
 have HR0_0:=aa.mk hr0_0
 have HC0_0:=aa.mk hc0_0
 have HR0_1:=aa.mk hr0_1
 have HC0_1:=aa.mk hc0_1
 clear hr0_0 hc0_0 hr0_1 hc0_1
 obtain⟨Ao,co,rfl⟩:=Kd.cb ho1
 have HO1:=aa.mk (show Kd.R (Kd.int .u64) 22 w w0.heap.size (fun k_=>(P1_ k_∨w.heap.size≤k_)) (.slice Ao l1.length co) l1 from Kd.bE ho1 (fun k_ hk=>(.inl hk)))
 have hcap:l1.length≤co:=(Kd.aT ho1).2.1
 have HCO:=aa.mk hcap
 have HP1:=aa.mk ho1.1
 have HLT:=aa.mk (fun k hk=>Kd.ik ho1 k hk)
 clear ho1 hcap
 have HK:=aa.mk (Kept.refl w (fun k_=>P1_ k_))
 have HW0:=aa.mk hB.size
 have HB:=aa.mk hB
 clear hB
 unfold bj.f at h
 have H':=aa.mk h
 clear h
 obtain⟨z9,hz9⟩: ∃z_:Int,wrap64 (a0_2*a0_3)=z_:=⟨_,rfl⟩
 have hz9v:IntKind.i64.wrap (a0_2*a0_3)=z9:=by simp only[bp];exact hz9
 go_enter Tryz.func68,Tryz.ntmps68
 go_wp2_with (first|((with_reducible refine bk (N:=2) rfl ?_);refine iI ?hg (N:=2) ?hd (cs:= #[bh (.slice A0_0 l0_0.length c0_0), .slice A0_1 l0_1.length c0_1, .int .i64 a0_2, .int .i64 a0_3]) (t:=104) ?hr ?_;(case hd=>rfl);(case hg=>rfl);(case hr=>first|(go_simp;done)|(go_simp;rfl));intro gb113 hg w6 hbox hb;have n0_:=aa.mk (Kd.dp HO1.out hb);have n1_:=aa.mk (Kept.below (S:=(fun k_=>P1_ k_)) HK.out hb);have n2_:=aa.mk (ah HB.out hb);have n3_:=aa.mk (hbox);have n4_:=aa.mk ((by rw[hg];exact Nat.le_refl _):w.heap.size≤gb113);have n5_:=aa.mk ((by rw[hg];exact ai HB.out:w0.heap.size≤gb113));clear HO1;clear HK;clear HB;have HO1:=n0_;have HK:=n1_;have HB:=n2_;have BK113:=n3_;have GW113:=n4_;have GE113:=n5_;clear n0_ n1_ n2_ n3_ n4_ n5_;clear hb hbox hg;have hcz7_0:w6.cell? ⟨gb113,0,none⟩=some (bh (.slice A0_0 l0_0.length c0_0)):=(aj BK113.out 0).trans rfl;have hcz7_1:w6.cell? ⟨gb113,1,none⟩=some (.slice A0_1 l0_1.length c0_1):=(aj BK113.out 1).trans rfl;have hcz7_2:w6.cell? ⟨gb113,2,none⟩=some (.int .i64 a0_2):=(aj BK113.out 2).trans rfl;have hcz7_3:w6.cell? ⟨gb113,3,none⟩=some (.int .i64 a0_3):=(aj BK113.out 3).trans rfl))
 go_loopg [5] k (fun kq v5 w'=> ∃(x1:List Int) (x5:Int),v5= .int .i64 x5∧aa (bj.l0 kq l0_0 l0_1 a0_2 a0_3 x1 x5=some r)∧aa (kq≤k)∧aa (Kd.R (Kd.int .u64) 22 w' w0.heap.size (fun k_=>(P1_ k_∨w.heap.size≤k_)) (.slice Ao l1.length co) x1)∧aa (w'.heap[gb113]?=some (.cells #[bh (.slice A0_0 l0_0.length c0_0),(.slice A0_1 l0_1.length c0_1), .int .i64 a0_2, .int .i64 a0_3] 104 (0,0)))∧aa (Kept w w' (fun k_=>P1_ k_))∧aa (Below w0.heap.size w0 w'))
 case atStart=>exact⟨l1,0,rfl,H',⟨Nat.le_refl _⟩,HO1,BK113,HK,HB⟩
 case round=>
  clear H' HO1 BK113 HK HB hcz7_0 hcz7_1 hcz7_2 hcz7_3
  obtain⟨x1,x5,rfl,HA,HK1,HO,BK113,HK,HB⟩:=hrel
  have hl:=(Kd.aT HO.out).1
  have HL:=aa.mk hl
  cases gk with
  |zero=>exact absurd HA.out (by simp[bj.l0])
  |succ k1=>
   have H:=HA.out
   clear HA
   simp only[bj.l0] at H
   by_cases c1:x5<(x1.length:Int)
   ·rw[if_pos c1] at H
    have H':=aa.mk H
    clear H
    have c1b:decide (x5<(l1.length:Int))=true:=decide_eq_true (by omega)
    clear c1
    have hcz7_3:wr.cell? ⟨gb113,3,none⟩=some (.int .i64 a0_3):=(aj BK113.out 3).trans rfl
    have hfz7_3:=ab BK113.out 3
    clear hl
    go_wp2
    go_loopg [21] k1 (fun kq v21 w'=> ∃(x1:List Int) (x21:Int),v21= .int .i64 x21∧aa (bj.l1 kq l0_0 l0_1 a0_2 a0_3 x1 x5 x21=some r)∧aa (kq≤k1)∧aa (Kd.R (Kd.int .u64) 22 w' w0.heap.size (fun k_=>(P1_ k_∨w.heap.size≤k_)) (.slice Ao l1.length co) x1)∧aa (w'.heap[gb113]?=some (.cells #[bh (.slice A0_0 l0_0.length c0_0),(.slice A0_1 l0_1.length c0_1), .int .i64 a0_2, .int .i64 a0_3] 104 (0,0)))∧aa (Kept w w' (fun k_=>P1_ k_))∧aa (Below w0.heap.size w0 w'))
    case atStart=>exact⟨x1,0,rfl,H',⟨Nat.le_refl _⟩,HO,BK113,HK,HB⟩
    case round=>
     clear H' HO BK113 HK HB hcz7_3 hfz7_3 HL
     obtain⟨x1,x21,rfl,HA,HK2,HO,BK113,HK,HB⟩:=hrel
     have hl:=(Kd.aT HO.out).1
     cases gk with
     |zero=>exact absurd HA.out (by simp[bj.l1])
     |succ k2=>
      have H:=HA.out
      clear HA
      simp only[bj.l1] at H
      by_cases c2:x21<a0_3
      ·rw[if_pos c2] at H
       have c2b:decide (x21<a0_3)=true:=decide_eq_true c2
       clear c2
       by_cases c3:0≤x5∧x5<wrap64 (x5+wrap64 (a0_2*a0_3))∧wrap64 (x5+wrap64 (a0_2*a0_3))≤(x1.length:Int)
       ·rw[if_pos c3] at H
        rw[hz9] at H c3
        obtain⟨e9,he9⟩: ∃e_:Int,wrap64 (x5+z9)=e_:=⟨_,rfl⟩
        have he9v:IntKind.i64.wrap (x5+z9)=e9:=by simp only[bp];exact he9
        rw[he9] at H c3
        obtain⟨y,hy,H⟩:=Option.bind_eq_some_iff.mp H
        have HY:=aa.mk hy
        have H':=aa.mk H
        clear H hy
        obtain⟨d1,d2,d3⟩:=c3
        have hc:=HCO.out
        have p1:0≤x5:=d1
        have p2:x5≤e9:=by omega
        have p3:e9≤(co:Int):=by omega
        have p4:0≤e9:=by omega
        have p5: ¬e9.toNat=x5.toNat:=by omega
        obtain⟨g,cap,eo,gb,gl,HG⟩:=Kd.fY HO.out (by omega)
        injection eo with ea en ec
        have hs9:x5.toNat+(e9.toNat-x5.toNat)≤x1.length:=by omega
        have HS:=aa.mk hs9
        have HC:=aa.mk hl
        subst ea
        clear d1 d2 d3 hs9 hl gb gl HG hc en ec
        have HPg:=aa.mk (HP1.out g rfl)
        replace p1:=eq_true p1
        replace p2:=eq_true p2
        replace p3:=eq_true p3
        replace p4:=eq_true p4
        replace p5:=eq_false p5
        have hcz7_0:wr.cell? ⟨gb113,0,none⟩=some (bh (.slice A0_0 l0_0.length c0_0)):=(aj BK113.out 0).trans rfl
        have hcz7_1:wr.cell? ⟨gb113,1,none⟩=some (.slice A0_1 l0_1.length c0_1):=(aj BK113.out 1).trans rfl
        have hcz7_2:wr.cell? ⟨gb113,2,none⟩=some (.int .i64 a0_2):=(aj BK113.out 2).trans rfl
        have hcz7_3:wr.cell? ⟨gb113,3,none⟩=some (.int .i64 a0_3):=(aj BK113.out 3).trans rfl
        have hfz7_0:=ab BK113.out 0
        have hfz7_1:=ab BK113.out 1
        have hfz7_2:=ab BK113.out 2
        have hfz7_3:=ab BK113.out 3
        go_wp2
        have n0_:=aa.mk (Kd.bM HO.out)
        have n2_:=aa.mk (bG BK113.out)
        have n3_:=aa.mk (Kept.drew HK.out)
        have n4_:=aa.mk (bs HB.out)
        clear HO BK113 HK HB hcz7_0 hcz7_1 hcz7_2 hcz7_3 hfz7_0 hfz7_1 hfz7_2 hfz7_3
        have HO:=n0_
        have BK113:=n2_
        have HK:=n3_
        have HB:=n4_
        clear n0_ n2_ n3_ n4_
        refine fF (n:=12) (S:=fun w'=>w'.cell? ⟨gb113,0,none⟩=some (bh (.slice A0_0 l0_0.length c0_0))∧w'.cell? ⟨gb113,1,none⟩=some (.slice A0_1 l0_1.length c0_1)∧w'.cell? ⟨gb113,2,none⟩=some (.int .i64 a0_2)∧w'.cell? ⟨gb113,3,none⟩=some (.int .i64 a0_3)) (ds:=[11]) #[false,false,false,false,false,false,false,false,false,false,false,false] (by kernel_rfl) rfl rfl ⟨(aj BK113.out 0).trans rfl,(aj BK113.out 1).trans rfl,(aj BK113.out 2).trans rfl,(aj BK113.out 3).trans rfl⟩ (fun hHeld=>?_)
        generalize wr.drew=w20 at HO BK113 HK HB hHeld ⊢
        refine ph 1 25 (by kernel_rfl) rfl rfl ?_
        refine ph 2 26 (by kernel_rfl) rfl rfl ?_
        refine ph 3 27 (by kernel_rfl) rfl rfl ?_
        refine ph 4 28 (by kernel_rfl) rfl rfl ?_
        refine ph 5 29 (by kernel_rfl) rfl rfl ?_
        refine ph 6 30 (by kernel_rfl) rfl rfl ?_
        refine ph 7 31 (by kernel_rfl) rfl rfl ?_
        refine ph 8 32 (by kernel_rfl) rfl rfl ?_
        refine ph 9 33 (by kernel_rfl) rfl rfl ?_
        refine ph 10 34 (by kernel_rfl) rfl rfl ?_
        refine jk 0 24 (by kernel_rfl) hHeld (by rintro w' ⟨s0,s1,s2,s3⟩;go_simp;with_reducible rfl) rfl rfl ?_
        refine pR (i:=11) (N:=some 35) #[true,true,true,true,true,true,true,true,true,true,true,true] rfl rfl (by kernel_rfl) (by decide) (fun K hK=>?_)
        refine gB Tryz.func106 (by kernel_rfl) rfl #[.agg #[bh (.slice A0_0 l0_0.length c0_0), .slice A0_1 l0_1.length c0_1, .int .i64 a0_2, .int .i64 a0_3], .slice (some ⟨g,x5.toNat,none⟩) (e9.toNat-x5.toNat) (e9.toNat-x5.toNat), .int .i64 x21] (by rfl) rfl rfl (by(try simp only[List.map_toArray,List.map_cons,List.map_nil]);first|done|rfl) ?_
        have ho':Kd.R (Kd.int .u64) 22 w20 w0.heap.size (fun k_=>k_=g) (.slice (some ⟨g,0,none⟩) x1.length co) x1:=by
         rw[←HC.out]
         exact Kd.uU (fun h=>h) HO.out (fun k hk _=>(Option.some.inj hk).symm)
        have hkk: ∀W_,Kept w20 W_ (fun k_=>k_=g)→Kept w W_ (fun k_=>P1_ k_):=fun W_ hk=>HK.out.ot hk (fun k e=> .inl (by rw[e];exact HPg.out))
        refine(ar.calls k2 A0_0 c0_0 l0_0 A0_1 c0_1 l0_1 a0_2 a0_3 (fun k_=>k_=g) g x5.toNat (e9.toNat-x5.toNat) (e9.toNat-x5.toNat) co x1 x21 y w0 w20 HB.out (fun W_ hk=>HR0_0.out W_ (hkk W_ hk)) HC0_0.out (fun W_ hk=>HR0_1.out W_ (hkk W_ hk)) HC0_1.out ho' HS.out HY.out).mono ?_
        rintro e w22 ⟨rfl,ho,hb,hk⟩
        refine⟨_,rfl,?_⟩
        have hgb:gb113≠g:=by have:=HLT.out g rfl;have:=GW113.out;omega
        have n0_:aa (Kd.R (Kd.int .u64) 22 w22 w0.heap.size (fun k_=>(P1_ k_∨w.heap.size≤k_)) (.slice (some ⟨g,0,none⟩) l1.length co) y):=⟨by
         rw[HC.out]
         exact Kd.uU (fun h=>h) ho (fun k hk' _=> .inl (by rw[←Option.some.inj hk'];exact HPg.out))⟩
        have n2_:aa (w22.heap[gb113]?=some (.cells #[bh (.slice A0_0 l0_0.length c0_0),(.slice A0_1 l0_1.length c0_1), .int .i64 a0_2, .int .i64 a0_3] 104 (0,0))):=⟨(hk.2 gb113 (de BK113.out) hgb).trans BK113.out⟩
        have n3_:aa (Kept w w22 (fun k_=>P1_ k_)):=⟨hkk w22 hk⟩
        have n4_:aa (Below w0.heap.size w0 w22):=⟨hb⟩
        clear HO BK113 HK HB ho hb hk ho' hkk hHeld
        have HO:=n0_
        have BK113:=n2_
        have HK:=n3_
        have HB:=n4_
        clear n0_ n2_ n3_ n4_
        refine hK.out _ _ ?_
        clear hK K
        refine gQ (by kernel_rfl) ?_
        try go_wp2
        go_roundg k2
        case measure=>have:=HK1.out;have:=HK2.out;omega
        case rel=>exact⟨y,(wrap64 (x21+1)),rfl,H',⟨by have:=HK2.out;omega⟩,HO,BK113,HK,HB⟩
       ·rw[if_neg c3] at H
        exact absurd H (by simp)
      ·rw[if_neg c2] at H
       have H':=aa.mk H
       have c2b:decide (x21<a0_3)=false:=decide_eq_false c2
       clear H c2 hl
       go_wp2
       go_roundg k2
       case measure=>have:=HK1.out;have:=HK2.out;omega
       case rel=>exact⟨x1,(wrap64 (x5+wrap64 (a0_2*a0_3))),(by rw[hz9]),H',⟨by have:=HK1.out;have:=HK2.out;omega⟩,HO,BK113,HK,HB⟩
   ·rw[if_neg c1] at H
    have c1b:decide (x5<(l1.length:Int))=false:=decide_eq_false (by omega)
    obtain rfl:=Option.some.inj H
    clear H c1 hl
    go_wp2
    first|go_end0|((try simp only[Exit.inBlock,Exit.then]);refine bodyPost_ret (results_none rfl _ _ _) rfl ?_)
    exact⟨rfl,HO.out,HB.out,HK.out⟩
end Go.Proofs.YtndkmnjbjlfeaaaGreat.XM
end
section
namespace Go.Proofs.YtndkmnjbjlfeaaaGreat.XM
open Go Go.RowKit Go.Proofs.YtndkmnjbjlfeaaaGreatW.PrintWords Go.Proofs.YtndkmnjbjlfeaaaGreatW.PrintLast Go.Proofs.YtndkmnjbjlfeaaaGreatW.PrintMore Go.Proofs.YtndkmnjbjlfeaaaGreat.Given Go.Proofs.YtndkmnjbjlfeaaaGreat.M Go.Proofs.YtndkmnjbjlfeaaaGreat.Mont Go.Proofs.YtndkmnjbjlfeaaaGreat.XS Go.Proofs.YtndkmnjbjlfeaaaGreat.XT Go.Proofs.YtndkmnjbjlfeaaaGreat.XR Go.Proofs.YtndkmnjbjlfeaaaGreat.F06
set_option linter.unusedVariables false
def zS(i:Int):Int:=if i=0 then 2 else if i=1 then 3 else if i=2 then 5 else 7
theorem xT(i:Int):2≤zS i:=by unfold zS;split<;>(try split)<;>(try split)<;>omega
mutual
noncomputable def aI.l0:Nat→Int→List Int→Int→Option (List Int×Bool)
 |0,_,_,_=>none
 |k+1,x0,x4,x14=>if x14<4 then(if 0≤x14 then aI.l1 k x0 x4 x14 else none) else if x0>1 then some ([],false) else some (x4,true)
noncomputable def aI.l1:Nat→Int→List Int→Int→Option (List Int×Bool)
 |0,_,_,_=>none
 |k+1,x0,x4,x14=>if Int.tmod x0 (zS x14)=0 then(if x4.length<17592186044416 then aI.l1 k (wrap64 (Int.tdiv x0 (zS x14))) (x4++[zS x14]) x14 else none) else aI.l0 k x0 x4 (wrap64 (x14+1))
end
noncomputable def aI.f(k:Nat)(n:Int):Option (List Int×Bool):=if n<1 then some ([],false) else if n>1024 then some ([],false) else aI.l0 k n [] 0
theorem aI.fk: ∀k,(∀y0 y1 y2,cW (aI.l0 k y0 y1 y2) (aI.l0 (k+1) y0 y1 y2))∧(∀y0 y1 y2,cW (aI.l1 k y0 y1 y2) (aI.l1 (k+1) y0 y1 y2))
 |0=>⟨fun _ _ _ r h=>by simp[aI.l0] at h,fun _ _ _ r h=>by simp[aI.l1] at h⟩
 |k+1=>by
  obtain⟨ih0,ih1⟩:=aI.fk k
  refine⟨?_,?_⟩
  ·intro y0 y1 y2
   unfold aI.l0
   exact cW.ite (cW.ite (ih1 _ _ _) (cW.refl _)) (cW.refl _)
  ·intro y0 y1 y2
   unfold aI.l1
   exact cW.ite (cW.ite (ih1 _ _ _) (cW.refl _)) (ih0 _ _ _)
theorem aI.mono: ∀a0 k,cW (aI.f k a0) (aI.f (k+1) a0):=by
 intro a0 k
 unfold aI.f
 exact cW.ite (cW.refl _) (cW.ite (cW.refl _) ((aI.fk k).1 _ _ _))
set_option maxHeartbeats 8000000 in
set_option maxRecDepth 100000 in
theorem aI.calls(k:Nat)(a0:Int)(r1:List Int)(r2:Bool)(w:World)(h:aI.f k a0=some (r1,r2)):
  Calls Tryz.prog 64 #[.int .i64 a0] w fun e w'=> ∃v0_:Value,e= .returned (.tuple #[v0_, .bool r2])∧Kd.R (Kd.int .i64) 3 w' w.heap.size (fun _=>True) v0_ r1∧Below w.heap.size w w':=by
 have HB:=aa.mk (Below.refl w.heap.size w)
 have HO:=aa.mk (Kd.fW (Kd.int .i64) 3 w w.heap.size (fun _=>True))
 unfold aI.f at h
 by_cases c1:a0<1
 ·rw[if_pos c1] at h
  have c1b:decide (a0<1)=true:=decide_eq_true c1
  simp only[Option.some.injEq,Prod.mk.injEq] at h
  obtain⟨rfl,rfl⟩:=h
  go_enter Tryz.func64,Tryz.ntmps64
  go_wp2
  go_ret2
  exact⟨_,rfl,HO.out,HB.out⟩
 rw[if_neg c1] at h
 have c1b:decide (a0<1)=false:=decide_eq_false c1
 by_cases c2:a0>1024
 ·rw[if_pos c2] at h
  have c2b:decide (1024<a0)=true:=decide_eq_true c2
  simp only[Option.some.injEq,Prod.mk.injEq] at h
  obtain⟨rfl,rfl⟩:=h
  go_enter Tryz.func64,Tryz.ntmps64
  go_wp2
  go_ret2
  exact⟨_,rfl,HO.out,HB.out⟩
 rw[if_neg c2] at h
 have c2b:decide (1024<a0)=false:=decide_eq_false c2
 have H':=aa.mk h
 clear h c1 c2
 go_enter Tryz.func64,Tryz.ntmps64
 go_wp2
 go_loopg [0,4,14] k (fun kq v0 v4 v14 w'=> ∃(x0:Int) (x4:List Int) (x14:Int),v0= .int .i64 x0∧v14= .int .i64 x14∧aa (aI.l0 kq x0 x4 x14=some (r1,r2))∧aa (kq≤k)∧aa (Kd.R (Kd.int .i64) 3 w' w.heap.size (fun _=>True) v4 x4)∧aa (Below w.heap.size w w'))
 case atStart=>exact⟨a0,[],0,rfl,rfl,H',⟨Nat.le_refl _⟩,HO,HB⟩
 case round=>
  clear H' HO HB c1b c2b
  obtain⟨x0,x4,x14,rfl,rfl,HA,HK1,HO,HB⟩:=hrel
  cases gk with
  |zero=>exact absurd HA.out (by simp[aI.l0])
  |succ k1=>
   have H:=HA.out
   clear HA
   simp only[aI.l0] at H
   by_cases c3:x14<4
   ·rw[if_pos c3] at H
    have c3b:decide (x14<4)=true:=decide_eq_true c3
    by_cases c4:0≤x14
    ·rw[if_pos c4] at H
     have H':=aa.mk H
     clear H
     have hR:x14=0∨x14=1∨x14=2∨x14=3:=by omega
     obtain⟨r9,hr9⟩: ∃r_:Int,zS x14=r_:=⟨_,rfl⟩
     have p4:=eq_true c4
     have p3:=eq_true c3
     have hix: ∀W,Sem.run Tryz.prog (Instr.index 151 (Value.agg #[Value.int IntKind.i64 2,Value.int IntKind.i64 3,Value.int IntKind.i64 5,Value.int IntKind.i64 7]) (Value.int IntKind.i64 x14)) W= .ok (Value.int IntKind.i64 r9) W:=by
      intro W
      rw[←hr9]
      clear H' HK1 HO HB p3 p4 c3b
      rcases hR with rfl|rfl|rfl|rfl<;>(first|rfl|kernel_rfl|(go_simp;done)|(go_simp;rfl))
     have hr2:2≤r9:=by rw[←hr9];exact xT _
     have hr0: ¬r9=0:=by omega
     have hr0b:(r9==0)=false:=beq_eq_false_iff_ne.mpr hr0
     clear c3 c4 hR
     go_wp2
     clear hix
     go_loopg [0,4] k1 (fun kq v0 v4 w'=> ∃(x0:Int) (x4:List Int),v0= .int .i64 x0∧aa (aI.l1 kq x0 x4 x14=some (r1,r2))∧aa (kq≤k1)∧aa (Kd.R (Kd.int .i64) 3 w' w.heap.size (fun _=>True) v4 x4)∧aa (Below w.heap.size w w'))
     case atStart=>exact⟨x0,x4,rfl,H',⟨Nat.le_refl _⟩,HO,HB⟩
     case round=>
      clear H' HO HB c3b p4 p3
      obtain⟨x0,x4,rfl,HA,HK2,HO,HB⟩:=hrel
      cases gk with
      |zero=>exact absurd HA.out (by simp[aI.l1])
      |succ k2=>
       have H:=HA.out
       clear HA
       simp only[aI.l1] at H
       rw[hr9] at H
       by_cases c5:Int.tmod x0 r9=0
       ·rw[if_pos c5] at H
        have c5b:(Int.tmod x0 r9==0)=true:=beq_iff_eq.mpr c5
        by_cases c6:x4.length<17592186044416
        ·rw[if_pos c6] at H
         have HL:=aa.mk c6
         have H':=aa.mk H
         clear H c5 c6
         go_wp2_with (first|((with_reducible refine eO (b:= .append) (xs:= #[.tmp 21, .tmp 23]) rfl ?_);at_builtin;refine Kd.jH (Kd.int .i64) (w0:=w) w.heap.size rfl (.tmp 21) (.tmp 23) 98 3 (.int .i64 0) 8 rfl Tryz.underlying98 pj rfl (by decide) (by omega) u4 x4 r9 [.int .i64 r9] (fun _=>True) (fun _=>False) rfl rfl ?aP (fun _ hk=>hk.elim) ?aF ?aO ?aB ?aS ?aL ?_;(case aP=>exact rfl);(case aB=>exact HB.out);(case aF=>exact(fun _ _=>trivial));(case aO=>exact HO.out);(case aS=>exact ai HB.out);(case aL=>have:=HL.out;omega);intro v211 w13 ho hb hg hat;have n0_:=aa.mk (hb);have n1_:=aa.mk (ho);clear HB;clear HO;have HB:=n0_;have HO:=n1_;clear n0_ n1_;clear ho hb hg hat))
         go_roundg k2
         case measure=>have:=HK1.out;have:=HK2.out;omega
         case rel=>exact⟨(wrap64 (Int.tdiv x0 r9)),(x4++[r9]),(by first|rfl|(simp;done)|(simp[*];done)),H',⟨by have:=HK2.out;omega⟩,HO,HB⟩
        ·rw[if_neg c6] at H
         exact absurd H (by simp)
       ·rw[if_neg c5] at H
        have c5b:(Int.tmod x0 r9==0)=false:=beq_eq_false_iff_ne.mpr c5
        have H':=aa.mk H
        clear H c5
        go_wp2
        go_roundg k2
        case measure=>have:=HK1.out;have:=HK2.out;omega
        case rel=>exact⟨x0,x4,(wrap64 (x14+1)),rfl,(by first|rfl|(simp;done)|(simp[*];done)),H',⟨by have:=HK1.out;have:=HK2.out;omega⟩,HO,HB⟩
    ·rw[if_neg c4] at H
     exact absurd H (by simp)
   ·rw[if_neg c3] at H
    have c3b:decide (x14<4)=false:=decide_eq_false c3
    clear c3
    by_cases c5:x0>1
    ·rw[if_pos c5] at H
     have c5b:decide (1<x0)=true:=decide_eq_true c5
     simp only[Option.some.injEq,Prod.mk.injEq] at H
     obtain⟨rfl,rfl⟩:=H
     go_wp2
     go_ret2
     exact⟨_,rfl,Kd.fW _ _ _ _ _,HB.out⟩
    ·rw[if_neg c5] at H
     have c5b:decide (1<x0)=false:=decide_eq_false c5
     simp only[Option.some.injEq,Prod.mk.injEq] at H
     obtain⟨rfl,rfl⟩:=H
     go_wp2
     go_ret2
     exact⟨_,rfl,HO.out,HB.out⟩
end Go.Proofs.YtndkmnjbjlfeaaaGreat.XM
end
section

end
section
namespace Go.Proofs.YtndkmnjbjlfeaaaGreat.XM
open Go.RowKit Go.Proofs.YtndkmnjbjlfeaaaGreat.Given Go.Proofs.YtndkmnjbjlfeaaaGreat.Row05 Go.Proofs.YtndkmnjbjlfeaaaGreat.XS Go.Proofs.YtndkmnjbjlfeaaaGreat.XT Go.Proofs.YtndkmnjbjlfeaaaGreat.XR Go.Proofs.YtndkmnjbjlfeaaaGreat.F06 Go.Proofs.YtndkmnjbjlfeaaaGreat.XK Go.Proofs.YtndkmnjbjlfeaaaGreat.XW Go.Proofs.YtndkmnjbjlfeaaaGreat.XG Go.Proofs.YtndkmnjbjlfeaaaGreatW.PrintWords Go.Proofs.YtndkmnjbjlfeaaaGreatW.PrintLast Go.Proofs.YtndkmnjbjlfeaaaGreatW.PrintMore
attribute [local go_sem] bU bS ct cr bw bz bP bT
set_option linter.unusedVariables false
set_option linter.unusedSimpArgs false
noncomputable def dw.l0:Nat→List (cn)→Bool→List Int→List Int→List Int→Int→Int→Option (List Int×Int)
 |0,_,_,_,_,_,_,_=>none
 |k+1,x0,x2,x9,x11,x13,x15,x16=>if x16≥0 then(if 0≤x16 then(if x16<(x9.length:Int) then((bj.f k x0 x11 (rd x9 x16) x15 x13).bind fun t154=>(dw.l0 k x0 x2 x9 x11 t154 (wrap64 (x15*(rd x9 x16))) (wrap64 (x16-1)))) else(none)) else(none)) else(if x2=true then((db.f k x0 x13).bind fun t156=>(some (t156,0))) else(some (x13,0)))
noncomputable def dw.f(k:Nat)(l0:List (cn))(l1:List Int)(a2:Bool):Option (List Int×Int):=(da.f l0 (l1.length:Int) 1024).bind fun t139=>(if t139=0 then((aI.f k (l1.length:Int)).bind fun bt140=>(if bt140.2=true then((cJ.f k l0 l1).bind fun t144=>(if t144=true then((dE.f k l0 (l1.length:Int) a2).bind fun bt145=>((cG.f k l1 bt140.1).bind fun bt149=>(dw.l0 k l0 a2 bt140.1 bt145.1 bt149.1 1 (wrap64 ((bt140.1.length:Int)-1))))) else(some (([]:List Int),9)))) else(some (([]:List Int),11)))) else(some (([]:List Int),t139)))
set_option maxHeartbeats 8000000 in
set_option maxRecDepth 100000 in
theorem dw.calls(k:Nat)(A0:Option Addr)(c0:Nat)(l0:List (cn))(A1:Option Addr)(c1:Nat)(l1:List Int)(a2:Bool)(r1:List Int)(r2:Int)(w:World)(hr0:Kd.C fB w A0 l0.length l0)(hc0:l0.length≤c0)(hr1:Kd.C (Kd.int .u64) w A1 l1.length l1)(hc1:l1.length≤c1)(h:dw.f k l0 l1 a2=some (r1,r2)):
  Calls Tryz.prog 33 #[bh (.slice A0 l0.length c0), .slice A1 l1.length c1, .bool a2] w fun e w'=> ∃v0_:Value,e= .returned (.tuple #[v0_, .int .i64 r2])∧Kd.R (Kd.int .u64) 22 w' w.heap.size (fun _=>True) v0_ r1∧Below w.heap.size w w':=by
 have hu104:=Tryz.underlying104
 obtain⟨oT_HR0,hT_HR0⟩: ∃o:Option Addr,bh (.slice A0 l0.length c0)= .pointer o:=(Nat.eq_zero_or_pos l0.length).elim (fun z_=>⟨_,jh A0 c0 z_⟩) (fun z_=>⟨_,(jS A0 c0 (Nat.ne_of_gt z_)).choose_spec⟩)
 rw[hT_HR0]
 have HR0:=aa.mk hr0
 have HC0:=aa.mk hc0
 clear hr0 hc0
 have HR1:=aa.mk hr1
 have HC1:=aa.mk hc1
 clear hr1 hc1
 have HB:=aa.mk (Below.refl w.heap.size w)
 have H:=h;unfold dw.f at H
 clear h
 replace H:=Option.bind_eq_some_iff.mp H
 obtain⟨t139,A40,H⟩:=H
 (try dsimp only at H)
 have A4:=aa.mk A40
 clear A40
 by_cases c5:t139=0
 ·rw[if_pos c5] at H
  have c5b0:=beq_iff_eq.mpr c5
  have c5b1:=bne_eq_false_iff_eq.mpr c5
  clear c5
  replace H:=Option.bind_eq_some_iff.mp H
  obtain⟨⟨t140,t141⟩,A60,H⟩:=H
  (try dsimp only at H)
  have A6:=aa.mk A60
  clear A60
  by_cases c7:t141=true
  ·subst c7
   have H1:=H;rw[if_pos rfl] at H1
   clear H
   have H:=H1
   clear H1
   replace H:=Option.bind_eq_some_iff.mp H
   obtain⟨t144,A80,H⟩:=H
   (try dsimp only at H)
   have A8:=aa.mk A80
   clear A80
   by_cases c9:t144=true
   ·subst c9
    have H1:=H;rw[if_pos rfl] at H1
    clear H
    have H:=H1
    clear H1
    replace H:=Option.bind_eq_some_iff.mp H
    obtain⟨⟨t145,t146⟩,A100,H⟩:=H
    (try dsimp only at H)
    have A10:=aa.mk A100
    clear A100
    replace H:=Option.bind_eq_some_iff.mp H
    obtain⟨⟨t149,t150⟩,A110,H⟩:=H
    (try dsimp only at H)
    have A11:=aa.mk A110
    clear A110
    have H':=aa.mk H
    clear H
    go_enter Tryz.func33,Tryz.ntmps33
    go_wp2_with (first|((with_reducible refine aM (f:=23) rfl ?_);refine cj (some 20) rfl rfl Tryz.func23 (by kernel_rfl) rfl #[bh (.slice A0 l0.length c0), .int .i64 (l1.length:Int), .int .i64 1024] rfl (jy hT_HR0) ?_;(try rw[←hT_HR0]);(with_reducible refine(da.calls _ _ l0 (l1.length:Int) 1024 t139 _ ?side1 ?side2 A4.out).mono ?_);(case side1=>exact cw HR0.out);(case side2=>exact HC0.out);rintro e w' ⟨rfl,⟨nd,rfl⟩⟩;refine⟨_,rfl,?_⟩)|(refine fh 27 Tryz.func64 #[.int .i64 (l1.length:Int)] rfl ?_;(with_reducible refine(aI.calls k (l1.length:Int) t140 true _ A6.out).mono ?_);rintro e w12 ⟨v142,rfl,ho0,hb⟩;refine⟨_,rfl,?_⟩;have n0_:=aa.mk (Kd.bN ho0 (ai ak));have n1_:=aa.mk (ah ak hb);clear HB;have HO143:=n0_;have HB:=n1_;clear n0_ n1_;(try clear ho0))|((with_reducible refine aM (f:=24) rfl ?_);refine cj (some 34) rfl rfl Tryz.func24 (by kernel_rfl) rfl #[bh (.slice A0 l0.length c0), .slice A1 l1.length c1] rfl (jy hT_HR0) ?_;(try rw[←hT_HR0]);(with_reducible refine(cJ.calls k _ _ l0 _ _ l1 true _ ?side1 ?side2 ?side3 ?side4 A8.out).mono ?_);(case side1=>exact cw (Kd.bu HR0.out HB.out));(case side2=>exact HC0.out);(case side3=>exact cw (Kd.bu HR1.out HB.out));(case side4=>exact HC1.out);rintro e w' ⟨rfl,⟨nd,rfl⟩⟩;refine⟨_,rfl,?_⟩)|((with_reducible refine aM (f:=66) rfl ?_);refine cj (some 41) rfl rfl Tryz.func66 (by kernel_rfl) rfl #[bh (.slice A0 l0.length c0), .int .i64 (l1.length:Int), .bool a2] rfl (jy hT_HR0) ?_;(try rw[←hT_HR0]);(with_reducible refine(dE.calls k _ _ l0 (l1.length:Int) a2 t145 t146 _ ?side1 ?side2 A10.out).mono ?_);(case side1=>exact cw (Kd.bu HR0.out ak));(case side2=>exact HC0.out);rintro e w13 ⟨v147,rfl,ho0,hb⟩;refine⟨_,rfl,?_⟩;have n0_:=aa.mk (Kd.dp (bK HO143.out) hb);have n1_:=aa.mk (Kd.bN ho0 (ai ak));have n2_:=aa.mk (ah ak hb);clear HO143;clear HB;have HO143:=n0_;have HO148:=n1_;have HB:=n2_;clear n0_ n1_ n2_;(try clear ho0);obtain⟨Ao14,co14,eo14⟩:=Kd.cb HO143.out;subst eo14)|(refine fh 47 Tryz.func67 #[.slice A1 l1.length c1, .slice Ao14 t140.length co14] rfl ?_;(with_reducible refine(cG.calls k _ _ l1 _ _ t140 t149 t150 _ ?side1 ?side2 ?side3 ?side4 A11.out).mono ?_);(case side1=>exact cw (Kd.bu HR1.out HB.out));(case side2=>exact HC1.out);(case side3=>repeat(first|exact(Kd.aT HO143.out).2.2|(with_reducible refine Kd.dB ?_ _)|(with_reducible refine Kd.dQ ?_ _)|(with_reducible refine Kd.eX ?_)));(case side4=>exact(Kd.aT HO143.out).2.1);rintro e w15 ⟨v151,rfl,ho0,hb⟩;refine⟨_,rfl,?_⟩;have n0_:=aa.mk (Kd.dp (bK HO143.out) hb);have n1_:=aa.mk (Kd.dm (bK HO148.out) (Kd.dS ho0) hb);have n2_:=aa.mk (Kd.bN (Kd.eD ho0 (Kd.ik (bK HO148.out))) (ai ak));have n3_:=aa.mk (ah ak hb);clear HO143;clear HO148;clear HB;have HO143:=n0_;have HO148:=n1_;have HO152:=n2_;have HB:=n3_;clear n0_ n1_ n2_ n3_;(try clear ho0)))
    go_loopg [15,16] k (fun kq v15 v16 w'=> ∃(x13_1:List Int) (x15_1:Int) (x16_1:Int),v15= .int .i64 x15_1∧v16= .int .i64 x16_1∧aa (dw.l0 kq l0 a2 t140 t145 x13_1 x15_1 x16_1=some (r1,r2))∧aa (kq≤k)∧aa (Kd.R (Kd.int .i64) 3 w' w.heap.size (fun _=>True) (.slice Ao14 t140.length co14) t140)∧aa (Kd.R (Kd.int .u64) 22 w' w.heap.size (fun k_=>some k_≠(v151:Value).ownBlock) v147 t145)∧aa (Kd.R (Kd.int .u64) 22 w' w.heap.size (fun k_=>some k_≠(v147:Value).ownBlock) v151 x13_1)∧aa (Below w.heap.size w w'))
    case atStart=>exact⟨(t149),(1),(wrap64 ((t140.length:Int)-1)),a8,a8,H',⟨Nat.le_refl _⟩,⟨bK HO143.out⟩,⟨bK (Kd.bE HO148.out (fun _ hk=>hk.2))⟩,⟨bK (Kd.bE HO152.out (fun _ hk=>hk.2))⟩,⟨ak⟩⟩
    case round=>
     clear H'
     obtain⟨x13_1,x15_1,x16_1,rfl,rfl,HA,HK1,HO_9,HO_11,HO_13,HB⟩:=hrel
     cases gk with
     |zero=>exact absurd HA.out (by simp[dw.l0])
     |succ k1=>
      have H:=HA.out
      clear HA
      simp only[dw.l0] at H
      by_cases jx:x16_1≥0
      ·rw[if_pos jx] at H
       have c16b0:=decide_eq_true jx
       clear jx
       by_cases gC:0≤x16_1
       ·rw[if_pos gC] at H
        have c17b0:=decide_eq_true gC
        clear gC
        by_cases ji:x16_1<(t140.length:Int)
        ·rw[if_pos ji] at H
         have c18b0:=decide_eq_true ji
         clear ji
         replace H:=Option.bind_eq_some_iff.mp H
         obtain⟨t154,A190,H⟩:=H
         (try dsimp only at H)
         have A19:=aa.mk A190
         clear A190
         have H':=aa.mk H
         clear H
         have p153:0≤(x16_1:Int):=of_decide_eq_true (by assumption)
         have q153:x16_1<(t140.length:Int):=of_decide_eq_true (by assumption)
         obtain⟨ad153,e153,hx153_0⟩:=Kd.cR (Kd.aT HO_9.out).2.2 x16_1 p153 q153
         cases e153
         replace p153:=eq_true p153
         replace q153:=eq_true q153
         obtain⟨Ao20,co20,eo20⟩:=Kd.cb HO_11.out
         subst eo20
         obtain⟨Ao21,co21,eo21⟩:=Kd.cb HO_13.out
         subst eo21
         go_wp2_with (first|((with_reducible refine aM (f:=68) rfl ?_);refine cj (some 66) rfl rfl Tryz.func68 (by kernel_rfl) rfl #[.agg #[bh (.slice A0 l0.length c0), .slice Ao20 t145.length co20, .int .i64 (rd t140 x16_1), .int .i64 x15_1], .slice Ao21 x13_1.length co21] rfl (jy hT_HR0) ?_;(try rw[←hT_HR0]);(with_reducible refine(bj.calls k1 _ _ l0 _ _ t145 (rd t140 x16_1) x15_1 (fun k_=>some k_=(.slice Ao21 x13_1.length co21:Value).ownBlock) (.slice Ao21 x13_1.length co21) x13_1 t154 w _ ?side1 ?side2 ?side3 ?side4 ?side5 ?side6 A19.out).mono ?_);(case side1=>repeat(first|(with_reducible first|exact HB.out|apply aQ|apply ay|apply bs)|exact HB.out));(case side2=>exact Kd.ju lI HR0.out ak (fun k_ hs_=>(fun e_=>Kd.dS HO_13.out k_ e_.symm) hs_));(case side3=>exact HC0.out);(case side4=>exact Kd.qP (HO_11.out) (fun k_ hk_ hs_=>(hk_) hs_));(case side5=>exact(Kd.aT HO_11.out).2.1);(case side6=>exact Kd.iW rfl HO_13.out);rintro e w22 ⟨rfl,hy0,hb,hkp⟩;refine⟨_,rfl,?_⟩;have n0_:=aa.mk (Kd.bE (ok':=fun k_=>True) (Kd.mx ((Kd.jw HO_9.out (Kd.jX HO_13.out) (by decide))) hkp (fun k_ hk_ hs_=>(hk_.2) hs_)) (fun k_ hk_=>trivial));have n1_:=aa.mk (Kd.bE (ok':=fun k_=>some k_≠(.slice Ao21 x13_1.length co21:Value).ownBlock) (Kd.mx (HO_11.out) hkp (fun k_ hk_ hs_=>(hk_) hs_)) (fun k_ hk_=>hk_.1));have n2_:=aa.mk (Kd.mB rfl hy0 (fun k_ e_=>HO_13.out.1 k_ e_));have n3_:=aa.mk (hb);clear HO_9;clear HO_11;clear HO_13;clear HB;have HO_9:=n0_;have HO_11:=n1_;have HO_13:=n2_;have HB:=n3_;clear n0_ n1_ n2_ n3_;(try clear hb);(try clear hkp);(try clear hy0);have p155:0≤(x16_1:Int):=of_decide_eq_true (by assumption);have q155:x16_1<(t140.length:Int):=of_decide_eq_true (by assumption);obtain⟨ad155,e155,hx155_0⟩:=Kd.cR (Kd.aT HO_9.out).2.2 x16_1 p155 q155;obtain rfl:ad153=ad155:=(by injection e155);replace p155:=eq_true p155;replace q155:=eq_true q155))
         go_roundg k1
         case measure=>have:=HK1.out;omega
         case rel=>exact⟨(t154),(wrap64 (x15_1*(rd t140 x16_1))),(wrap64 (x16_1-1)),a8,a8,H',⟨by have:=HK1.out;omega⟩,⟨bK HO_9.out⟩,⟨bK HO_11.out⟩,⟨bK HO_13.out⟩,⟨ak⟩⟩
        ·rw[if_neg ji] at H
         exact absurd H (by simp)
       ·rw[if_neg gC] at H
        exact absurd H (by simp)
      ·rw[if_neg jx] at H
       have c16b0:=decide_eq_false jx
       clear jx
       by_cases jn:a2=true
       ·subst jn
        have H1:=H;rw[if_pos rfl] at H1
        clear H
        have H:=H1
        clear H1
        replace H:=Option.bind_eq_some_iff.mp H
        obtain⟨t156,A240,H⟩:=H
        (try dsimp only at H)
        have A24:=aa.mk A240
        clear A240
        simp only[Option.some.injEq,Prod.mk.injEq] at H
        obtain⟨rfl,rfl⟩:=H
        obtain⟨Ao25,co25,eo25⟩:=Kd.cb HO_13.out
        subst eo25
        go_wp2_with (first|((with_reducible refine aM (f:=25) rfl ?_);refine cj (some 76) rfl rfl Tryz.func25 (by kernel_rfl) rfl #[bh (.slice A0 l0.length c0), .slice Ao25 x13_1.length co25] rfl (jy hT_HR0) ?_;(try rw[←hT_HR0]);(with_reducible refine(db.calls k1 _ _ l0 _ _ x13_1 t156 _ ?side1 ?side2 ?side3 ?side4 A24.out).mono ?_);(case side1=>exact cw (Kd.bu HR0.out HB.out));(case side2=>exact HC0.out);(case side3=>repeat(first|exact(Kd.aT HO_13.out).2.2|(with_reducible refine Kd.dB ?_ _)|(with_reducible refine Kd.dQ ?_ _)|(with_reducible refine Kd.eX ?_)));(case side4=>exact(Kd.aT HO_13.out).2.1);rintro e w26 ⟨v157,rfl,ho0,hb⟩;refine⟨_,rfl,?_⟩;have n0_:=aa.mk (Kd.dp (bK HO_9.out) hb);have n1_:=aa.mk (Kd.dm (bK HO_11.out) (Kd.dS ho0) hb);have n2_:=aa.mk (Kd.dm (bK HO_13.out) (Kd.dS ho0) hb);have n3_:=aa.mk (Kd.bN (Kd.eD (Kd.eD ho0 (Kd.ik (bK HO_11.out))) (Kd.ik (bK HO_13.out))) (ai ak));have n4_:=aa.mk (ah ak hb);clear HO_9;clear HO_11;clear HO_13;clear HB;have HO_9:=n0_;have HO_11:=n1_;have HO_13:=n2_;have HO158:=n3_;have HB:=n4_;clear n0_ n1_ n2_ n3_ n4_;(try clear ho0)))
        go_ret2
        exact⟨_,a8,bK (Kd.bE HO158.out (fun _ hk=>trivial)),ak⟩
       ·replace jn:=Bool.eq_false_iff.mpr jn
        subst jn
        have H1:=H;rw[if_neg (show¬(false=true) by decide)] at H1
        clear H
        have H:=H1
        clear H1
        simp only[Option.some.injEq,Prod.mk.injEq] at H
        obtain⟨rfl,rfl⟩:=H
        go_wp2
        go_ret2
        exact⟨_,a8,bK (Kd.bE HO_13.out (fun _ hk=>trivial)),ak⟩
   ·replace c9:=Bool.eq_false_iff.mpr c9
    subst c9
    have H1:=H;rw[if_neg (show¬(false=true) by decide)] at H1
    clear H
    have H:=H1
    clear H1
    simp only[Option.some.injEq,Prod.mk.injEq] at H
    obtain⟨rfl,rfl⟩:=H
    go_enter Tryz.func33,Tryz.ntmps33
    go_wp2_with (first|((with_reducible refine aM (f:=23) rfl ?_);refine cj (some 20) rfl rfl Tryz.func23 (by kernel_rfl) rfl #[bh (.slice A0 l0.length c0), .int .i64 (l1.length:Int), .int .i64 1024] rfl (jy hT_HR0) ?_;(try rw[←hT_HR0]);(with_reducible refine(da.calls _ _ l0 (l1.length:Int) 1024 t139 _ ?side1 ?side2 A4.out).mono ?_);(case side1=>exact cw HR0.out);(case side2=>exact HC0.out);rintro e w' ⟨rfl,⟨nd,rfl⟩⟩;refine⟨_,rfl,?_⟩)|(refine fh 27 Tryz.func64 #[.int .i64 (l1.length:Int)] rfl ?_;(with_reducible refine(aI.calls k (l1.length:Int) t140 true _ A6.out).mono ?_);rintro e w27 ⟨v142,rfl,ho0,hb⟩;refine⟨_,rfl,?_⟩;have n0_:=aa.mk (Kd.bN ho0 (ai ak));have n1_:=aa.mk (ah ak hb);clear HB;have HO143:=n0_;have HB:=n1_;clear n0_ n1_;(try clear ho0))|((with_reducible refine aM (f:=24) rfl ?_);refine cj (some 34) rfl rfl Tryz.func24 (by kernel_rfl) rfl #[bh (.slice A0 l0.length c0), .slice A1 l1.length c1] rfl (jy hT_HR0) ?_;(try rw[←hT_HR0]);(with_reducible refine(cJ.calls k _ _ l0 _ _ l1 false _ ?side1 ?side2 ?side3 ?side4 A8.out).mono ?_);(case side1=>exact cw (Kd.bu HR0.out HB.out));(case side2=>exact HC0.out);(case side3=>exact cw (Kd.bu HR1.out HB.out));(case side4=>exact HC1.out);rintro e w' ⟨rfl,⟨nd,rfl⟩⟩;refine⟨_,rfl,?_⟩))
    go_ret2
    exact⟨_,a8,tO,ak⟩
  ·replace c7:=Bool.eq_false_iff.mpr c7
   subst c7
   have H1:=H;rw[if_neg (show¬(false=true) by decide)] at H1
   clear H
   have H:=H1
   clear H1
   simp only[Option.some.injEq,Prod.mk.injEq] at H
   obtain⟨rfl,rfl⟩:=H
   go_enter Tryz.func33,Tryz.ntmps33
   go_wp2_with (first|((with_reducible refine aM (f:=23) rfl ?_);refine cj (some 20) rfl rfl Tryz.func23 (by kernel_rfl) rfl #[bh (.slice A0 l0.length c0), .int .i64 (l1.length:Int), .int .i64 1024] rfl (jy hT_HR0) ?_;(try rw[←hT_HR0]);(with_reducible refine(da.calls _ _ l0 (l1.length:Int) 1024 t139 _ ?side1 ?side2 A4.out).mono ?_);(case side1=>exact cw HR0.out);(case side2=>exact HC0.out);rintro e w' ⟨rfl,⟨nd,rfl⟩⟩;refine⟨_,rfl,?_⟩)|(refine fh 27 Tryz.func64 #[.int .i64 (l1.length:Int)] rfl ?_;(with_reducible refine(aI.calls k (l1.length:Int) t140 false _ A6.out).mono ?_);rintro e w28 ⟨v142,rfl,ho0,hb⟩;refine⟨_,rfl,?_⟩;have n0_:=aa.mk (Kd.bN ho0 (ai ak));have n1_:=aa.mk (ah ak hb);clear HB;have HO143:=n0_;have HB:=n1_;clear n0_ n1_;(try clear ho0)))
   go_ret2
   exact⟨_,a8,tO,ak⟩
 ·rw[if_neg c5] at H
  have c5b0:=beq_eq_false_iff_ne.mpr c5
  have c5b1:=bne_iff_ne.mpr c5
  simp only[Option.some.injEq,Prod.mk.injEq] at H
  obtain⟨rfl,rfl⟩:=H
  go_enter Tryz.func33,Tryz.ntmps33
  go_wp2_with (first|((with_reducible refine aM (f:=23) rfl ?_);refine cj (some 20) rfl rfl Tryz.func23 (by kernel_rfl) rfl #[bh (.slice A0 l0.length c0), .int .i64 (l1.length:Int), .int .i64 1024] rfl (jy hT_HR0) ?_;(try rw[←hT_HR0]);(with_reducible refine(da.calls _ _ l0 (l1.length:Int) 1024 t139 _ ?side1 ?side2 A4.out).mono ?_);(case side1=>exact cw HR0.out);(case side2=>exact HC0.out);rintro e w' ⟨rfl,⟨nd,rfl⟩⟩;refine⟨_,rfl,?_⟩))
  go_ret2
  exact⟨_,a8,tO,ak⟩
end Go.Proofs.YtndkmnjbjlfeaaaGreat.XM
end
section
namespace Go.Proofs.YtndkmnjbjlfeaaaGreat.XC
open Go.RowKit Go.Proofs.YtndkmnjbjlfeaaaGreat.Given Go.Proofs.YtndkmnjbjlfeaaaGreat.Row05 Go.Proofs.YtndkmnjbjlfeaaaGreat.XS Go.Proofs.YtndkmnjbjlfeaaaGreat.XT Go.Proofs.YtndkmnjbjlfeaaaGreat.XR Go.Proofs.YtndkmnjbjlfeaaaGreat.F06 Go.Proofs.YtndkmnjbjlfeaaaGreat.XK Go.Proofs.YtndkmnjbjlfeaaaGreat.XW Go.Proofs.YtndkmnjbjlfeaaaGreat.XG Go.Proofs.YtndkmnjbjlfeaaaGreat.XM Go.Proofs.YtndkmnjbjlfeaaaGreatW.PrintWords Go.Proofs.YtndkmnjbjlfeaaaGreatW.PrintLast Go.Proofs.YtndkmnjbjlfeaaaGreatW.PrintMore
attribute [local go_sem] bU bS ct cr bw bz bP bT
set_option linter.unusedVariables false
set_option linter.unusedSimpArgs false
noncomputable def aH.l0:Nat→List Int→List Int→Int→Int→Option (Bool)
 |0,_,_,_,_=>none
 |k+1,x0,x1,x12,x13=>if x13<x12 then(if 0≤x13 then(if x13<(x0.length:Int) then(if x13<(x1.length:Int) then(if(rd x0 x13)=(rd x1 x13) then(aH.l0 k x0 x1 x12 (wrap64 (x13+1))) else(some false)) else(none)) else(none)) else(none)) else(some true)
noncomputable def aH.f(k:Nat)(l0:List Int)(l1:List Int):Option (Bool):=if(l0.length:Int)=(l1.length:Int) then(aH.l0 k l0 l1 (l0.length:Int) 0) else(some false)
theorem aH.fk: ∀k,(∀y0 y1 y2 y3,cW (aH.l0 k y0 y1 y2 y3) (aH.l0 (k+1) y0 y1 y2 y3))
 |0=>fun _ _ _ _ r h=>by simp[aH.l0] at h
 |k+1=>by
  have ih0:=aH.fk k
  ·intro y0 y1 y2 y3
   unfold aH.l0
   repeat' first
   |(with_reducible exact ih0 _ _ _ _)
   |(with_reducible exact cW.refl _)
   |(with_reducible exact cW.none _)
   |(with_reducible refine cW.ite ?_ ?_)
   |(with_reducible refine cW.bind ?_ (fun _=>?_))
theorem aH.mono: ∀a0 a1 k,cW (aH.f k a0 a1) (aH.f (k+1) a0 a1):=by
 intro a0 a1 k
 have ih0:=aH.fk k
 unfold aH.f
 repeat' first
   |(with_reducible exact ih0 _ _ _ _)
   |(with_reducible exact cW.refl _)
   |(with_reducible exact cW.none _)
   |(with_reducible refine cW.ite ?_ ?_)
   |(with_reducible refine cW.bind ?_ (fun _=>?_))
set_option maxHeartbeats 8000000 in
set_option maxRecDepth 100000 in
theorem aH.calls(k:Nat)(A0:Option Addr)(c0:Nat)(l0:List Int)(A1:Option Addr)(c1:Nat)(l1:List Int)(r:Bool)(w:World)(hr0:Kd.C (Kd.int .i64) w A0 l0.length l0)(hc0:l0.length≤c0)(hr1:Kd.C (Kd.int .i64) w A1 l1.length l1)(hc1:l1.length≤c1)(h:aH.f k l0 l1=some r):
  Calls Tryz.prog 81 #[.slice A0 l0.length c0, .slice A1 l1.length c1] w fun e w'=>e= .returned (.bool r)∧au w w':=by
 have HR0:=aa.mk hr0
 have HC0:=aa.mk hc0
 clear hr0 hc0
 have HR1:=aa.mk hr1
 have HC1:=aa.mk hc1
 clear hr1 hc1
 have H:=h;unfold aH.f at H
 clear h
 by_cases c3:(l0.length:Int)=(l1.length:Int)
 ·rw[if_pos c3] at H
  have c3b0:=beq_iff_eq.mpr c3
  have c3b1:=bne_eq_false_iff_eq.mpr c3
  have c3b2:(l0.length==l1.length)=true:=by first|simpa using c3|(simp at c3 ⊢;omega)
  clear c3
  have H':=aa.mk H
  clear H
  go_enter Tryz.func81,Tryz.ntmps81
  go_wp2
  go_loopg [13] k (fun kq v13 w'=> ∃(x13_1:Int),v13= .int .i64 x13_1∧aa (aH.l0 kq l0 l1 (l0.length:Int) x13_1=some r)∧aa (kq≤k)∧au w w')
  case atStart=>exact⟨(0),a8,H',⟨Nat.le_refl _⟩,dk⟩
  case round=>
   clear H'
   obtain⟨x13_1,rfl,HA,HK1,⟨m1,rfl⟩⟩:=hrel
   cases gk with
   |zero=>exact absurd HA.out (by simp[aH.l0])
   |succ k1=>
    have H:=HA.out
    clear HA
    simp only[aH.l0] at H
    by_cases c4:x13_1<(l0.length:Int)
    ·rw[if_pos c4] at H
     have c4b0:=decide_eq_true c4
     clear c4
     by_cases c5:0≤x13_1
     ·rw[if_pos c5] at H
      have c5b0:=decide_eq_true c5
      clear c5
      by_cases c6:x13_1<(l0.length:Int)
      ·rw[if_pos c6] at H
       have c6b0:=decide_eq_true c6
       clear c6
       by_cases c7:x13_1<(l1.length:Int)
       ·rw[if_pos c7] at H
        have c7b0:=decide_eq_true c7
        clear c7
        by_cases c8:(rd l0 x13_1)=(rd l1 x13_1)
        ·rw[if_pos c8] at H
         have c8b0:=beq_iff_eq.mpr c8
         have c8b1:=bne_eq_false_iff_eq.mpr c8
         clear c8
         have H':=aa.mk H
         clear H
         have p101:0≤(x13_1:Int):=of_decide_eq_true (by assumption)
         have q101:x13_1<(l0.length:Int):=of_decide_eq_true (by assumption)
         obtain⟨ad101,e101,hx101_0⟩:=Kd.cR HR0.out x13_1 p101 q101
         cases e101
         replace p101:=eq_true p101
         replace q101:=eq_true q101
         have p102:0≤(x13_1:Int):=of_decide_eq_true (by assumption)
         have q102:x13_1<(l1.length:Int):=of_decide_eq_true (by assumption)
         obtain⟨ad102,e102,hx102_0⟩:=Kd.cR HR1.out x13_1 p102 q102
         cases e102
         replace p102:=eq_true p102
         replace q102:=eq_true q102
         go_wp2
         repeat(go_quiet (fail);try go_wp2)
         go_roundg k1
         case measure=>have:=HK1.out;omega
         case rel=>exact⟨(wrap64 (x13_1+1)),a8,H',⟨by have:=HK1.out;omega⟩,dk⟩
        ·rw[if_neg c8] at H
         have c8b0:=beq_eq_false_iff_ne.mpr c8
         have c8b1:=bne_iff_ne.mpr c8
         obtain rfl:=Option.some.inj H
         have p101:0≤(x13_1:Int):=of_decide_eq_true (by assumption)
         have q101:x13_1<(l0.length:Int):=of_decide_eq_true (by assumption)
         obtain⟨ad101,e101,hx101_0⟩:=Kd.cR HR0.out x13_1 p101 q101
         cases e101
         replace p101:=eq_true p101
         replace q101:=eq_true q101
         have p102:0≤(x13_1:Int):=of_decide_eq_true (by assumption)
         have q102:x13_1<(l1.length:Int):=of_decide_eq_true (by assumption)
         obtain⟨ad102,e102,hx102_0⟩:=Kd.cR HR1.out x13_1 p102 q102
         cases e102
         replace p102:=eq_true p102
         replace q102:=eq_true q102
         go_wp2
         repeat(go_quiet (fail);try go_wp2)
         go_ret
         exact⟨a8,dk⟩
       ·rw[if_neg c7] at H
        exact absurd H (by simp)
      ·rw[if_neg c6] at H
       exact absurd H (by simp)
     ·rw[if_neg c5] at H
      exact absurd H (by simp)
    ·rw[if_neg c4] at H
     have c4b0:=decide_eq_false c4
     clear c4
     obtain rfl:=Option.some.inj H
     go_wp2
     go_ret
     exact⟨a8,dk⟩
 ·rw[if_neg c3] at H
  have c3b0:=beq_eq_false_iff_ne.mpr c3
  have c3b1:=bne_iff_ne.mpr c3
  have c3b2:(l0.length==l1.length)=false:=by first|simpa using c3|(simp at c3 ⊢;omega)
  obtain rfl:=Option.some.inj H
  go_enter Tryz.func81,Tryz.ntmps81
  go_wp2
  go_ret
  exact⟨a8,dk⟩
noncomputable def bJ.l0:Nat→Int→Int→Option (Int)
 |0,_,_=>none
 |k+1,x0,x1=>if x1>0 then(if x1=0 then(none) else(bJ.l0 k x1 (Int.tmod x0 x1))) else(some x0)
noncomputable def bJ.f(k:Nat)(a0:Int)(a1:Int):Option (Int):=bJ.l0 k a0 a1
theorem bJ.fk: ∀k,(∀y0 y1,cW (bJ.l0 k y0 y1) (bJ.l0 (k+1) y0 y1))
 |0=>fun _ _ r h=>by simp[bJ.l0] at h
 |k+1=>by
  have ih0:=bJ.fk k
  ·intro y0 y1
   unfold bJ.l0
   repeat' first
   |(with_reducible exact ih0 _ _)
   |(with_reducible exact cW.refl _)
   |(with_reducible exact cW.none _)
   |(with_reducible refine cW.ite ?_ ?_)
   |(with_reducible refine cW.bind ?_ (fun _=>?_))
theorem bJ.mono: ∀a0 a1 k,cW (bJ.f k a0 a1) (bJ.f (k+1) a0 a1):=by
 intro a0 a1 k
 have ih0:=bJ.fk k
 unfold bJ.f
 repeat' first
   |(with_reducible exact ih0 _ _)
   |(with_reducible exact cW.refl _)
   |(with_reducible exact cW.none _)
   |(with_reducible refine cW.ite ?_ ?_)
   |(with_reducible refine cW.bind ?_ (fun _=>?_))
set_option maxHeartbeats 8000000 in
set_option maxRecDepth 100000 in
theorem bJ.calls(k:Nat)(a0:Int)(a1:Int)(r:Int)(w:World)(h:bJ.f k a0 a1=some r):
  Calls Tryz.prog 141 #[.int .u64 a0, .int .u64 a1] w fun e w'=>e= .returned (.int .u64 r)∧au w w':=by
 have H:=h;unfold bJ.f at H
 clear h
 have H':=aa.mk H
 clear H
 go_enter Tryz.func141,Tryz.ntmps141
 go_wp2
 go_loopg [0,1] k (fun kq v0 v1 w'=> ∃(x0_1:Int) (x1_1:Int),v0= .int .u64 x0_1∧v1= .int .u64 x1_1∧aa (bJ.l0 kq x0_1 x1_1=some r)∧aa (kq≤k)∧au w w')
 case atStart=>exact⟨(a0),(a1),a8,a8,H',⟨Nat.le_refl _⟩,dk⟩
 case round=>
  clear H'
  obtain⟨x0_1,x1_1,rfl,rfl,HA,HK1,⟨m1,rfl⟩⟩:=hrel
  cases gk with
  |zero=>exact absurd HA.out (by simp[bJ.l0])
  |succ k1=>
   have H:=HA.out
   clear HA
   simp only[bJ.l0] at H
   by_cases c3:x1_1>0
   ·rw[if_pos c3] at H
    have c3b0:=decide_eq_true c3
    clear c3
    by_cases c4:x1_1=0
    ·rw[if_pos c4] at H
     exact absurd H (by simp)
    ·rw[if_neg c4] at H
     have c4b0:=beq_eq_false_iff_ne.mpr c4
     have c4b1:=bne_iff_ne.mpr c4
     have H':=aa.mk H
     clear H
     go_wp2
     repeat(go_quiet (fail);try go_wp2)
     go_roundg k1
     case measure=>have:=HK1.out;omega
     case rel=>exact⟨(x1_1),(Int.tmod x0_1 x1_1),a8,a8,H',⟨by have:=HK1.out;omega⟩,dk⟩
   ·rw[if_neg c3] at H
    have c3b0:=decide_eq_false c3
    clear c3
    obtain rfl:=Option.some.inj H
    go_wp2
    go_ret
    exact⟨a8,dk⟩
noncomputable def cT.f(k:Nat)(a0:Int)(a1:Int):Option (Bool):=(bJ.f k a0 a1).bind fun t103=>(some (t103==1))
theorem cT.mono: ∀a0 a1 k,cW (cT.f k a0 a1) (cT.f (k+1) a0 a1):=by
 intro a0 a1 k
 unfold cT.f
 repeat' first
   |(with_reducible exact bJ.mono _ _ _)
   |(with_reducible exact cW.refl _)
   |(with_reducible exact cW.none _)
   |(with_reducible refine cW.ite ?_ ?_)
   |(with_reducible refine cW.bind ?_ (fun _=>?_))
set_option maxHeartbeats 8000000 in
set_option maxRecDepth 100000 in
theorem cT.calls(k:Nat)(a0:Int)(a1:Int)(r:Bool)(w:World)(h:cT.f k a0 a1=some r):
  Calls Tryz.prog 114 #[.int .u64 a0, .int .u64 a1] w fun e w'=>e= .returned (.bool r)∧au w w':=by
 have H:=h;unfold cT.f at H
 clear h
 replace H:=Option.bind_eq_some_iff.mp H
 obtain⟨t103,A30,H⟩:=H
 (try dsimp only at H)
 have A3:=aa.mk A30
 clear A30
 obtain rfl:=Option.some.inj H
 go_enter Tryz.func114,Tryz.ntmps114
 go_wp2_with (first|(refine fh 7 Tryz.func141 #[.int .u64 a0, .int .u64 a1] rfl ?_;(with_reducible refine(bJ.calls k a0 a1 t103 _ A3.out).mono ?_);rintro e w' ⟨rfl,⟨nd,rfl⟩⟩;refine⟨_,rfl,?_⟩))
 go_ret
 exact⟨a8,dk⟩
noncomputable def bo.f(k:Nat)(a0:Int)(a1:Int):Option (Bool):=if a0>1 then(if a1>1 then(if a1<a0 then(if a1=0 then(none) else(if(Int.tmod a0 a1)=0 then((cT.f k (IntKind.u64.wrap (a1)) (IntKind.u64.wrap (wrap64 (Int.tdiv a0 a1)))).bind fun t104=>(some t104)) else(some false))) else(some false)) else(some false)) else(some false)
theorem bo.mono: ∀a0 a1 k,cW (bo.f k a0 a1) (bo.f (k+1) a0 a1):=by
 intro a0 a1 k
 unfold bo.f
 repeat' first
   |(with_reducible exact cT.mono _ _ _)
   |(with_reducible exact cW.refl _)
   |(with_reducible exact cW.none _)
   |(with_reducible refine cW.ite ?_ ?_)
   |(with_reducible refine cW.bind ?_ (fun _=>?_))
set_option maxHeartbeats 8000000 in
set_option maxRecDepth 100000 in
theorem bo.calls(k:Nat)(a0:Int)(a1:Int)(r:Bool)(w:World)(h:bo.f k a0 a1=some r):
  Calls Tryz.prog 84 #[.int .i64 a0, .int .i64 a1] w fun e w'=>e= .returned (.bool r)∧au w w':=by
 have H:=h;unfold bo.f at H
 clear h
 by_cases c3:a0>1
 ·rw[if_pos c3] at H
  have c3b0:=decide_eq_true c3
  clear c3
  by_cases c4:a1>1
  ·rw[if_pos c4] at H
   have c4b0:=decide_eq_true c4
   clear c4
   by_cases c5:a1<a0
   ·rw[if_pos c5] at H
    have c5b0:=decide_eq_true c5
    clear c5
    by_cases c6:a1=0
    ·rw[if_pos c6] at H
     exact absurd H (by simp)
    ·rw[if_neg c6] at H
     have c6b0:=beq_eq_false_iff_ne.mpr c6
     have c6b1:=bne_iff_ne.mpr c6
     by_cases c7:(Int.tmod a0 a1)=0
     ·rw[if_pos c7] at H
      have c7b0:=beq_iff_eq.mpr c7
      have c7b1:=bne_eq_false_iff_eq.mpr c7
      clear c7
      replace H:=Option.bind_eq_some_iff.mp H
      obtain⟨t104,A80,H⟩:=H
      (try dsimp only at H)
      have A8:=aa.mk A80
      clear A80
      obtain rfl:=Option.some.inj H
      go_enter Tryz.func84,Tryz.ntmps84
      go_wp2_with (first|(go_at_call 114;(with_reducible refine(cT.calls k (IntKind.u64.wrap (a1)) (IntKind.u64.wrap (wrap64 (Int.tdiv a0 a1))) t104 _ A8.out).mono ?_);rintro e w' ⟨rfl,⟨nd,rfl⟩⟩))
      go_ret
      exact⟨a8,dk⟩
     ·rw[if_neg c7] at H
      have c7b0:=beq_eq_false_iff_ne.mpr c7
      have c7b1:=bne_iff_ne.mpr c7
      obtain rfl:=Option.some.inj H
      go_enter Tryz.func84,Tryz.ntmps84
      go_wp2
      go_ret
      exact⟨a8,dk⟩
   ·rw[if_neg c5] at H
    have c5b0:=decide_eq_false c5
    clear c5
    obtain rfl:=Option.some.inj H
    go_enter Tryz.func84,Tryz.ntmps84
    go_wp2
    go_ret
    exact⟨a8,dk⟩
  ·rw[if_neg c4] at H
   have c4b0:=decide_eq_false c4
   clear c4
   obtain rfl:=Option.some.inj H
   go_enter Tryz.func84,Tryz.ntmps84
   go_wp2
   go_ret
   exact⟨a8,dk⟩
 ·rw[if_neg c3] at H
  have c3b0:=decide_eq_false c3
  clear c3
  obtain rfl:=Option.some.inj H
  go_enter Tryz.func84,Tryz.ntmps84
  go_wp2
  go_ret
  exact⟨a8,dk⟩
noncomputable def cV.f(a0:Int)(a1:Int):Option (Bool):=if a0>0 then(if a1>0 then(if a1=0 then(none) else(some (decide (a0≤(wrap64 (Int.tdiv (1024:Int) a1)))))) else(some false)) else(some false)
set_option maxHeartbeats 8000000 in
set_option maxRecDepth 100000 in
theorem cV.calls(a0:Int)(a1:Int)(r:Bool)(w:World)(h:cV.f a0 a1=some r):
  Calls Tryz.prog 113 #[.int .i64 a0, .int .i64 a1] w fun e w'=>e= .returned (.bool r)∧au w w':=by
 have H:=h;unfold cV.f at H
 clear h
 by_cases c3:a0>0
 ·rw[if_pos c3] at H
  have c3b0:=decide_eq_true c3
  clear c3
  by_cases c4:a1>0
  ·rw[if_pos c4] at H
   have c4b0:=decide_eq_true c4
   clear c4
   by_cases c5:a1=0
   ·rw[if_pos c5] at H
    exact absurd H (by simp)
   ·rw[if_neg c5] at H
    have c5b0:=beq_eq_false_iff_ne.mpr c5
    have c5b1:=bne_iff_ne.mpr c5
    obtain rfl:=Option.some.inj H
    go_enter Tryz.func113,Tryz.ntmps113
    go_wp2
    go_ret
    exact⟨a8,dk⟩
  ·rw[if_neg c4] at H
   have c4b0:=decide_eq_false c4
   clear c4
   obtain rfl:=Option.some.inj H
   go_enter Tryz.func113,Tryz.ntmps113
   go_wp2
   go_ret
   exact⟨a8,dk⟩
 ·rw[if_neg c3] at H
  have c3b0:=decide_eq_false c3
  clear c3
  obtain rfl:=Option.some.inj H
  go_enter Tryz.func113,Tryz.ntmps113
  go_wp2
  go_ret
  exact⟨a8,dk⟩
mutual
noncomputable def aG.l0:Nat→List (dA)→List (dq)→Int→Int→Option ((List (dA)))
 |0,_,_,_,_=>none
 |k+1,x3,x9,x10,x11=>if x11<x10 then(if 0≤x11 then(if x11<(x9.length:Int) then(aG.l1 k x3 ([]:List (bO)) x9 x10 x11 ((ag x9 x11).f2) (((ag x9 x11).f2).length:Int) 0 ((ag x9 x11).f0) ((ag x9 x11).f1) ((ag x9 x11).f2)) else(none)) else(none)) else(some x3)
noncomputable def aG.l1:Nat→List (dA)→List (bO)→List (dq)→Int→Int→List (eL)→Int→Int→Int→Int→List (eL)→Option ((List (dA)))
 |0,_,_,_,_,_,_,_,_,_,_,_=>none
 |k+1,x3,x6,x9,x10,x11,x16,x17,x18,x111000,x111001,x111002=>if x18<x17 then(if 0≤x18 then(if x18<(x16.length:Int) then(if x6.length<8796093022208 then(aG.l1 k x3 (x6++[(⟨(aD x16 x18).f0,(aD x16 x18).f1⟩:bO)]) x9 x10 x11 x16 x17 (wrap64 (x18+1)) x111000 x111001 x111002) else(none)) else(none)) else(none)) else(if x3.length<3518437208883 then(aG.l0 k (x3++[(⟨x111000,x111001,x6⟩:dA)]) x9 x10 (wrap64 (x11+1))) else(none))
end
noncomputable def aG.f(k:Nat)(l0:List (dq)):Option ((List (dA))):=aG.l0 k ([]:List (dA)) l0 (l0.length:Int) 0
set_option maxHeartbeats 8000000 in
set_option maxRecDepth 100000 in
theorem aG.calls(k:Nat)(A0:Option Addr)(c0:Nat)(l0:List (dq))(r:List (dA))(w:World)(hr0:Kd.C ku w A0 l0.length l0)(hc0:l0.length≤c0)(h:aG.f k l0=some r):
  Calls Tryz.prog 85 #[.slice A0 l0.length c0] w fun e w'=> ∃v0_:Value,e= .returned (v0_)∧Kd.S kt 94 w' w.heap.size (fun _=>True) v0_ r∧Below w.heap.size w w':=by
 have hu134:=Tryz.underlying134
 have hu146:=Tryz.underlying146
 have hu94:=Tryz.underlying94
 have HR0:=aa.mk hr0
 have HC0:=aa.mk hc0
 clear hr0 hc0
 have HB:=aa.mk (Below.refl w.heap.size w)
 have H:=h;unfold aG.f at H
 clear h
 have H':=aa.mk H
 clear H
 go_enter Tryz.func85,Tryz.ntmps85
 go_wp2
 go_loopg [3,11] k (fun kq v3 v11 w'=> ∃(x3_1:List (dA)) (x11_1:Int),v11= .int .i64 x11_1∧aa (aG.l0 kq x3_1 l0 (l0.length:Int) x11_1=some r)∧aa (kq≤k)∧aa (Kd.S kt 94 w' w.heap.size (fun _=>True) v3 x3_1)∧aa (Below w.heap.size w w'))
 case atStart=>exact⟨(([]:List (dA))),(0),a8,H',⟨Nat.le_refl _⟩,⟨by first|exact Kd.jv _ _ _ _ _|exact Kd.lY _ _ _ _ _|exact Kd.mc _ _ _ _ _|exact Kd.lN _ _ _ _ _|exact Kd.fW _ _ _ _ _⟩,⟨ak⟩⟩
 case round=>
  clear H'
  obtain⟨x3_1,x11_1,rfl,HA,HK1,HO_3,HB⟩:=hrel
  cases gk with
  |zero=>exact absurd HA.out (by simp[aG.l0])
  |succ k1=>
   have H:=HA.out
   clear HA
   simp only[aG.l0] at H
   by_cases c2:x11_1<(l0.length:Int)
   ·rw[if_pos c2] at H
    have c2b0:=decide_eq_true c2
    clear c2
    by_cases c3:0≤x11_1
    ·rw[if_pos c3] at H
     have c3b0:=decide_eq_true c3
     clear c3
     by_cases c4:x11_1<(l0.length:Int)
     ·rw[if_pos c4] at H
      have c4b0:=decide_eq_true c4
      clear c4
      have H':=aa.mk H
      clear H
      have p109:0≤(x11_1:Int):=of_decide_eq_true (by assumption)
      have q109:x11_1<(l0.length:Int):=of_decide_eq_true (by assumption)
      obtain⟨ad109,A109_2,c109_2,e109,hx109_0,hx109_1,hx109_2,hl109_2,hi109_2⟩:=gS HR0.out x11_1 p109 q109
      cases e109
      replace hx109_0:=dP HB.out hx109_0
      replace hx109_1:=dP HB.out hx109_1
      replace hx109_2:=dP HB.out hx109_2
      have HR109_2:=aa.mk hi109_2
      have HC109_2:=aa.mk hl109_2
      clear hi109_2 hl109_2
      replace p109:=eq_true p109
      replace q109:=eq_true q109
      go_wp2_with (first|((with_reducible refine bk (N:=5) rfl ?_);refine jg 5 #[.int .u64 0, .int .u64 0, .slice none 0 0] 134 ?_;intro gb110 hg w5 hbox hb;have n0_:=aa.mk (Kd.ir (by(with_reducible repeat(first|apply Kd.gh|apply Kd.gg|apply Kd.ib));exact HO_3.out) hb);have n1_:=aa.mk (ah ak hb);have n2_:=aa.mk (hbox);have n3_:=aa.mk ((by rw[hg];exact(ai ak):w.heap.size≤gb110));have n4_:=aa.mk ((by rw[hg];exact(ai ak):w.heap.size≤gb110));clear HO_3;clear HB;have HO_3:=n0_;have HB:=n1_;have BK110:=n2_;have GW110:=n3_;have GE110:=n4_;clear n0_ n1_ n2_ n3_ n4_;clear hb hbox hg;have hcz6_0:=bt BK110.out 0 rfl;have hcz6_1:=bt BK110.out 1 rfl;have hcz6_2:=bt BK110.out 2 rfl;have hfz6_0:=ab BK110.out 0;have hfz6_1:=ab BK110.out 1;have hfz6_2:=ab BK110.out 2))
      go_loopg [6,18] k1 (fun kq v6 v18 w'=> ∃(x6_2:List (bO)) (x18_2:Int),v18= .int .i64 x18_2∧aa (aG.l1 kq x3_1 x6_2 l0 (l0.length:Int) x11_1 ((ag l0 x11_1).f2) (((ag l0 x11_1).f2).length:Int) x18_2 ((ag l0 x11_1).f0) ((ag l0 x11_1).f1) ((ag l0 x11_1).f2)=some r)∧aa (kq≤k1)∧aa (Kd.S kt 94 w' w.heap.size (fun k_=>some k_≠(v6:Value).ownBlock) u3 x3_1)∧aa (Kd.R ei 147 w' w.heap.size (fun _=>True) v6 x6_2)∧aa (w'.heap[gb110]?=some (.cells #[.int .u64 ((ag l0 x11_1).f0), .int .u64 ((ag l0 x11_1).f1),(.slice A109_2 ((ag l0 x11_1).f2).length c109_2)] 134 (0,0)))∧aa (Below w.heap.size w w'))
      case atStart=>exact⟨(([]:List (bO))),(0),a8,H',⟨Nat.le_refl _⟩,⟨by(with_reducible repeat(first|apply Kd.gh|apply Kd.gg|apply Kd.ib));exact Kd.kg (Kd.qv (p:=⟨gb110,2,none⟩) (Kd.qv (p:=⟨gb110,1,none⟩) (Kd.qv (p:=⟨gb110,0,none⟩) (Kd.sJ HO_3.out BK110.out (by decide)) (fun _ hk=>hk.2) (.int .u64 ((ag l0 x11_1).f0))) (fun _ hk=>hk.2) (.int .u64 ((ag l0 x11_1).f1))) (fun _ hk=>hk.2) (.slice A109_2 ((ag l0 x11_1).f2).length c109_2)) (fun _ hk=>(by simp[Value.ownBlock]))⟩,⟨tO⟩,⟨bC (bC (bC BK110.out 0 _ rfl) 1 _ rfl) 2 _ rfl⟩,⟨ak⟩⟩
      case round=>
       clear H'
       try clear hx1
       try clear hx109_0
       try clear hx109_1
       try clear hx109_2
       obtain⟨x6_2,x18_2,rfl,HA,HK2,HO_3,HO_6,BK110,HB⟩:=hrel
       cases gk with
       |zero=>exact absurd HA.out (by simp[aG.l1])
       |succ k2=>
        have H:=HA.out
        clear HA
        simp only[aG.l1] at H
        by_cases c7:x18_2<(((ag l0 x11_1).f2).length:Int)
        ·rw[if_pos c7] at H
         have c7b0:=decide_eq_true c7
         clear c7
         by_cases c8:0≤x18_2
         ·rw[if_pos c8] at H
          have c8b0:=decide_eq_true c8
          clear c8
          by_cases c9:x18_2<(((ag l0 x11_1).f2).length:Int)
          ·rw[if_pos c9] at H
           have c9b0:=decide_eq_true c9
           clear c9
           by_cases ek:x6_2.length<8796093022208
           ·rw[if_pos ek] at H
            have LMc10:=aa.mk ek
            clear ek
            obtain⟨y113,hy113⟩: ∃y_:List (bO),y_=(x6_2++[(⟨(aD ((ag l0 x11_1).f2) x18_2).f0,(aD ((ag l0 x11_1).f2) x18_2).f1⟩:bO)]):=⟨_,rfl⟩
            replace H:(aG.l1 k2 x3_1 y113 l0 (l0.length:Int) x11_1 ((ag l0 x11_1).f2) (((ag l0 x11_1).f2).length:Int) (wrap64 (x18_2+1)) ((ag l0 x11_1).f0) ((ag l0 x11_1).f1) ((ag l0 x11_1).f2))=some r:=by first|(rw[hy113];with_reducible exact H)|(have H2_:=(Option.bind_some _ _).symm.trans H;rw[hy113];with_reducible exact H2_)|(have H2_:=(Option.bind_some _ _).symm.trans H;with_reducible exact H2_)|with_reducible exact H|(rw[hy113];exact H)|exact H
            have Ny113:=aa.mk hy113
            clear hy113
            have H':=aa.mk H
            clear H
            have p111:0≤(x18_2:Int):=of_decide_eq_true (by assumption)
            have q111:x18_2<(((ag l0 x11_1).f2).length:Int):=of_decide_eq_true (by assumption)
            obtain⟨ad111,e111,hx111_0,hx111_1⟩:=gx HR109_2.out x18_2 p111 q111
            cases e111
            replace hx111_0:=dP HB.out hx111_0
            replace hx111_1:=dP HB.out hx111_1
            replace p111:=eq_true p111
            replace q111:=eq_true q111
            go_wp2_with (first|((with_reducible refine bk (N:=8) rfl ?_);refine jg 8 #[.int .u64 0, .int .i64 0] 146 ?_;intro gb112 hg w11 hbox hb;have n0_:=aa.mk (Kd.ir (by(with_reducible repeat(first|apply Kd.gh|apply Kd.gg|apply Kd.ib));exact HO_3.out) hb);have n1_:=aa.mk (Kd.dp (bK HO_6.out) hb);have n2_:=aa.mk (aU BK110.out hb);have n3_:=aa.mk (ah ak hb);have n4_:=aa.mk (hbox);have n5_:=aa.mk ((by rw[hg];exact(ai ak):w.heap.size≤gb112));have n6_:=aa.mk ((by rw[hg];exact(ai ak):w.heap.size≤gb112));have n7_:=aa.mk ((by rw[hg];exact Nat.ne_of_lt (de BK110.out):gb110≠gb112));have n8_:=aa.mk ((by rw[hg];exact Nat.ne_of_gt (de BK110.out):gb112≠gb110));clear HO_3;clear HO_6;clear BK110;clear HB;have HO_3:=n0_;have HO_6:=n1_;have BK110:=n2_;have HB:=n3_;have BK112:=n4_;have GW112:=n5_;have GE112:=n6_;have NB110_112:=n7_;have NB112_110:=n8_;clear n0_ n1_ n2_ n3_ n4_ n5_ n6_ n7_ n8_;clear hb hbox hg;have hnb12:=NB112_110.out;have hnc12:=NB110_112.out;have hcz13_0:=bt BK112.out 0 rfl;have hcz13_1:=bt BK112.out 1 rfl;have hfz13_0:=ab BK112.out 0;have hfz13_1:=ab BK112.out 1)|((with_reducible refine eO (b:= .append) (xs:= #[.tmp 22, .tmp 24]) rfl ?_);at_builtin;refine Kd.jH ei (w0:=w) w.heap.size rfl (.tmp 22) (.tmp 24) 92 147 (.agg #[(.int .u64 0),(.int .i64 0)]) 16 rfl Tryz.underlying92 jO rfl (by decide) (by omega) u6 x6_2 (⟨(aD ((ag l0 x11_1).f2) x18_2).f0,(aD ((ag l0 x11_1).f2) x18_2).f1⟩:bO) [.int .u64 ((aD ((ag l0 x11_1).f2) x18_2).f0), .int .i64 ((aD ((ag l0 x11_1).f2) x18_2).f1)] (fun _=>True) (fun _=>False) rfl (by first|(go_simp;done)|(go_simp;rfl)) ?aP (fun _ hk=>hk.elim) ?aF ?aO ?aB ?aS ?aL ?_;(case aP=>exact kU _ _ _ (⟨(aD ((ag l0 x11_1).f2) x18_2).f0,(aD ((ag l0 x11_1).f2) x18_2).f1⟩:bO));(case aB=>exact ak);(case aF=>exact(fun _ _=>trivial));(case aO=>exact(by(with_reducible repeat(first|apply Kd.bI|apply Kd.bL|apply Kd.bM));exact Kd.bE (Kd.mT (p:=⟨gb112,1,none⟩) (Kd.mT (p:=⟨gb112,0,none⟩) (Kd.oS HO_6.out BK112.out (by decide)) (fun _ hk=>hk.2) (.int .u64 ((aD ((ag l0 x11_1).f2) x18_2).f0))) (fun _ hk=>hk.2) (.int .i64 ((aD ((ag l0 x11_1).f2) x18_2).f1))) (fun _ hk=>trivial)));(case aS=>exact(ai ak));(case aL=>have:=LMc10.out;omega);intro v114 w14 ho hb hg hat;rw[←Ny113.out] at ho;have n0_:=aa.mk (Kd.xz (ok:=(fun _=>True)) (by(with_reducible repeat(first|apply Kd.gh|apply Kd.gg|apply Kd.ib));exact Kd.kg (Kd.qv (p:=⟨gb112,1,none⟩) (Kd.qv (p:=⟨gb112,0,none⟩) (Kd.sJ HO_3.out BK112.out (by decide)) (fun _ hk=>hk.2) (.int .u64 ((aD ((ag l0 x11_1).f2) x18_2).f0))) (fun _ hk=>hk.2) (.int .i64 ((aD ((ag l0 x11_1).f2) x18_2).f1))) (fun _ hk=>⟨trivial,hk.1⟩)) hg hat);have n1_:=aa.mk (jY (g:=gb110) (o:= .cells #[.int .u64 ((ag l0 x11_1).f0), .int .u64 ((ag l0 x11_1).f1), .slice (some ad111) ((ag l0 x11_1).f2).length c109_2] 134 (0,0)) (by(with_reducible repeat(first|refine cB ?_ _|refine bG ?_|refine cC ?_ _));refine dx ?_ NB110_112.out _;(with_reducible repeat(first|refine cB ?_ _|refine bG ?_|refine cC ?_ _));refine dx ?_ NB110_112.out _;(with_reducible repeat(first|refine cB ?_ _|refine bG ?_|refine cC ?_ _));exact BK110.out) hg (Kd.ur HO_6.out BK110.out (by decide)));have n2_:=aa.mk (jY (g:=gb112) (o:= .cells #[.int .u64 ((aD ((ag l0 x11_1).f2) x18_2).f0), .int .i64 ((aD ((ag l0 x11_1).f2) x18_2).f1)] 146 (0,0)) (by(with_reducible repeat(first|refine cB ?_ _|refine bG ?_|refine cC ?_ _));refine bC (cs:= #[.int .u64 ((aD ((ag l0 x11_1).f2) x18_2).f0), .int .i64 0]) ?_ 1 _ rfl;(with_reducible repeat(first|refine cB ?_ _|refine bG ?_|refine cC ?_ _));refine bC (cs:= #[.int .u64 0, .int .i64 0]) ?_ 0 _ rfl;(with_reducible repeat(first|refine cB ?_ _|refine bG ?_|refine cC ?_ _));exact BK112.out) hg (Kd.ur HO_6.out BK112.out (by decide)));have n3_:=aa.mk (hb);have n4_:=aa.mk (ho);clear HO_3;clear BK110;clear BK112;clear HB;clear HO_6;have HO_3:=n0_;have BK110:=n1_;have BK112:=n2_;have HB:=n3_;have HO115:=n4_;clear n0_ n1_ n2_ n3_ n4_;clear ho hb hg hat))
            go_roundg k2
            case measure=>have:=HK1.out;have:=HK2.out;omega
            case rel=>exact⟨(y113),(wrap64 (x18_2+1)),a8,H',⟨by have:=HK1.out;have:=HK2.out;omega⟩,⟨by(with_reducible repeat(first|apply Kd.gh|apply Kd.gg|apply Kd.ib));exact Kd.kg HO_3.out (fun _ hk=>hk.2)⟩,⟨bK HO115.out⟩,⟨cP BK110.out⟩,⟨ak⟩⟩
           ·rw[if_neg ek] at H
            exact absurd H (by simp)
          ·rw[if_neg c9] at H
           exact absurd H (by simp)
         ·rw[if_neg c8] at H
          exact absurd H (by simp)
        ·rw[if_neg c7] at H
         have c7b0:=decide_eq_false c7
         clear c7
         by_cases iK:x3_1.length<3518437208883
         ·rw[if_pos iK] at H
          have LMc15:=aa.mk iK
          clear iK
          obtain⟨y116,hy116⟩: ∃y_:List (dA),y_=(x3_1++[(⟨((ag l0 x11_1).f0),((ag l0 x11_1).f1),x6_2⟩:dA)]):=⟨_,rfl⟩
          replace H:(aG.l0 k2 y116 l0 (l0.length:Int) (wrap64 (x11_1+1)))=some r:=by first|(rw[hy116];with_reducible exact H)|(have H2_:=(Option.bind_some _ _).symm.trans H;rw[hy116];with_reducible exact H2_)|(have H2_:=(Option.bind_some _ _).symm.trans H;with_reducible exact H2_)|with_reducible exact H|(rw[hy116];exact H)|exact H
          have Ny116:=aa.mk hy116
          clear hy116
          have H':=aa.mk H
          clear H
          have hcz16_0:=bt BK110.out 0 rfl
          have hcz16_1:=bt BK110.out 1 rfl
          have hcz16_2:=bt BK110.out 2 rfl
          have hfz16_0:=ab BK110.out 0
          have hfz16_1:=ab BK110.out 1
          have hfz16_2:=ab BK110.out 2
          obtain⟨Ao17,co17,eo17⟩:=Kd.cb HO_6.out
          subst eo17
          go_wp2_with (first|((with_reducible refine eO (b:= .append) (xs:= #[.tmp 27, .tmp 34]) rfl ?_);at_builtin;refine Kd.pQ kt (w0:=w) w.heap.size rfl (.tmp 27) (.tmp 34) 81 94 (.agg #[(.int .u64 0),(.int .u64 0),(.slice none 0 0)]) 40 rfl Tryz.underlying81 ko rfl (by decide) (by omega) u3 x3_1 (⟨((ag l0 x11_1).f0),((ag l0 x11_1).f1),x6_2⟩:dA) [.int .u64 ((ag l0 x11_1).f0), .int .u64 ((ag l0 x11_1).f1), .slice Ao17 x6_2.length co17] (fun _=>True) (fun k_=>some k_=(.slice Ao17 x6_2.length co17:Value).ownBlock) rfl rfl ?aP (fun k_ hk_=>((Kd.bE (ok':=fun k_=>((fun _=>True)) k_∧some k_≠(u3:Value).ownBlock) (Kd.jw (HO_6.out) (Kd.se HO_3.out) (by decide)) (fun k_ hk=>⟨trivial,hk.2⟩))).1 k_ hk_.symm) ?aF ?aO ?aB ?aS ?aL ?_;(case aP=>exact oX _ _ _ (⟨((ag l0 x11_1).f0),((ag l0 x11_1).f1),x6_2⟩:dA) (Kd.bE (Kd.iW rfl (Kd.bE (ok':=fun k_=>((fun _=>True)) k_∧some k_≠(u3:Value).ownBlock) (Kd.jw (HO_6.out) (Kd.se HO_3.out) (by decide)) (fun k_ hk=>⟨trivial,hk.2⟩))) (fun _ h_=>h_)));(case aB=>exact ak);(case aF=>exact(fun _ _=>trivial));(case aO=>exact(by(with_reducible repeat(first|apply Kd.gh|apply Kd.gg|apply Kd.ib));exact Kd.kg HO_3.out (fun k_ hk=>⟨trivial,fun e_=>hk e_⟩)));(case aS=>exact(ai ak));(case aL=>have:=LMc15.out;omega);intro v117 w18 ho hb hg hat;rw[←Ny116.out] at ho;have n0_:=aa.mk (jY (g:=gb110) (o:= .cells #[.int .u64 ((ag l0 x11_1).f0), .int .u64 ((ag l0 x11_1).f1), .slice A109_2 ((ag l0 x11_1).f2).length c109_2] 134 (0,0)) (cP BK110.out) hg (Kd.AV HO_3.out BK110.out (by decide)));have n1_:=aa.mk (hb);have n2_:=aa.mk (ho);clear BK110;clear HB;clear HO_3;clear HO_6;have BK110:=n0_;have HB:=n1_;have HO118:=n2_;clear n0_ n1_ n2_;clear ho hb hg hat))
          go_roundg k2
          case measure=>have:=HK1.out;have:=HK2.out;omega
          case rel=>exact⟨(y116),(wrap64 (x11_1+1)),a8,H',⟨by have:=HK1.out;have:=HK2.out;omega⟩,⟨by(with_reducible repeat(first|apply Kd.gh|apply Kd.gg|apply Kd.ib));exact HO118.out⟩,⟨ak⟩⟩
         ·rw[if_neg iK] at H
          exact absurd H (by simp)
     ·rw[if_neg c4] at H
      exact absurd H (by simp)
    ·rw[if_neg c3] at H
     exact absurd H (by simp)
   ·rw[if_neg c2] at H
    have c2b0:=decide_eq_false c2
    clear c2
    obtain rfl:=Option.some.inj H
    go_wp2
    go_ret
    exact⟨_,a8,by(with_reducible repeat(first|apply Kd.gh|apply Kd.gg|apply Kd.ib));exact HO_3.out,ak⟩
noncomputable def bB.f(k:Nat)(a0_0:Int)(a0_1:Int)(a0_2:Int)(l0_3:List (dq)):Option ((List (cn))×Int×Int):=(aq.f k a0_0 a0_1 a0_2 l0_3).bind fun bt120=>(if a0_0=0 then((fm.f k a0_2).bind fun bt123=>(some (bt123.1,bt120.1,bt120.2.1))) else(if a0_0=1 then((dT.f k a0_1).bind fun bt127=>(some (bt127.1,bt120.1,bt120.2.1))) else(if(l0_3.length:Int)≤40 then((aG.f k l0_3).bind fun t131=>((ew.f k t131 a0_2).bind fun bt134=>(some (bt134.1,bt120.1,bt120.2.1)))) else(some (([]:List (cn)),bt120.1,bt120.2.1)))))
def bB.T5:Bool×List (List Nat×List Nat):=(true,[([],[]),([0],[0]),([1],[1]),([],[]),([3],[3]),([2,4,2],[2,4]),([5],[5]),([6],[6]),([6],[6]),([7,5,0,1,2,3,4,5,6,7],[7])])
def bB.B5:List Nat:=[0,1,3,0,8,31,63,127,127,255]
theorem bB.yV:fX .any (opsOf Tryz.f44 5)=bB.T5:=by kernel_rfl
theorem bB.wM:fC bB.T5.2 bB.B5=true:=by kernel_rfl
set_option maxHeartbeats 8000000 in
set_option maxRecDepth 100000 in
theorem bB.calls(k:Nat)(a0_0:Int)(a0_1:Int)(a0_2:Int)(A0_3:Option Addr)(c0_3:Nat)(l0_3:List (dq))(r1:List (cn))(r2:Int)(r3:Int)(w:World)(hr0_3:Kd.C ku w A0_3 l0_3.length l0_3)(hc0_3:l0_3.length≤c0_3)(h:bB.f k a0_0 a0_1 a0_2 l0_3=some (r1,r2,r3)):
  Calls Tryz.prog 44 #[.agg #[.int .i64 a0_0, .int .i64 a0_1, .int .u64 a0_2, .slice A0_3 l0_3.length c0_3]] w fun e w'=> ∃v0_:Value,e= .returned (.tuple #[bh v0_, .int .u64 r2, .int .u64 r3])∧Kd.R fB 97 w' w.heap.size (fun _=>True) v0_ r1∧Below w.heap.size w w':=by
 have hu25:=Tryz.underlying25
 have HR0_3:=aa.mk hr0_3
 have HC0_3:=aa.mk hc0_3
 clear hr0_3 hc0_3
 have HB:=aa.mk (Below.refl w.heap.size w)
 have H:=h;unfold bB.f at H
 clear h
 replace H:=Option.bind_eq_some_iff.mp H
 obtain⟨⟨t120,t121,t122⟩,A20,H⟩:=H
 (try dsimp only at H)
 have A2:=aa.mk A20
 clear A20
 by_cases c3:a0_0=0
 ·rw[if_pos c3] at H
  have c3b0:=beq_iff_eq.mpr c3
  have c3b1:=bne_eq_false_iff_eq.mpr c3
  clear c3
  replace H:=Option.bind_eq_some_iff.mp H
  obtain⟨⟨t123,t124⟩,A40,H⟩:=H
  (try dsimp only at H)
  have A4:=aa.mk A40
  clear A40
  simp only[Option.some.injEq,Prod.mk.injEq] at H
  obtain⟨rfl,rfl,rfl⟩:=H
  go_enter Tryz.func44,Tryz.ntmps44
  go_wp2_with (first|((with_reducible refine bk (N:=1) rfl ?_);refine jg 1 #[.int .i64 a0_0, .int .i64 a0_1, .int .u64 a0_2, .slice A0_3 l0_3.length c0_3] 25 ?_;intro gb119 hg w5 hbox hb;have n0_:=aa.mk (ah ak hb);have n1_:=aa.mk (hbox);have n2_:=aa.mk ((by rw[hg];exact(ai ak):w.heap.size≤gb119));have n3_:=aa.mk ((by rw[hg];exact(ai ak):w.heap.size≤gb119));clear HB;have HB:=n0_;have BK119:=n1_;have GW119:=n2_;have GE119:=n3_;clear n0_ n1_ n2_ n3_;clear hb hbox hg;have hcz6_0:=bt BK119.out 0 rfl;have hcz6_1:=bt BK119.out 1 rfl;have hcz6_2:=bt BK119.out 2 rfl;have hcz6_3:=bt BK119.out 3 rfl;have hfz6_0:=ab BK119.out 0;have hfz6_1:=ab BK119.out 1;have hfz6_2:=ab BK119.out 2;have hfz6_3:=ab BK119.out 3)|(refine fh 11 Tryz.func49 #[.agg #[.int .i64 a0_0, .int .i64 a0_1, .int .u64 a0_2, .slice A0_3 l0_3.length c0_3]] rfl ?_;(with_reducible refine(aq.calls k a0_0 a0_1 a0_2 _ _ l0_3 t120 t121 t122 _ ?side1 ?side2 A2.out).mono ?_);(case side1=>exact cw (Kd.bu HR0_3.out HB.out));(case side2=>exact HC0_3.out);rintro e w7 ⟨rfl,hb⟩;refine⟨_,rfl,?_⟩;have n0_:=aa.mk (aU BK119.out hb);have n1_:=aa.mk (ah ak hb);clear BK119;clear HB;have BK119:=n0_;have HB:=n1_;clear n0_ n1_;have hcz8_0:=bt BK119.out 0 rfl;have hcz8_1:=bt BK119.out 1 rfl;have hcz8_2:=bt BK119.out 2 rfl;have hcz8_3:=bt BK119.out 3 rfl;have hfz8_0:=ab BK119.out 0;have hfz8_1:=ab BK119.out 1;have hfz8_2:=ab BK119.out 2;have hfz8_3:=ab BK119.out 3)|(refine fh 35 Tryz.func48 #[.int .u64 a0_2] rfl ?_;(with_reducible refine(fm.calls k a0_2 t123 t124 _ A4.out).mono ?_);rintro e w9 ⟨v125,rfl,ho0,hb⟩;refine⟨_,rfl,?_⟩;have n0_:=aa.mk (Kd.bN ho0 (ai ak));have n1_:=aa.mk (aU BK119.out hb);have n2_:=aa.mk (ah ak hb);clear BK119;clear HB;have HO126:=n0_;have BK119:=n1_;have HB:=n2_;clear n0_ n1_ n2_;(try clear ho0)))
  go_ret3
  exact⟨_,a8,bK HO126.out,ak⟩
 ·rw[if_neg c3] at H
  have c3b0:=beq_eq_false_iff_ne.mpr c3
  have c3b1:=bne_iff_ne.mpr c3
  by_cases ek:a0_0=1
  ·rw[if_pos ek] at H
   have c10b0:=beq_iff_eq.mpr ek
   have c10b1:=bne_eq_false_iff_eq.mpr ek
   clear ek
   replace H:=Option.bind_eq_some_iff.mp H
   obtain⟨⟨t127,t128⟩,A110,H⟩:=H
   (try dsimp only at H)
   have A11:=aa.mk A110
   clear A110
   simp only[Option.some.injEq,Prod.mk.injEq] at H
   obtain⟨rfl,rfl,rfl⟩:=H
   go_enter Tryz.func44,Tryz.ntmps44
   go_wp2_with (first|((with_reducible refine bk (N:=1) rfl ?_);refine jg 1 #[.int .i64 a0_0, .int .i64 a0_1, .int .u64 a0_2, .slice A0_3 l0_3.length c0_3] 25 ?_;intro gb119 hg w12 hbox hb;have n0_:=aa.mk (ah ak hb);have n1_:=aa.mk (hbox);have n2_:=aa.mk ((by rw[hg];exact(ai ak):w.heap.size≤gb119));have n3_:=aa.mk ((by rw[hg];exact(ai ak):w.heap.size≤gb119));clear HB;have HB:=n0_;have BK119:=n1_;have GW119:=n2_;have GE119:=n3_;clear n0_ n1_ n2_ n3_;clear hb hbox hg;have hcz13_0:=bt BK119.out 0 rfl;have hcz13_1:=bt BK119.out 1 rfl;have hcz13_2:=bt BK119.out 2 rfl;have hcz13_3:=bt BK119.out 3 rfl;have hfz13_0:=ab BK119.out 0;have hfz13_1:=ab BK119.out 1;have hfz13_2:=ab BK119.out 2;have hfz13_3:=ab BK119.out 3)|(refine fh 11 Tryz.func49 #[.agg #[.int .i64 a0_0, .int .i64 a0_1, .int .u64 a0_2, .slice A0_3 l0_3.length c0_3]] rfl ?_;(with_reducible refine(aq.calls k a0_0 a0_1 a0_2 _ _ l0_3 t120 t121 t122 _ ?side1 ?side2 A2.out).mono ?_);(case side1=>exact cw (Kd.bu HR0_3.out HB.out));(case side2=>exact HC0_3.out);rintro e w14 ⟨rfl,hb⟩;refine⟨_,rfl,?_⟩;have n0_:=aa.mk (aU BK119.out hb);have n1_:=aa.mk (ah ak hb);clear BK119;clear HB;have BK119:=n0_;have HB:=n1_;clear n0_ n1_;have hcz15_0:=bt BK119.out 0 rfl;have hcz15_1:=bt BK119.out 1 rfl;have hcz15_2:=bt BK119.out 2 rfl;have hcz15_3:=bt BK119.out 3 rfl;have hfz15_0:=ab BK119.out 0;have hfz15_1:=ab BK119.out 1;have hfz15_2:=ab BK119.out 2;have hfz15_3:=ab BK119.out 3)|(refine fh 43 Tryz.func50 #[.int .i64 a0_1] rfl ?_;(with_reducible refine(dT.calls k a0_1 t127 t128 _ A11.out).mono ?_);rintro e w16 ⟨v129,rfl,ho0,hb⟩;refine⟨_,rfl,?_⟩;have n0_:=aa.mk (Kd.bN ho0 (ai ak));have n1_:=aa.mk (aU BK119.out hb);have n2_:=aa.mk (ah ak hb);clear BK119;clear HB;have HO130:=n0_;have BK119:=n1_;have HB:=n2_;clear n0_ n1_ n2_;(try clear ho0)))
   go_ret3
   exact⟨_,a8,bK HO130.out,ak⟩
  ·rw[if_neg ek] at H
   have c10b0:=beq_eq_false_iff_ne.mpr ek
   have c10b1:=bne_iff_ne.mpr ek
   by_cases gC:(l0_3.length:Int)≤40
   ·rw[if_pos gC] at H
    have c17b0:=decide_eq_true gC
    have c17b1:decide (l0_3.length≤40)=true:=decide_eq_true (by omega)
    clear gC
    replace H:=Option.bind_eq_some_iff.mp H
    obtain⟨t131,A180,H⟩:=H
    (try dsimp only at H)
    have A18:=aa.mk A180
    clear A180
    replace H:=Option.bind_eq_some_iff.mp H
    obtain⟨⟨t134,t135⟩,A190,H⟩:=H
    (try dsimp only at H)
    have A19:=aa.mk A190
    clear A190
    simp only[Option.some.injEq,Prod.mk.injEq] at H
    obtain⟨rfl,rfl,rfl⟩:=H
    go_enter Tryz.func44,Tryz.ntmps44
    try go_wp2_with (first|((with_reducible refine bk (N:=1) rfl ?_);refine jg 1 #[.int .i64 a0_0, .int .i64 a0_1, .int .u64 a0_2, .slice A0_3 l0_3.length c0_3] 25 ?_;intro gb119 hg w20 hbox hb;have n0_:=aa.mk (ah ak hb);have n1_:=aa.mk (hbox);have n2_:=aa.mk ((by rw[hg];exact(ai ak):w.heap.size≤gb119));have n3_:=aa.mk ((by rw[hg];exact(ai ak):w.heap.size≤gb119));clear HB;have HB:=n0_;have BK119:=n1_;have GW119:=n2_;have GE119:=n3_;clear n0_ n1_ n2_ n3_;clear hb hbox hg;have hcz21_0:=bt BK119.out 0 rfl;have hcz21_1:=bt BK119.out 1 rfl;have hcz21_2:=bt BK119.out 2 rfl;have hcz21_3:=bt BK119.out 3 rfl;have hfz21_0:=ab BK119.out 0;have hfz21_1:=ab BK119.out 1;have hfz21_2:=ab BK119.out 2;have hfz21_3:=ab BK119.out 3)|(refine fh 11 Tryz.func49 #[.agg #[.int .i64 a0_0, .int .i64 a0_1, .int .u64 a0_2, .slice A0_3 l0_3.length c0_3]] rfl ?_;(with_reducible refine(aq.calls k a0_0 a0_1 a0_2 _ _ l0_3 t120 t121 t122 _ ?side1 ?side2 A2.out).mono ?_);(case side1=>exact cw (Kd.bu HR0_3.out HB.out));(case side2=>exact HC0_3.out);rintro e w22 ⟨rfl,hb⟩;refine⟨_,rfl,?_⟩;have n0_:=aa.mk (aU BK119.out hb);have n1_:=aa.mk (ah ak hb);clear BK119;clear HB;have BK119:=n0_;have HB:=n1_;clear n0_ n1_;have hcz23_0:=bt BK119.out 0 rfl;have hcz23_1:=bt BK119.out 1 rfl;have hcz23_2:=bt BK119.out 2 rfl;have hcz23_3:=bt BK119.out 3 rfl;have hfz23_0:=ab BK119.out 0;have hfz23_1:=ab BK119.out 1;have hfz23_2:=ab BK119.out 2;have hfz23_3:=ab BK119.out 3))
    have n0_:=aa.mk (bG BK119.out)
    have n1_:=aa.mk (bs HB.out)
    clear BK119
    clear HB
    have BK119:=n0_
    have HB:=n1_
    clear n0_ n1_
    refine fF (n:=10) (S:=fun w'=>w'.cell? ⟨gb119,0,none⟩=some (.int .i64 a0_0)∧w'.cell? ⟨gb119,1,none⟩=some (.int .i64 a0_1)∧w'.cell? ⟨gb119,2,none⟩=some (.int .u64 a0_2)∧w'.cell? ⟨gb119,3,none⟩=some (.slice A0_3 l0_3.length c0_3)) (ds:=[]) #[false,false,false,false,false,false,false,false,false,false] (by kernel_rfl) rfl rfl ⟨(aj BK119.out 0).trans rfl,(aj BK119.out 1).trans rfl,(aj BK119.out 2).trans rfl,(aj BK119.out 3).trans rfl⟩ (fun hHeld=>?_);refine dV bB.yV bB.wM (fun HT_ HW_=>?_)
    generalize w22.drew=w24 at BK119 HB hHeld ⊢
    refine dd 0 22 HT_ rfl rfl ?_
    refine dd 3 25 HT_ rfl rfl ?_
    refine jk 1 23 (ch HT_.out HW_.out (by kernel_rfl)) hHeld (by rintro w' ⟨s0,s1,s2,s3⟩;go_simp;with_reducible rfl) rfl rfl ?_
    refine jk 4 26 (ch HT_.out HW_.out (by kernel_rfl)) hHeld (by rintro w' ⟨s0,s1,s2,s3⟩;go_simp;with_reducible rfl) rfl rfl ?_
    refine jz (i:=2) (N:=some 24) #[true,true,true,true,true,false,false,false,false,false] rfl rfl (eT HT_.out (by kernel_rfl)) (by decide) (fun K hK=>?_)
    refine gB Tryz.func85 (by kernel_rfl) rfl #[.slice A0_3 l0_3.length c0_3] (by rfl) rfl rfl za ?_
    with_reducible refine(aG.calls k _ _ l0_3 t131 _ ?side1 ?side2 A18.out).mono ?_
    (case side1=>exact cw (Kd.bu HR0_3.out HB.out))
    (case side2=>exact HC0_3.out)
    rintro e w25 ⟨v132,rfl,ho0,hb⟩
    refine⟨_,rfl,?_⟩
    have n0_:=aa.mk (Kd.kT ho0 (ai ak))
    have n1_:=aa.mk (aU BK119.out hb)
    have n2_:=aa.mk (ah ak hb)
    clear BK119
    clear HB
    have HO133:=n0_
    have BK119:=n1_
    have HB:=n2_
    clear n0_ n1_ n2_
    (try clear hb)
    (try clear hb2)
    (try clear hk)
    (try clear hi)
    (try clear ho0)
    obtain⟨Ao26,co26,eo26⟩:=Kd.oQ HO133.out
    (first|subst eo26|(injection eo26 with f1_ f2_ f3_;have f4_:=f1_.symm;have f5_:=f3_.symm;clear f1_ f2_ f3_;subst f4_;subst f5_))
    refine hK.out _ _ ⟨(aj BK119.out 0).trans rfl,(aj BK119.out 1).trans rfl,(aj BK119.out 2).trans rfl,(aj BK119.out 3).trans rfl⟩ (fun hHeld=>?_)
    clear hK K
    refine qK ?_
    refine jz (i:=5) (N:=some 27) #[true,true,true,true,true,true,false,false,false,false] rfl rfl (eT HT_.out (by kernel_rfl)) (by decide) (fun K hK=>?_)
    refine gB Tryz.func51 (by kernel_rfl) rfl #[.slice Ao26 t131.length co26, .int .u64 a0_2] (by rfl) rfl rfl za ?_
    with_reducible refine(ew.calls k _ _ t131 a0_2 t134 t135 _ ?side1 ?side2 A19.out).mono ?_
    (case side1=>repeat(first|exact(Kd.iS HO133.out).2.2|(with_reducible refine Kd.dB ?_ _)|(with_reducible refine Kd.dQ ?_ _)|(with_reducible refine Kd.eX ?_)))
    (case side2=>exact(Kd.iS HO133.out).2.1)
    rintro e w27 ⟨v136,rfl,ho0,hb⟩
    refine⟨_,rfl,?_⟩
    have n0_:=aa.mk (Kd.ir (by(with_reducible repeat(first|apply Kd.gh|apply Kd.gg|apply Kd.ib));exact HO133.out) hb)
    have n1_:=aa.mk (Kd.bN ho0 (ai ak))
    have n2_:=aa.mk (aU BK119.out hb)
    have n3_:=aa.mk (ah ak hb)
    clear HO133
    clear BK119
    clear HB
    have HO133:=n0_
    have HO137:=n1_
    have BK119:=n2_
    have HB:=n3_
    clear n0_ n1_ n2_ n3_
    (try clear hb)
    (try clear hb2)
    (try clear hk)
    (try clear hi)
    (try clear ho0)
    refine hK.out _ _ ⟨(aj BK119.out 0).trans rfl,(aj BK119.out 1).trans rfl,(aj BK119.out 2).trans rfl,(aj BK119.out 3).trans rfl⟩ (fun hHeld=>?_)
    clear hK K
    refine qK ?_
    refine dd 6 21 HT_ rfl rfl ?_
    refine dd 7 28 HT_ rfl rfl ?_
    refine dd 8 29 HT_ rfl rfl ?_
    refine dd 9 8 HT_ rfl rfl ?_
    refine gQ (fA HT_.out (by kernel_rfl)) ?_
    try go_wp2
    go_ret3
    exact⟨_,a8,bK HO137.out,ak⟩
   ·rw[if_neg gC] at H
    have c17b0:=decide_eq_false gC
    have c17b1:decide (l0_3.length≤40)=false:=decide_eq_false (by omega)
    clear gC
    simp only[Option.some.injEq,Prod.mk.injEq] at H
    obtain⟨rfl,rfl,rfl⟩:=H
    go_enter Tryz.func44,Tryz.ntmps44
    go_wp2_with (first|((with_reducible refine bk (N:=1) rfl ?_);refine jg 1 #[.int .i64 a0_0, .int .i64 a0_1, .int .u64 a0_2, .slice A0_3 l0_3.length c0_3] 25 ?_;intro gb119 hg w28 hbox hb;have n0_:=aa.mk (ah ak hb);have n1_:=aa.mk (hbox);have n2_:=aa.mk ((by rw[hg];exact(ai ak):w.heap.size≤gb119));have n3_:=aa.mk ((by rw[hg];exact(ai ak):w.heap.size≤gb119));clear HB;have HB:=n0_;have BK119:=n1_;have GW119:=n2_;have GE119:=n3_;clear n0_ n1_ n2_ n3_;clear hb hbox hg;have hcz29_0:=bt BK119.out 0 rfl;have hcz29_1:=bt BK119.out 1 rfl;have hcz29_2:=bt BK119.out 2 rfl;have hcz29_3:=bt BK119.out 3 rfl;have hfz29_0:=ab BK119.out 0;have hfz29_1:=ab BK119.out 1;have hfz29_2:=ab BK119.out 2;have hfz29_3:=ab BK119.out 3)|(refine fh 11 Tryz.func49 #[.agg #[.int .i64 a0_0, .int .i64 a0_1, .int .u64 a0_2, .slice A0_3 l0_3.length c0_3]] rfl ?_;(with_reducible refine(aq.calls k a0_0 a0_1 a0_2 _ _ l0_3 t120 t121 t122 _ ?side1 ?side2 A2.out).mono ?_);(case side1=>exact cw (Kd.bu HR0_3.out HB.out));(case side2=>exact HC0_3.out);rintro e w30 ⟨rfl,hb⟩;refine⟨_,rfl,?_⟩;have n0_:=aa.mk (aU BK119.out hb);have n1_:=aa.mk (ah ak hb);clear BK119;clear HB;have BK119:=n0_;have HB:=n1_;clear n0_ n1_;have hcz31_0:=bt BK119.out 0 rfl;have hcz31_1:=bt BK119.out 1 rfl;have hcz31_2:=bt BK119.out 2 rfl;have hcz31_3:=bt BK119.out 3 rfl;have hfz31_0:=ab BK119.out 0;have hfz31_1:=ab BK119.out 1;have hfz31_2:=ab BK119.out 2;have hfz31_3:=ab BK119.out 3))
    go_ret3
    exact⟨(.slice none 0 0),a8,tO,ak⟩
end Go.Proofs.YtndkmnjbjlfeaaaGreat.XC
end
section
namespace Go.Proofs.YtndkmnjbjlfeaaaGreat.XC
open Go Go.RowKit Go.Proofs.YtndkmnjbjlfeaaaGreatW.PrintWords Go.Proofs.YtndkmnjbjlfeaaaGreatW.PrintLast Go.Proofs.YtndkmnjbjlfeaaaGreatW.PrintMore Go.Proofs.YtndkmnjbjlfeaaaGreat.Given Go.Proofs.YtndkmnjbjlfeaaaGreat.M Go.Proofs.YtndkmnjbjlfeaaaGreat.Mont Go.Proofs.YtndkmnjbjlfeaaaGreat.XS Go.Proofs.YtndkmnjbjlfeaaaGreat.XT Go.Proofs.YtndkmnjbjlfeaaaGreat.XR Go.Proofs.YtndkmnjbjlfeaaaGreat.F06 Go.Proofs.YtndkmnjbjlfeaaaGreat.XM
set_option linter.unusedVariables false
mutual
noncomputable def aZ.l0:Nat→Int→Int→Int→List Int→Int→Option (List Int)
 |0,_,_,_,_,_=>none
 |k+1,a,b,n,x6,x25=>if x25<a then aZ.l1 k a b n x6 x25 0 else some x6
noncomputable def aZ.l1:Nat→Int→Int→Int→List Int→Int→Int→Option (List Int)
 |0,_,_,_,_,_,_=>none
 |k+1,a,b,n,x6,x25,x29=>if x29<b then(if n=0 then none else if x6.length<17592186044416 then aZ.l1 k a b n (x6++[Int.tmod (wrap64 (wrap64 (b*x25)+wrap64 (a*x29))) n]) x25 (wrap64 (x29+1)) else none) else aZ.l0 k a b n x6 (wrap64 (x25+1))
end
noncomputable def aZ.f(k:Nat)(a b:Int):Option (List Int):=(cV.f a b).bind fun s=>if s=true then((bo.f k (wrap64 (a*b)) a).bind fun t=>if t=true then(if 0≤wrap64 (a*b)∧wrap64 (a*b)≤1024 then aZ.l0 k a b (wrap64 (a*b)) [] 0 else none) else some []) else some []
theorem aZ.fk: ∀k,(∀y0 y1 y2 y3 y4,cW (aZ.l0 k y0 y1 y2 y3 y4) (aZ.l0 (k+1) y0 y1 y2 y3 y4))∧(∀y0 y1 y2 y3 y4 y5,cW (aZ.l1 k y0 y1 y2 y3 y4 y5) (aZ.l1 (k+1) y0 y1 y2 y3 y4 y5))
 |0=>⟨fun _ _ _ _ _ r h=>by simp[aZ.l0] at h,fun _ _ _ _ _ _ r h=>by simp[aZ.l1] at h⟩
 |k+1=>by
  obtain⟨ih0,ih1⟩:=aZ.fk k
  refine⟨?_,?_⟩
  ·intro y0 y1 y2 y3 y4
   unfold aZ.l0
   exact cW.ite (ih1 _ _ _ _ _ _) (cW.refl _)
  ·intro y0 y1 y2 y3 y4 y5
   unfold aZ.l1
   exact cW.ite (cW.ite (cW.refl _) (cW.ite (ih1 _ _ _ _ _ _) (cW.refl _))) (ih0 _ _ _ _ _)
theorem aZ.mono: ∀a0 a1 k,cW (aZ.f k a0 a1) (aZ.f (k+1) a0 a1):=by
 intro a0 a1 k
 unfold aZ.f
 exact cW.bind (cW.refl _) fun _=>cW.ite (cW.bind (bo.mono _ _ _) fun _=>cW.ite (cW.ite ((aZ.fk k).1 _ _ _ _ _) (cW.refl _)) (cW.refl _)) (cW.refl _)
set_option maxHeartbeats 8000000 in
set_option maxRecDepth 100000 in
theorem aZ.calls(k:Nat)(a0:Int)(a1:Int)(r:List Int)(w:World)(h:aZ.f k a0 a1=some r):
  Calls Tryz.prog 82 #[.int .i64 a0, .int .i64 a1] w fun e w'=> ∃v0_:Value,e= .returned (v0_)∧Kd.R (Kd.int .i64) 3 w' w.heap.size (fun _=>True) v0_ r∧Below w.heap.size w w':=by
 have HB:=aa.mk (Below.refl w.heap.size w)
 unfold aZ.f at h
 obtain⟨s,hs,h⟩:=Option.bind_eq_some_iff.mp h
 have HS:=aa.mk hs
 clear hs
 obtain⟨n9,hn9⟩: ∃z_:Int,wrap64 (a0*a1)=z_:=⟨_,rfl⟩
 have hn9v:IntKind.i64.wrap (a0*a1)=n9:=by simp only[bp];exact hn9
 rw[hn9] at h
 cases s with
 |false=>
  rw[if_neg Bool.false_ne_true] at h
  obtain rfl:=Option.some.inj h
  clear h
  go_enter Tryz.func82,Tryz.ntmps82
  go_wp2_with (first|(go_at_call 113;(with_reducible refine(cV.calls a0 a1 false _ HS.out).mono ?_);rintro e w' ⟨rfl,⟨nd,rfl⟩⟩))
  go_ret
  exact⟨_,rfl,Kd.fW _ _ _ _ _,by repeat(first|exact HB.out|apply ay|apply bs)⟩
 |true=>
  rw[if_pos rfl] at h
  obtain⟨t,ht,h⟩:=Option.bind_eq_some_iff.mp h
  have HT:=aa.mk ht
  clear ht
  cases t with
  |false=>
   rw[if_neg Bool.false_ne_true] at h
   obtain rfl:=Option.some.inj h
   clear h
   go_enter Tryz.func82,Tryz.ntmps82
   go_wp2_with (first
    |(go_at_call 113;(with_reducible refine(cV.calls a0 a1 true _ HS.out).mono ?_);rintro e w' ⟨rfl,⟨nd,rfl⟩⟩)
    |(go_at_call 84;(with_reducible refine(bo.calls k n9 a0 false _ HT.out).mono ?_);rintro e w' ⟨rfl,⟨nd2,rfl⟩⟩))
   go_ret
   exact⟨_,rfl,Kd.fW _ _ _ _ _,by repeat(first|exact HB.out|apply ay|apply bs)⟩
  |true=>
   rw[if_pos rfl] at h
   by_cases c:0≤n9∧n9≤1024
   ·rw[if_pos c] at h
    have H':=aa.mk h
    have HC:=aa.mk c
    clear h c
    obtain⟨i3,e1,e2,e3,e4⟩:=info_parts pj
    have HI:=aa.mk (And.intro e1 (And.intro e2 (And.intro e3 e4)))
    clear e1 e2 e3 e4
    go_enter Tryz.func82,Tryz.ntmps82
    go_wp2_with (first
     |(go_at_call 113;(with_reducible refine(cV.calls a0 a1 true _ HS.out).mono ?_);rintro e w' ⟨rfl,⟨nd,rfl⟩⟩)
     |(go_at_call 84;(with_reducible refine(bo.calls k n9 a0 true _ HT.out).mono ?_);rintro e w' ⟨rfl,⟨nd2,rfl⟩⟩)
     |((with_reducible refine bk (N:=23) rfl ?_);refine wpList_make_own _ rfl (.const (.int .i64 0)) (.tmp 22) 98 rfl w.heap.size 3 i3 (.int .i64 0) 1 Tryz.underlying98 HI.out.1 HI.out.2.1 HI.out.2.2.1 .i64 .i64 n9 n9.toNat rfl rfl (by have:=HC.out;omega) (by rw[HI.out.2.2.2];have:=HC.out;omega) (by have:=HC.out;unfold Go.maxLen;omega) (Nat.le_refl _) ?_;intro w7 hown hg;have n0_:aa (Below w.heap.size w w7):=⟨(by repeat(first|exact HB.out|apply ay|apply bs):Below w.heap.size w _).grown hg (Nat.le_refl _) (fun k hk=>by cases hk)⟩;have n1_:aa (Kd.R (Kd.int .i64) 3 w7 w.heap.size (fun _=>True) (.slice (some ⟨_,0,none⟩) 0 n9.toNat) []):=⟨⟨fun _ _=>trivial,[],hown,cI.none _ _⟩⟩;clear HB;have HB:=n0_;have HO:=n1_;clear n0_ n1_ hown hg))
    clear HI
    go_loopg [6,25] k (fun kq v6 v25 w'=> ∃(x6:List Int) (x25:Int),v25= .int .i64 x25∧aa (aZ.l0 kq a0 a1 n9 x6 x25=some r)∧aa (kq≤k)∧aa (Kd.R (Kd.int .i64) 3 w' w.heap.size (fun _=>True) v6 x6)∧aa (Below w.heap.size w w'))
    case atStart=>exact⟨[],0,rfl,H',⟨Nat.le_refl _⟩,HO,HB⟩
    case round=>
     clear H' HO HB
     obtain⟨x6,x25,rfl,HA,HK1,HO,HB⟩:=hrel
     cases gk with
     |zero=>exact absurd HA.out (by simp[aZ.l0])
     |succ k1=>
      have H:=HA.out
      clear HA
      simp only[aZ.l0] at H
      by_cases c1:x25<a0
      ·rw[if_pos c1] at H
       have c1b:decide (x25<a0)=true:=decide_eq_true c1
       have H':=aa.mk H
       clear H c1
       go_wp2
       go_loopg [6,29] k1 (fun kq v6 v29 w'=> ∃(x6:List Int) (x29:Int),v29= .int .i64 x29∧aa (aZ.l1 kq a0 a1 n9 x6 x25 x29=some r)∧aa (kq≤k1)∧aa (Kd.R (Kd.int .i64) 3 w' w.heap.size (fun _=>True) v6 x6)∧aa (Below w.heap.size w w'))
       case atStart=>exact⟨x6,0,rfl,H',⟨Nat.le_refl _⟩,HO,HB⟩
       case round=>
        clear H' HO HB c1b
        obtain⟨x6,x29,rfl,HA,HK2,HO,HB⟩:=hrel
        cases gk with
        |zero=>exact absurd HA.out (by simp[aZ.l1])
        |succ k2=>
         have H:=HA.out
         clear HA
         simp only[aZ.l1] at H
         by_cases c2:x29<a1
         ·rw[if_pos c2] at H
          have c2b:decide (x29<a1)=true:=decide_eq_true c2
          clear c2
          by_cases c3:n9=0
          ·rw[if_pos c3] at H
           cases H
          rw[if_neg c3] at H
          have c3b:(n9==0)=false:=beq_eq_false_iff_ne.mpr c3
          by_cases c4:x6.length<17592186044416
          ·rw[if_pos c4] at H
           have HL:=aa.mk c4
           obtain⟨u9,hu9⟩: ∃z_:Int,wrap64 (a1*x25)=z_:=⟨_,rfl⟩
           have hu9v:IntKind.i64.wrap (a1*x25)=u9:=by simp only[bp];exact hu9
           obtain⟨v9,hv9⟩: ∃z_:Int,wrap64 (a0*x29)=z_:=⟨_,rfl⟩
           have hv9v:IntKind.i64.wrap (a0*x29)=v9:=by simp only[bp];exact hv9
           obtain⟨s9,hs9⟩: ∃z_:Int,wrap64 (u9+v9)=z_:=⟨_,rfl⟩
           have hs9v:IntKind.i64.wrap (u9+v9)=s9:=by simp only[bp];exact hs9
           rw[hu9,hv9,hs9] at H
           have H':=aa.mk H
           clear H c4
           go_wp2_with (first|((with_reducible refine eO (b:= .append) (xs:= #[.tmp 32, .tmp 42]) rfl ?_);at_builtin;refine Kd.jH (Kd.int .i64) (w0:=w) w.heap.size rfl (.tmp 32) (.tmp 42) 98 3 (.int .i64 0) 8 rfl Tryz.underlying98 pj rfl (by decide) (by omega) u6 x6 (Int.tmod s9 n9) [.int .i64 (Int.tmod s9 n9)] (fun _=>True) (fun _=>False) rfl rfl ?aP (fun _ hk=>hk.elim) ?aF ?aO ?aB ?aS ?aL ?_;(case aP=>exact rfl);(case aB=>exact HB.out);(case aF=>exact(fun _ _=>trivial));(case aO=>exact HO.out);(case aS=>exact ai HB.out);(case aL=>have:=HL.out;omega);intro v211 w13 ho hb hg hat;have n0_:=aa.mk (hb);have n1_:=aa.mk (ho);clear HB;clear HO;have HB:=n0_;have HO:=n1_;clear n0_ n1_;clear ho hb hg hat))
           go_roundg k2
           case measure=>have:=HK1.out;have:=HK2.out;omega
           case rel=>exact⟨(x6++[Int.tmod s9 n9]),(wrap64 (x29+1)),(by first|rfl|(simp;done)|(simp[*];done)),H',⟨by have:=HK2.out;omega⟩,HO,HB⟩
          ·rw[if_neg c4] at H
           cases H
         ·rw[if_neg c2] at H
          have c2b:decide (x29<a1)=false:=decide_eq_false c2
          have H':=aa.mk H
          clear H c2
          go_wp2
          go_roundg k2
          case measure=>have:=HK1.out;have:=HK2.out;omega
          case rel=>exact⟨x6,(wrap64 (x25+1)),(by first|rfl|(simp;done)|(simp[*];done)),H',⟨by have:=HK1.out;have:=HK2.out;omega⟩,HO,HB⟩
      ·rw[if_neg c1] at H
       have c1b:decide (x25<a0)=false:=decide_eq_false c1
       obtain rfl:=Option.some.inj H
       clear H c1
       go_wp2
       go_ret
       exact⟨_,rfl,HO.out,HB.out⟩
   ·rw[if_neg c] at h
    cases h
end Go.Proofs.YtndkmnjbjlfeaaaGreat.XC
end
section
namespace Go.Proofs.YtndkmnjbjlfeaaaGreat.XM
open Go.RowKit Go.Proofs.YtndkmnjbjlfeaaaGreat.Given Go.Proofs.YtndkmnjbjlfeaaaGreat.Row05 Go.Proofs.YtndkmnjbjlfeaaaGreat.XS Go.Proofs.YtndkmnjbjlfeaaaGreat.XT Go.Proofs.YtndkmnjbjlfeaaaGreat.XR Go.Proofs.YtndkmnjbjlfeaaaGreat.F06 Go.Proofs.YtndkmnjbjlfeaaaGreat.XK Go.Proofs.YtndkmnjbjlfeaaaGreat.XW Go.Proofs.YtndkmnjbjlfeaaaGreat.XG Go.Proofs.YtndkmnjbjlfeaaaGreatW.PrintWords Go.Proofs.YtndkmnjbjlfeaaaGreatW.PrintLast Go.Proofs.YtndkmnjbjlfeaaaGreatW.PrintMore
attribute [local go_sem] bU bS ct cr bw bz bP bT
set_option linter.unusedVariables false
set_option linter.unusedSimpArgs false
mutual
noncomputable def ao.j0:Nat→Int→List Int→Bool→Option (List Int×Bool)
 |0,_,_,_=>none
 |k+1,x0,x4,x11=>if x11=true then(some (x4,false)) else(ao.l0 k x0 x4)
noncomputable def ao.l0:Nat→Int→List Int→Option (List Int×Bool)
 |0,_,_=>none
 |k+1,x0,x4=>if x0>1 then(ao.l1 k x0 x4 2) else(some (x4,true))
noncomputable def ao.l1:Nat→Int→List Int→Int→Option (List Int×Bool)
 |0,_,_,_=>none
 |k+1,x0,x4,x5=>if x5<8 then(if x5=0 then(none) else(ao.j3 k x0 x4 x5 ((Int.tmod x0 x5) !=0))) else(ao.j3 k x0 x4 x5 false)
noncomputable def ao.j3:Nat→Int→List Int→Int→Bool→Option (List Int×Bool)
 |0,_,_,_,_=>none
 |k+1,x0,x4,x5,x22=>if x22=true then(ao.l1 k x0 x4 (wrap64 (x5+1))) else(if x5=8 then(some (([]:List Int),false)) else(if x4.length<17592186044416 then(if x5=0 then(none) else(ao.l0 k (wrap64 (Int.tdiv x0 x5)) (x4++[x5]))) else(none)))
end
noncomputable def ao.f(k:Nat)(a0:Int):Option (List Int×Bool):=if a0<1 then(ao.j0 k a0 ([]:List Int) true) else(ao.j0 k a0 ([]:List Int) (decide (a0>1024)))
theorem ao.fk: ∀k,(∀y0 y1 y2,cW (ao.j0 k y0 y1 y2) (ao.j0 (k+1) y0 y1 y2))∧(∀y0 y1,cW (ao.l0 k y0 y1) (ao.l0 (k+1) y0 y1))∧(∀y0 y1 y2,cW (ao.l1 k y0 y1 y2) (ao.l1 (k+1) y0 y1 y2))∧(∀y0 y1 y2 y3,cW (ao.j3 k y0 y1 y2 y3) (ao.j3 (k+1) y0 y1 y2 y3))
 |0=>⟨fun _ _ _ r h=>by simp[ao.j0] at h,fun _ _ r h=>by simp[ao.l0] at h,fun _ _ _ r h=>by simp[ao.l1] at h,fun _ _ _ _ r h=>by simp[ao.j3] at h⟩
 |k+1=>by
  obtain⟨ih0,ih1,ih2,ih3⟩:=ao.fk k
  refine⟨?_,?_,?_,?_⟩
  ·intro y0 y1 y2
   unfold ao.j0
   repeat' first
   |(with_reducible exact ih0 _ _ _)
   |(with_reducible exact ih1 _ _)
   |(with_reducible exact ih2 _ _ _)
   |(with_reducible exact ih3 _ _ _ _)
   |(with_reducible exact cW.refl _)
   |(with_reducible exact cW.none _)
   |(with_reducible refine cW.ite ?_ ?_)
   |(with_reducible refine cW.bind ?_ (fun _=>?_))
   |exact ih0 _ _ _
   |exact ih1 _ _
   |exact ih2 _ _ _
   |exact ih3 _ _ _ _
   |exact cW.none _
   |refine cW.ite ?_ ?_
   |refine cW.bind ?_ (fun _=>?_)
  ·intro y0 y1
   unfold ao.l0
   repeat' first
   |(with_reducible exact ih0 _ _ _)
   |(with_reducible exact ih1 _ _)
   |(with_reducible exact ih2 _ _ _)
   |(with_reducible exact ih3 _ _ _ _)
   |(with_reducible exact cW.refl _)
   |(with_reducible exact cW.none _)
   |(with_reducible refine cW.ite ?_ ?_)
   |(with_reducible refine cW.bind ?_ (fun _=>?_))
   |exact ih0 _ _ _
   |exact ih1 _ _
   |exact ih2 _ _ _
   |exact ih3 _ _ _ _
   |exact cW.none _
   |refine cW.ite ?_ ?_
   |refine cW.bind ?_ (fun _=>?_)
  ·intro y0 y1 y2
   unfold ao.l1
   repeat' first
   |(with_reducible exact ih0 _ _ _)
   |(with_reducible exact ih1 _ _)
   |(with_reducible exact ih2 _ _ _)
   |(with_reducible exact ih3 _ _ _ _)
   |(with_reducible exact cW.refl _)
   |(with_reducible exact cW.none _)
   |(with_reducible refine cW.ite ?_ ?_)
   |(with_reducible refine cW.bind ?_ (fun _=>?_))
   |exact ih0 _ _ _
   |exact ih1 _ _
   |exact ih2 _ _ _
   |exact ih3 _ _ _ _
   |exact cW.none _
   |refine cW.ite ?_ ?_
   |refine cW.bind ?_ (fun _=>?_)
  ·intro y0 y1 y2 y3
   unfold ao.j3
   repeat' first
   |(with_reducible exact ih0 _ _ _)
   |(with_reducible exact ih1 _ _)
   |(with_reducible exact ih2 _ _ _)
   |(with_reducible exact ih3 _ _ _ _)
   |(with_reducible exact cW.refl _)
   |(with_reducible exact cW.none _)
   |(with_reducible refine cW.ite ?_ ?_)
   |(with_reducible refine cW.bind ?_ (fun _=>?_))
   |exact ih0 _ _ _
   |exact ih1 _ _
   |exact ih2 _ _ _
   |exact ih3 _ _ _ _
   |exact cW.none _
   |refine cW.ite ?_ ?_
   |refine cW.bind ?_ (fun _=>?_)
theorem ao.mono: ∀a0 k,cW (ao.f k a0) (ao.f (k+1) a0):=by
 intro a0 k
 obtain⟨ih0,ih1,ih2,ih3⟩:=ao.fk k
 unfold ao.f
 repeat' first
   |(with_reducible exact ih0 _ _ _)
   |(with_reducible exact ih1 _ _)
   |(with_reducible exact ih2 _ _ _)
   |(with_reducible exact ih3 _ _ _ _)
   |(with_reducible exact cW.refl _)
   |(with_reducible exact cW.none _)
   |(with_reducible refine cW.ite ?_ ?_)
   |(with_reducible refine cW.bind ?_ (fun _=>?_))
   |exact ih0 _ _ _
   |exact ih1 _ _
   |exact ih2 _ _ _
   |exact ih3 _ _ _ _
   |exact cW.none _
   |refine cW.ite ?_ ?_
   |refine cW.bind ?_ (fun _=>?_)
end Go.Proofs.YtndkmnjbjlfeaaaGreat.XM
end
