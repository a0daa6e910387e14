/- Parts of this claim's texts, packed by wip/tools/prune.py: what the proof does not reach is left out. -/
import Derived.Test.YtndkmnjbjlfeaaaGreatPCt12
section
namespace Go.Proofs.YtndkmnjbjlfeaaaGreat.D14
open Go Go.RowKit Go.Proofs.YtndkmnjbjlfeaaaGreatW.PrintWords Go.Proofs.YtndkmnjbjlfeaaaGreatW.PrintLast Go.Proofs.YtndkmnjbjlfeaaaGreatW.PrintMore Go.Proofs.YtndkmnjbjlfeaaaGreat.Given Go.Proofs.YtndkmnjbjlfeaaaGreat.M Go.Proofs.YtndkmnjbjlfeaaaGreat.Mont Go.Proofs.YtndkmnjbjlfeaaaGreat.XS Go.Proofs.YtndkmnjbjlfeaaaGreat.XT Go.Proofs.YtndkmnjbjlfeaaaGreat.XR Go.Proofs.YtndkmnjbjlfeaaaGreat.Num Go.Proofs.YtndkmnjbjlfeaaaGreat.XK Go.Proofs.YtndkmnjbjlfeaaaGreat.F06 Go.Proofs.YtndkmnjbjlfeaaaGreat.T10 Go.Proofs.YtndkmnjbjlfeaaaGreat.D11 Go.Proofs.YtndkmnjbjlfeaaaGreat.XW Go.Proofs.YtndkmnjbjlfeaaaGreat.XG Go.Proofs.YtndkmnjbjlfeaaaGreat.XM
set_option linter.unusedVariables false
noncomputable def yF(n:Nat):Bool:=match aI.f 60 (n:Int),ao.f 60 (n:Int) with
 |some a,some b=>a.1==b.1&&a.2==b.2&&(!a.2||(bm (a.1.map Int.toNat)==n&&a.1.all (fun r=>decide (2≤r)&&decide (r≤7))&&decide (a.1.length≤10)&&decide (1≤n)))
 |_,_=>false
theorem xS:(List.range 1025).all yF=true:=by kernel_rfl
def iL(rs:List Nat):List Int:=rs.map fun r:Nat=>(r:Int)
theorem k8(rs:List Nat):(iL rs).length=rs.length:=List.length_map _
theorem vm{rs:List Nat}{i:Nat}(h:i<rs.length):rd (iL rs) (i:Int)=(rs[i]:Int):=by
 rw[gz (by rw[k8];exact h)]
 exact List.getElem_map _
structure qF (rs:List Nat) (n:Nat):Prop where
 prod:bm rs=n
 two: ∀r∈rs,2≤r∧r≤7
 xK:rs.length≤10
 pos:1≤n
 top:n≤1024
theorem mX: ∀l:List Int,(∀r∈l,2≤r)→l=iL (l.map Int.toNat)
 |[],_=>rfl
 |x::l,h=>by
  have h1:=h x List.mem_cons_self
  have h2:=mX l fun r hr=>h r (List.mem_cons_of_mem _ hr)
  show x::l=((x.toNat:Nat):Int)::iL (l.map Int.toNat)
  rw[←h2,Int.toNat_of_nonneg (by omega)]
theorem xA{n:Nat}(hn:n≤1024): ∃l b,aI.f 60 (n:Int)=some (l,b)∧ao.f 60 (n:Int)=some (l,b)∧(b=true→ ∃rs,l=iL rs∧qF rs n):=by
 have h:=List.all_eq_true.1 xS n (List.mem_range.2 (by omega))
 unfold yF at h
 split at h
 ·rename_i a b ea eb
  obtain⟨a1,a2⟩:=a
  obtain⟨b1,b2⟩:=b
  simp only[Bool.and_eq_true,beq_iff_eq] at h
  obtain⟨⟨h1,h2⟩,h3⟩:=h
  subst h1
  subst h2
  refine⟨a1,a2,ea,eb,fun hb=>?_⟩
  subst hb
  simp only[Bool.not_true,Bool.false_or,Bool.and_eq_true,beq_iff_eq,decide_eq_true_eq,List.all_eq_true] at h3
  obtain⟨⟨⟨h3,h4⟩,h5⟩,h6⟩:=h3
  refine⟨a1.map Int.toNat,mX a1 fun r hr=>(h4 r hr).1,h3,fun r hr=>?_,by rw[List.length_map];exact h5,h6,hn⟩
  obtain⟨x,hx,rfl⟩:=List.mem_map.1 hr
  have:=h4 x hx
  omega
 ·cases h
theorem yZ(n:Int): ∃l b,Ev (fun k=>aI.f k n) (l,b)∧Ev (fun k=>ao.f k n) (l,b)∧(b=true→ ∃rs m,n=((m:Nat):Int)∧l=iL rs∧qF rs m):=by
 have J: ∀l,Ev (fun k=>ao.j0 k n l true) (l,false):=fun l=>bX ⟨_,fun k=>by simp only[ao.j0];rw[if_pos trivial],Ev.now _⟩
 by_cases h1:n<1
 ·exact⟨[],false,Ev.congr (fun k=>rfl) (dG h1 (Ev.now _)),Ev.congr (fun k=>rfl) (dG h1 (J _)),fun h=>by cases h⟩
 by_cases h2:n>1024
 ·refine⟨[],false,Ev.congr (fun k=>rfl) (gy h1 (dG h2 (Ev.now _))),Ev.congr (fun k=>rfl) (gy h1 ?_),fun h=>by cases h⟩
  rw[decide_eq_true h2]
  exact J _
 obtain⟨m,rfl⟩: ∃m:Nat,n=m:=⟨n.toNat,by omega⟩
 obtain⟨l,b,ha,hb,h⟩:=xA (n:=m) (by omega)
 exact⟨l,b,Ev.of (g:=fun k=>aI.f k (m:Int)) (fun k=>aI.mono m k) (k:=60) ha,Ev.of (g:=fun k=>ao.f k (m:Int)) (fun k=>ao.mono m k) (k:=60) hb,fun e=>(h e).imp fun rs hr=>⟨m,rfl,hr⟩⟩
theorem jQ: ∀(rs:List Nat),(∀r∈rs,2≤r∧r≤7)→1≤bm rs
 |[],_=>Nat.le_refl _
 |r::rs,h=>by
  have h1:=(h r List.mem_cons_self).1
  have h2:=jQ rs fun x hx=>h x (List.mem_cons_of_mem _ hx)
  exact Nat.mul_pos (show 0<r by omega) h2
theorem fK{x:Nat}(h:x≤1000000000000):wrap64 (x:Int)=(x:Int):=cY _ (by omega) (by omega)
theorem xP{rs:List Nat}(hl:rs.length≤10)(h2: ∀r∈rs,2≤r∧r≤7)(rest:List Nat): ∀(i a:Nat),rs.drop i=rest→i≤rs.length→1≤a→a*bm rest≤1024→
  Ev (fun k=>bR.l0 k (a:Int) false (iL rs) ((iL rs).length:Int) (i:Int)) (((a*bm rest:Nat):Int),0):=by
 have ll:=k8 rs
 induction rest with
 |nil=>
  intro i a hd hi ha hp
  have hlen:rs.length≤i:=List.drop_eq_nil_iff.1 hd
  rw[show a*bm []=a from Nat.mul_one a]
  exact bX ⟨_,fun k=>by simp only[bR.l0];rw[if_neg (by omega),if_neg Bool.false_ne_true],Ev.now _⟩
 |cons r rest ih=>
  intro i a hd hi ha hp
  have hlt:i<rs.length:=by
   refine Nat.lt_of_not_le fun c=>?_
   rw[List.drop_eq_nil_of_le c] at hd
   cases hd
  rw[List.drop_eq_getElem_cons hlt] at hd
  injection hd with hd1 hd2
  have hr:=h2 r (by rw[←hd1];exact List.getElem_mem hlt)
  have ws:wrap64 ((i:Int)+1)=((i+1:Nat):Int):=by clear ih hp;exact cA (by omega)
  have p1:(i:Int)<((iL rs).length:Int):=by clear ih hp;omega
  have p2:(0:Int)≤(i:Int):=Int.natCast_nonneg _
  have p3: ¬(r:Int)<2:=by clear ih hp;omega
  have p4: ¬(a:Int)=0:=by clear ih hp;omega
  have hi1:i+1≤rs.length:=hlt
  have hr0:0<r:=Nat.lt_of_lt_of_le (by decide) hr.1
  have hpos:=jQ rest fun x hx=>h2 x (by rw[←hd2] at hx;exact List.mem_of_mem_drop hx)
  have hrd:=vm hlt
  rw[hd1] at hrd
  have har:a*r*bm rest≤1024:=by rw[Nat.mul_assoc];exact hp
  have har':a*r≤1024:=Nat.le_trans (Nat.le_mul_of_pos_right _ hpos) har
  have ha4:a≤1024:=Nat.le_trans (Nat.le_mul_of_pos_right _ hr0) har'
  have hdiv:r≤4096/a:=(Nat.le_div_iff_mul_le ha).2 (by rw[Nat.mul_comm];exact Nat.le_trans har' (by decide))
  have wd:wrap64 (Int.tdiv (4096:Int) (a:Int))=((4096/a:Nat):Int):=by
   rw[dr (by decide),show(4096:Int)=((4096:Nat):Int) from rfl,←Int.natCast_ediv]
   exact fK (Nat.le_trans (Nat.div_le_self _ _) (by decide))
  have wm:wrap64 ((a:Int)*(r:Int))=((a*r:Nat):Int):=by rw[←Int.natCast_mul];exact fK (Nat.le_trans har' (by decide))
  have p5: ¬(r:Int)>((4096/a:Nat):Int):=by
   intro c
   exact Nat.not_lt.2 hdiv (Int.ofNat_lt.1 c)
  have IH:=ih (i+1) (a*r) hd2 hi1 (Nat.mul_pos ha hr0) har
  rw[show a*bm (r::rest)=a*r*bm rest from(Nat.mul_assoc _ _ _).symm]
  refine bX ⟨_,fun k=>by simp only[bR.l0];rw[if_pos p1,if_pos p2,if_pos p1,hrd,if_neg p3,if_neg Bool.false_ne_true,if_neg p4,wd,decide_eq_false p5],?_⟩
  exact bX ⟨_,fun k=>by simp only[bR.j1];rw[if_neg Bool.false_ne_true,wm,ws],IH⟩
theorem xi{rs:List Nat}{n:Nat}(h:qF rs n):Ev (fun k=>bR.f k (iL rs)) ((n:Int),0):=by
 have ll:=k8 rs
 have hf:=h.xK
 have S:=xP h.xK h.two rs 0 1 rfl (Nat.zero_le _) (Nat.le_refl _) (by rw[Nat.one_mul,h.prod];exact h.top)
 rw[Nat.one_mul,h.prod] at S
 exact Ev.congr (fun k=>rfl) (gy (by omega) S)
theorem yA{rs:List Nat}(hl:rs.length≤10)(h2: ∀r∈rs,2≤r∧r≤7)(rest:List Nat): ∀(i x o:Nat),rs.drop i=rest→i≤rs.length→x≤4096→(o+1)*bm rest≤4096→
  Ev (fun k=>dc.l0 k (x:Int) (o:Int) (iL rs) ((iL rs).length:Int) (i:Int)) ((o*bm rest+eK rest x:Nat):Int):=by
 have ll:=k8 rs
 induction rest with
 |nil=>
  intro i x o hd hi hx ho
  have hlen:rs.length≤i:=List.drop_eq_nil_iff.1 hd
  rw[show o*bm []+eK [] x=o by show o*1+0=o;omega]
  exact bX ⟨_,fun k=>by simp only[dc.l0];rw[if_neg (by omega)],Ev.now _⟩
 |cons r rest ih=>
  intro i x o hd hi hx ho
  have hlt:i<rs.length:=by
   refine Nat.lt_of_not_le fun c=>?_
   rw[List.drop_eq_nil_of_le c] at hd
   cases hd
  rw[List.drop_eq_getElem_cons hlt] at hd
  injection hd with hd1 hd2
  have hr:=h2 r (by rw[←hd1];exact List.getElem_mem hlt)
  have ws:wrap64 ((i:Int)+1)=((i+1:Nat):Int):=by clear ih ho;exact cA (by omega)
  have p1:(i:Int)<((iL rs).length:Int):=by clear ih ho;omega
  have p2:(0:Int)≤(i:Int):=Int.natCast_nonneg _
  have p4: ¬(r:Int)=0:=by clear ih ho;omega
  have hi1:i+1≤rs.length:=hlt
  have hr0:0<r:=Nat.lt_of_lt_of_le (by decide) hr.1
  have hpos:=jQ rest fun x hx=>h2 x (by rw[←hd2] at hx;exact List.mem_of_mem_drop hx)
  have hrd:=vm hlt
  rw[hd1] at hrd
  have hxr:x%r<r:=Nat.mod_lt _ hr0
  have e0:o*r+x%r+1≤(o+1)*r:=by rw[Nat.succ_mul];exact Nat.add_lt_add_left hxr _
  have e1:(o*r+x%r+1)*bm rest≤4096:=by
   refine Nat.le_trans (Nat.mul_le_mul_right _ e0) ?_
   rw[Nat.mul_assoc]
   exact ho
  have e2:o*r+x%r+1≤4096:=Nat.le_trans (Nat.le_mul_of_pos_right _ hpos) e1
  have e3:o*r+x%r≤1000000000000:=Nat.le_trans (Nat.le_succ _) (Nat.le_trans e2 (by decide))
  have e4:o*r≤1000000000000:=Nat.le_trans (Nat.le_add_right _ _) e3
  have w1:wrap64 (Int.tdiv (x:Int) (r:Int))=((x/r:Nat):Int):=by
   rw[dr (Int.natCast_nonneg _),←Int.natCast_ediv]
   exact fK (Nat.le_trans (Nat.div_le_self _ _) (Nat.le_trans hx (by decide)))
  have w2:wrap64 ((o:Int)*(r:Int))=((o*r:Nat):Int):=by rw[←Int.natCast_mul];exact fK e4
  have w3:Int.tmod (x:Int) (r:Int)=((x%r:Nat):Int):=by rw[bH (Int.natCast_nonneg _),Int.natCast_emod]
  have w4:wrap64 (((o*r:Nat):Int)+((x%r:Nat):Int))=((o*r+x%r:Nat):Int):=by rw[←Int.natCast_add];exact fK e3
  have IH:=ih (i+1) (x/r) (o*r+x%r) hd2 hi1 (Nat.le_trans (Nat.div_le_self _ _) hx) e1
  have ev:o*bm (r::rest)+eK (r::rest) x=(o*r+x%r)*bm rest+eK rest (x/r):=by
   show o*(r*bm rest)+((x%r)*bm rest+eK rest (x/r))=_
   rw[Nat.add_mul,Nat.mul_assoc,Nat.add_assoc]
  rw[ev]
  exact bX ⟨_,fun k=>by simp only[dc.l0];rw[if_pos p1,if_pos p2,if_pos p1,hrd,if_neg p4,w1,w2,w3,w4,ws],IH⟩
theorem xb{rs:List Nat}{n:Nat}(h:qF rs n){i:Nat}(hi:i<n):Ev (fun k=>dc.f k (iL rs) (i:Int)) ((eK rs i:Nat):Int):=by
 have ht:=h.top
 have S:=yA h.xK h.two rs 0 i 0 rfl (Nat.zero_le _) (by omega) (by rw[Nat.zero_add,Nat.one_mul,h.prod];omega)
 rw[Nat.zero_mul,Nat.zero_add] at S
 exact Ev.congr (fun k=>rfl) S
theorem ob: ∀(rs:List Nat),(∀r∈rs,2≤r∧r≤7)→ ∀i j,i<bm rs→j<bm rs→eK rs i=eK rs j→i=j
 |[],_,i,j,hi,hj,_=>by
  have h1:i<1:=hi
  have h2:j<1:=hj
  omega
 |r::rs,h,i,j,hi,hj,e=>by
  have hr:=(h r List.mem_cons_self).1
  have hi':i/r<bm rs:=Nat.div_lt_of_lt_mul hi
  have hj':j/r<bm rs:=Nat.div_lt_of_lt_mul hj
  have a1:=kR rs _ hi'
  have a2:=kR rs _ hj'
  have e':(i%r)*bm rs+eK rs (i/r)=(j%r)*bm rs+eK rs (j/r):=e
  have d1:i%r=j%r:=by
   have h1:((i%r)*bm rs+eK rs (i/r))/bm rs=i%r:=by
    rw[Nat.mul_comm,Nat.mul_add_div (by omega),Nat.div_eq_of_lt a1,Nat.add_zero]
   have h2:((j%r)*bm rs+eK rs (j/r))/bm rs=j%r:=by
    rw[Nat.mul_comm,Nat.mul_add_div (by omega),Nat.div_eq_of_lt a2,Nat.add_zero]
   rw[←h1,←h2,e']
  rw[d1] at e'
  have d2:=ob rs (fun x hx=>h x (List.mem_cons_of_mem _ hx)) _ _ hi' hj' (by omega)
  rw[←Nat.div_add_mod i r,←Nat.div_add_mod j r,d1,d2]
theorem mK{rs:List Nat}{n:Nat}(h:qF rs n){l:List Int}(hl:l.length=n)(d:Nat): ∀(i:Nat) (y:List Int),i+d=n→y.length=n→(∀x∈y,x∈l∨x=0)→(∀t:Nat,t<i→rd y ((eK rs t:Nat):Int)=rd l (t:Int))→
  ∃z,Ev (fun k=>cG.l0 k (iL rs) y l (l.length:Int) (i:Int)) (z,0)∧z.length=n∧(∀x∈z,x∈l∨x=0)∧ ∀t:Nat,t<n→rd z ((eK rs t:Nat):Int)=rd l (t:Int):=by
 have ht:=h.top
 induction d with
 |zero=>
  intro i y hi hy hm hv
  obtain rfl:i=n:=by omega
  exact⟨y,bX ⟨_,fun k=>by simp only[cG.l0];rw[if_neg (by omega)],Ev.now _⟩,hy,hm,hv⟩
 |succ d ih=>
  intro i y hi hy hm hv
  have hlt:i<n:=by omega
  have ht':eK rs i<n:=by rw[←h.prod];exact kR rs i (by rw[h.prod];exact hlt)
  have p1:(i:Int)<(l.length:Int):=by omega
  have p2:(0:Int)≤(i:Int):=Int.natCast_nonneg _
  have ws:wrap64 ((i:Int)+1)=((i+1:Nat):Int):=cA (by omega)
  have q0:(0:Int)≤((eK rs i:Nat):Int):=Int.natCast_nonneg _
  have q1:((eK rs i:Nat):Int)<(y.length:Int):=by rw[hy];exact Int.ofNat_lt.2 ht'
  obtain⟨z,E,z1,z2,z3⟩:=ih (i+1) (y.set (eK rs i) (rd l (i:Int))) (by omega) (by rw[List.length_set];exact hy) (fun x hx=>by
   rcases List.mem_or_eq_of_mem_set hx with h'|h'
   ·exact hm x h'
   ·exact .inl (by rw[h'];exact gM (by omega))) (fun t ht=>by
   by_cases c:t=i
   ·subst c
    exact iX _ (by omega)
   ·rw[eI _ fun e=>c (ob rs h.two i t (by rw[h.prod];exact hlt) (by rw[h.prod];omega) e).symm]
    exact hv t (by omega))
  refine⟨z,bX ⟨_,fun k=>by simp only[cG.l0];rw[if_pos p1,if_pos p2,if_pos p1,ws],?_⟩,z1,z2,z3⟩
  refine Ev.bind (xb h hlt) (dG q0 (dG q1 ?_))
  rw[Int.toNat_natCast]
  exact E
theorem wU{rs:List Nat}{n:Nat}(h:qF rs n){l:List Int}(hl:l.length=n): ∃z,Ev (fun k=>cG.f k l (iL rs)) (z,0)∧z.length=n∧(∀x∈z,x∈l∨x=0)∧ ∀t:Nat,t<n→rd z ((eK rs t:Nat):Int)=rd l (t:Int):=by
 have ht:=h.top
 obtain⟨z,E,z1,z2,z3⟩:=mK h hl n 0 (List.replicate n 0) (by omega) List.length_replicate (fun x hx=> .inr (List.eq_of_mem_replicate hx)) (fun t ht=>by omega)
 refine⟨z,Ev.congr (fun k=>rfl) (Ev.bind (xi h) (dG rfl (dG (by rw[hl]) (dG (Int.natCast_nonneg _) (dG (by show(n:Int).toNat≤_;omega) (Ev.congr (fun k=>?_) E)))))),z1,z2,z3⟩
 simp only[Int.toNat_natCast]
 rfl
end Go.Proofs.YtndkmnjbjlfeaaaGreat.D14
end
section
namespace Go.Proofs.YtndkmnjbjlfeaaaGreat.D14
open Go Go.RowKit Go.Proofs.YtndkmnjbjlfeaaaGreatW.PrintWords Go.Proofs.YtndkmnjbjlfeaaaGreatW.PrintLast Go.Proofs.YtndkmnjbjlfeaaaGreatW.PrintMore Go.Proofs.YtndkmnjbjlfeaaaGreat.Given Go.Proofs.YtndkmnjbjlfeaaaGreat.M Go.Proofs.YtndkmnjbjlfeaaaGreat.Mont Go.Proofs.YtndkmnjbjlfeaaaGreat.XS Go.Proofs.YtndkmnjbjlfeaaaGreat.XT Go.Proofs.YtndkmnjbjlfeaaaGreat.XR Go.Proofs.YtndkmnjbjlfeaaaGreat.Num Go.Proofs.YtndkmnjbjlfeaaaGreat.XK Go.Proofs.YtndkmnjbjlfeaaaGreat.F06 Go.Proofs.YtndkmnjbjlfeaaaGreat.T10 Go.Proofs.YtndkmnjbjlfeaaaGreat.D11 Go.Proofs.YtndkmnjbjlfeaaaGreat.XW Go.Proofs.YtndkmnjbjlfeaaaGreat.XG Go.Proofs.YtndkmnjbjlfeaaaGreat.XM
set_option linter.unusedVariables false
structure ez (F:cn) (T:List Int) (n r m:Nat) (w:Int):Prop where
 ij:aJ F
 len:T.length=n
 tab: ∀j,j<n→rd T (j:Int)=iv F.p (w^j%F.p)
 round: ∀a,w^a%F.p=w^(a%n)%F.p
 r2:2≤r∧r≤7
 m1:1≤m
 dvd:r*m∣n
 pos:1≤n
 top:n≤1024
section
variable {F:cn} {T:List Int} {n r m:Nat} {w:Int}
theorem ez.rm(S:ez F T n r m w):r*m≤n:=Nat.le_of_dvd S.pos S.dvd
theorem ez.AF(S:ez F T n r m w):1≤r*m:=Nat.mul_pos (Nat.lt_of_lt_of_le (by decide) S.r2.1) S.m1
theorem ez.zi(S:ez F T n r m w):m≤1024:=Nat.le_trans (Nat.le_mul_of_pos_left _ (Nat.lt_of_lt_of_le (by decide) S.r2.1)) (Nat.le_trans S.rm S.top)
def Wr(n r m:Nat)(w:Int):Int:=w^(n/(r*m))
theorem ez.lift(S:ez F T n r m w){a:Nat}(ha:a≤1000000):di.f [F] T (r:Int) (m:Int) (a:Int)=some (iv F.p (w^(a*(n/(r*m))%n)%F.p)):=by
 have h1:=S.rm
 have h2:=S.AF
 have h3:=S.top
 have h4:=S.pos
 have h5:=S.len
 have hq:n/(r*m)≤1024:=Nat.le_trans (Nat.div_le_self _ _) h3
 have haq:a*(n/(r*m))≤1000000000000:=Nat.le_trans (Nat.mul_le_mul ha hq) (by decide)
 have w1:wrap64 ((r:Int)*(m:Int))=((r*m:Nat):Int):=by rw[←Int.natCast_mul];exact fK (Nat.le_trans h1 (Nat.le_trans h3 (by decide)))
 have w2:wrap64 (Int.tdiv (T.length:Int) ((r*m:Nat):Int))=((n/(r*m):Nat):Int):=by
  rw[h5,dr (Int.natCast_nonneg _),←Int.natCast_ediv]
  exact fK (Nat.le_trans hq (by decide))
 have w3:wrap64 ((a:Int)*((n/(r*m):Nat):Int))=((a*(n/(r*m)):Nat):Int):=by rw[←Int.natCast_mul];exact fK haq
 have w4:Int.tmod ((a*(n/(r*m)):Nat):Int) (T.length:Int)=((a*(n/(r*m))%n:Nat):Int):=by
  rw[h5,bH (Int.natCast_nonneg _),Int.natCast_emod]
 have hm:a*(n/(r*m))%n<n:=Nat.mod_lt _ h4
 have q1: ¬((r*m:Nat):Int)=0:=fun e=>by
  have e':r*m=0:=Int.ofNat_inj.1 e
  rw[e'] at h2
  exact absurd h2 (by decide)
 have q2: ¬(T.length:Int)=0:=by omega
 have q3:(0:Int)≤((a*(n/(r*m))%n:Nat):Int):=Int.natCast_nonneg _
 have q4:((a*(n/(r*m))%n:Nat):Int)<(T.length:Int):=by rw[h5];exact Int.ofNat_lt.2 hm
 unfold di.f
 rw[w1,w2,w3,w4,if_neg q1,if_neg q2,if_pos q3,if_pos q4,S.tab _ hm]
theorem ez.times(S:ez F T n r m w){a:Nat}{x:Int}(hx:U x):bb.f [F] (iv F.p (w^(a*(n/(r*m))%n)%F.p)) x=some (Wr n r m w^a*x%F.p):=by
 rw[bb.at_ ⟨show U (iv F.p (w^(a*(n/(r*m))%n)%F.p)) from S.ij.uE _,hx⟩,oE S.ij.m,←S.round,bl]
 unfold Wr
 rw[←Int.pow_mul,Nat.mul_comm a]
def oP(y:List Int)(s m k:Nat)(q:Nat):Int:=rd y ((s+(q*m+k):Nat):Int)
def nH(W p:Int)(y:List Int)(s r m k i:Nat):Int:=cp (fun q=>W^(q*(i*m))*(W^(q*k)*oP y s m k q%p)) r%p
theorem ez.yT(S:ez F T n r m w){y:List Int}(hy:y.length=n)(hu: ∀x∈y,U x){s k:Nat}(hs:s+r*m≤n)(hk:k<m){z:List Int}(d:Nat): ∀(q:Nat) (t:List Int),q+d=r→t.length=r→(∀j:Nat,j<q→rd t (j:Int)=Wr n r m w^(j*k)*oP y s m k j%F.p)→
  (∀t:List Int,t.length=r→(∀j:Nat,j<r→rd t (j:Int)=Wr n r m w^(j*k)*oP y s m k j%F.p)→Ev (fun κ=>ar.l1 s (r*m) κ y (k:Int) t (r:Int) 0 [F] T (r:Int) (m:Int)) z)→
  Ev (fun κ=>ar.l0 s (r*m) κ y (k:Int) t (r:Int) (q:Int) [F] T (r:Int) (m:Int)) z:=by
 have hr7:=S.r2
 have hm:=S.zi
 have htop:=S.top
 induction d with
 |zero=>
  intro q t hq ht hv H
  obtain rfl:q=r:=by omega
  have E:=H t ht hv
  have ht':(t.length:Int)=(q:Int):=by rw[ht]
  exact bX ⟨_,fun k=>by simp only[ar.l0];rw[if_neg (by omega),ht'],E⟩
 |succ d ih=>
  intro q t hq ht hv H
  have hqr:q<r:=by clear ih hs;omega
  have ws:wrap64 ((q:Int)+1)=((q+1:Nat):Int):=(by clear ih hs;exact cA (by omega))
  have p0:(q:Int)<(r:Int):=Int.ofNat_lt.2 hqr
  have p2:(0:Int)≤(q:Int):=Int.natCast_nonneg _
  have p3:(q:Int)<(t.length:Int):=by rw[ht];exact Int.ofNat_lt.2 hqr
  have hq7:q≤7:=by clear ih hs;omega
  have hk10:k≤1024:=by clear ih hs;omega
  have hqk:q*k≤7168:=Nat.le_trans (Nat.mul_le_mul hq7 hk10) (by decide)
  have hqk':q*k≤1000000:=Nat.le_trans hqk (by decide)
  have hqm:q*m≤7168:=Nat.le_trans (Nat.mul_le_mul hq7 hm) (by decide)
  have hin:q*m+k<r*m:=by
   have h1:(q+1)*m≤r*m:=Nat.mul_le_mul_right _ hqr
   rw[Nat.succ_mul] at h1
   exact Nat.lt_of_lt_of_le (Nat.add_lt_add_left hk _) h1
  have w1:wrap64 ((q:Int)*(k:Int))=((q*k:Nat):Int):=by rw[←Int.natCast_mul];exact fK (Nat.le_trans hqk (by decide))
  have w2:wrap64 ((q:Int)*(m:Int))=((q*m:Nat):Int):=by rw[←Int.natCast_mul];exact fK (Nat.le_trans hqm (by decide))
  have w3:wrap64 (((q*m:Nat):Int)+(k:Int))=((q*m+k:Nat):Int):=by rw[←Int.natCast_add];exact fK (Nat.le_trans (Nat.le_of_lt hin) (Nat.le_trans S.rm (Nat.le_trans htop (by decide))))
  have q0:(0:Int)≤((q*m+k:Nat):Int):=Int.natCast_nonneg _
  have q1:((q*m+k:Nat):Int)<((r*m:Nat):Int):=Int.ofNat_lt.2 hin
  have er:zm s y ((q*m+k:Nat):Int)=oP y s m k q:=by unfold zm oP;rw[Int.natCast_add s]
  have uc:U (oP y s m k q):=hu _ (gM (by rw[hy];exact Nat.lt_of_lt_of_le (Nat.add_lt_add_left hin s) hs))
  have L:=S.lift hqk'
  have Ti:=S.times (a:=q*k) uc
  refine bX ⟨_,fun k=>by simp only[ar.l0];rw[if_pos p0,w1,w2,w3,er,ws,Int.toNat_natCast],?_⟩
  refine kx L (dG q0 (dG q1 ?_))
  refine kx Ti (dG p2 (dG p3 ?_))
  have hq1:q+1+d=r:=by rw[←hq,Nat.add_assoc,Nat.add_comm 1 d]
  have hqt:q<t.length:=by rw[ht];exact hqr
  refine ih (q+1) (t.set q (Wr n r m w^(q*k)*oP y s m k q%F.p)) hq1 (by rw[List.length_set];exact ht) (fun j hj=>?_) H
  by_cases c:j=q
  ·subst c
   exact iX _ hqt
  ·rw[eI _ (Ne.symm c)]
   exact hv j (Nat.lt_of_le_of_ne (Nat.le_of_lt_succ hj) c)
theorem ez.yQ(S:ez F T n r m w){s k i:Nat}(hi:i<r){t:List Int}(ht:t.length=r){V:Nat→Int}(hv: ∀j:Nat,j<r→rd t (j:Int)=V j%F.p)(hin:i*m+k<r*m){z:List Int}{Y:List Int}(d:Nat): ∀q:Nat,q+d=r→
  Ev (fun κ=>ar.l1 s (r*m) κ (Y.set (s+(i*m+k)) (cp (fun q=>Wr n r m w^(q*(i*m))*(V q%F.p)) r%F.p)) (k:Int) t (r:Int) ((i+1:Nat):Int) [F] T (r:Int) (m:Int)) z→
  Ev (fun κ=>ar.l2 s (r*m) κ Y (k:Int) t (i:Int) (cp (fun q=>Wr n r m w^(q*(i*m))*(V q%F.p)) q%F.p) (r:Int) (i:Int) t (r:Int) (q:Int) [F] T (r:Int) (m:Int)) z:=by
 have hr7:=S.r2
 have hm:=S.zi
 have htop:=S.top
 have hi7:i≤7:=by omega
 have him:i*m≤7168:=Nat.le_trans (Nat.mul_le_mul hi7 hm) (by decide)
 induction d with
 |zero=>
  intro q hq E
  obtain rfl:q=r:=by omega
  have ws:wrap64 ((i:Int)+1)=((i+1:Nat):Int):=by clear hin him;exact cA (by omega)
  have w2:wrap64 ((i:Int)*(m:Int))=((i*m:Nat):Int):=by rw[←Int.natCast_mul];exact fK (Nat.le_trans him (by decide))
  have w3:wrap64 (((i*m:Nat):Int)+(k:Int))=((i*m+k:Nat):Int):=by rw[←Int.natCast_add];exact fK (Nat.le_trans (Nat.le_of_lt hin) (Nat.le_trans S.rm (Nat.le_trans htop (by decide))))
  have q0:(0:Int)≤((i*m+k:Nat):Int):=Int.natCast_nonneg _
  have q1:((i*m+k:Nat):Int)<((q*m:Nat):Int):=Int.ofNat_lt.2 hin
  have q2: ¬(q:Int)<(q:Int):=Int.lt_irrefl _
  exact bX ⟨_,fun k=>by simp only[ar.l2];rw[if_neg q2,w2,w3,if_pos q0,if_pos q1,ws,Int.toNat_natCast],E⟩
 |succ d ih=>
  intro q hq E
  have hqr:q<r:=by clear ih hin him;omega
  have ws:wrap64 ((q:Int)+1)=((q+1:Nat):Int):=by clear ih hin him;exact cA (by omega)
  have p0:(q:Int)<(r:Int):=Int.ofNat_lt.2 hqr
  have p2:(0:Int)≤(q:Int):=Int.natCast_nonneg _
  have p3:(q:Int)<(t.length:Int):=by rw[ht];exact Int.ofNat_lt.2 hqr
  have hq7:q≤7:=by clear ih hin him;omega
  have hqi:q*i≤49:=Nat.mul_le_mul hq7 hi7
  have hqim:q*i*m≤50176:=Nat.le_trans (Nat.mul_le_mul hqi hm) (by decide)
  have w1:wrap64 ((q:Int)*(i:Int))=((q*i:Nat):Int):=by rw[←Int.natCast_mul];exact fK (Nat.le_trans hqi (by decide))
  have w2:wrap64 (((q*i:Nat):Int)*(m:Int))=((q*i*m:Nat):Int):=by rw[←Int.natCast_mul];exact fK (Nat.le_trans hqim (by decide))
  have L:=S.lift (a:=q*i*m) (Nat.le_trans hqim (by decide))
  have hvq:=hv q hqr
  have ut:U (rd t (q:Int)):=by rw[hvq];exact S.ij.uE _
  have Ti:=S.times (a:=q*i*m) ut
  have A:=cM.at_ (F:=F) (l:=[]) ⟨S.ij.uE (cp (fun q=>Wr n r m w^(q*(i*m))*(V q%F.p)) q),S.ij.uE (Wr n r m w^(q*i*m)*rd t (q:Int))⟩
  have e:(cp (fun q=>Wr n r m w^(q*(i*m))*(V q%F.p)) q%F.p+Wr n r m w^(q*i*m)*rd t (q:Int)%F.p)%F.p=cp (fun q=>Wr n r m w^(q*(i*m))*(V q%F.p)) (q+1)%F.p:=by
   rw[hvq,Nat.mul_assoc]
   exact mE (Int.emod_emod _ _) (Int.emod_emod _ _)
  rw[e] at A
  refine bX ⟨_,fun k=>by simp only[ar.l2];rw[if_pos p0,if_pos p2,if_pos p3,w1,w2,ws],?_⟩
  refine kx L ?_
  refine kx Ti ?_
  refine kx A ?_
  exact ih (q+1) (by rw[←hq,Nat.add_assoc,Nat.add_comm 1 d]) E
def kB(y:List Int)(s m k:Nat)(v:Nat→Int):Nat→List Int
 |0=>y
 |i+1=>(kB y s m k v i).set (s+(i*m+k)) (v i)
theorem qC(y:List Int)(s m k:Nat)(v:Nat→Int)(i:Nat):(kB y s m k v i).length=y.length:=by
 induction i with
 |zero=>rfl
 |succ i ih=>show((kB y s m k v i).set _ _).length=_;rw[List.length_set,ih]
theorem wL{y:List Int}{s m k:Nat}{v:Nat→Int}{x:Nat}(i:Nat)(h: ∀j,j<i→s+(j*m+k)≠x):rd (kB y s m k v i) (x:Int)=rd y (x:Int):=by
 induction i with
 |zero=>rfl
 |succ i ih=>
  show rd ((kB y s m k v i).set _ _) _=_
  rw[eI _ (h i (Nat.lt_succ_self i))]
  exact ih fun j hj=>h j (Nat.lt_succ_of_lt hj)
theorem xV{y:List Int}{s m k:Nat}{v:Nat→Int}(hm:1≤m){j:Nat}(i:Nat)(hj:j<i)(hl:s+(j*m+k)<y.length):rd (kB y s m k v i) ((s+(j*m+k):Nat):Int)=v j:=by
 induction i with
 |zero=>exact absurd hj (Nat.not_lt_zero _)
 |succ i ih=>
  show rd ((kB y s m k v i).set _ _) _=_
  by_cases c:j=i
  ·subst c
   exact iX _ (by rw[qC];exact hl)
  ·have hne:s+(i*m+k)≠s+(j*m+k):=fun e=>by
    have e1:i*m+k=j*m+k:=Nat.add_left_cancel e
    have e2:i*m=j*m:=Nat.add_right_cancel e1
    exact c (Nat.eq_of_mul_eq_mul_right hm e2).symm
   rw[eI _ hne]
   exact ih (Nat.lt_of_le_of_ne (Nat.le_of_lt_succ hj) c)
theorem ez.zq(S:ez F T n r m w){y:List Int}{s k:Nat}(hk:k<m){t:List Int}(ht:t.length=r){V:Nat→Int}(hv: ∀j:Nat,j<r→rd t (j:Int)=V j%F.p)(d:Nat): ∀i:Nat,i+d=r→
  Ev (fun κ=>ar.l1 s (r*m) κ (kB y s m k (fun i=>cp (fun q=>Wr n r m w^(q*(i*m))*(V q%F.p)) r%F.p) i) (k:Int) t (r:Int) (i:Int) [F] T (r:Int) (m:Int)) (kB y s m k (fun i=>cp (fun q=>Wr n r m w^(q*(i*m))*(V q%F.p)) r%F.p) r):=by
 have hr7:=S.r2
 induction d with
 |zero=>
  intro i hi
  obtain rfl:i=r:=by omega
  exact bX ⟨_,fun k=>by simp only[ar.l1];rw[if_neg (Int.lt_irrefl _)],Ev.now _⟩
 |succ d ih=>
  intro i hi
  have hir:i<r:=by omega
  have p0:(i:Int)<(r:Int):=by omega
  have ht':(t.length:Int)=(r:Int):=by rw[ht]
  have hin:i*m+k<r*m:=by
   have h1:(i+1)*m≤r*m:=Nat.mul_le_mul_right _ hir
   rw[Nat.succ_mul] at h1
   exact Nat.lt_of_lt_of_le (Nat.add_lt_add_left hk _) h1
  have E:=S.yQ (s:=s) (Y:=kB y s m k (fun i=>cp (fun q=>Wr n r m w^(q*(i*m))*(V q%F.p)) r%F.p) i) hir ht hv hin r 0 (by omega) (ih (i+1) (by omega))
  rw[show cp (fun q=>Wr n r m w^(q*(i*m))*(V q%F.p)) 0=0 from rfl,Int.zero_emod] at E
  refine bX ⟨_,fun k=>by simp only[ar.l1];rw[if_pos p0,ht'],?_⟩
  exact E
theorem ez.zh(S:ez F T n r m w){y:List Int}(hy:y.length=n)(hu: ∀x∈y,U x){s k:Nat}(hs:s+r*m≤n)(hk:k<m):
  Ev (fun κ=>ar.f s (r*m) κ [F] T (r:Int) (m:Int) y (k:Int)) (kB y s m k (fun i=>nH (Wr n r m w) F.p y s r m k i) r):=by
 have hr7:=S.r2
 have E:=S.yT hy hu hs hk (z:=kB y s m k (fun i=>nH (Wr n r m w) F.p y s r m k i) r) r 0 (List.replicate r 0) (by omega) List.length_replicate (fun j hj=>absurd hj (Nat.not_lt_zero _)) (fun t ht hv=>S.zq (y:=y) (s:=s) hk ht hv r 0 (by omega))
 have q0:(0:Int)≤(r:Int):=Int.natCast_nonneg _
 have q1:(r:Int).toNat≤35184372088832:=by omega
 refine Ev.congr (fun k=>rfl) (dG q0 (dG q1 (Ev.congr (fun k=>?_) E)))
 simp only[Option.bind_some,List.length_replicate,Int.toNat_natCast]
 rfl
end
end Go.Proofs.YtndkmnjbjlfeaaaGreat.D14
end
section
namespace Go.Proofs.YtndkmnjbjlfeaaaGreat.D14
open Go Go.RowKit Go.Proofs.YtndkmnjbjlfeaaaGreatW.PrintWords Go.Proofs.YtndkmnjbjlfeaaaGreatW.PrintLast Go.Proofs.YtndkmnjbjlfeaaaGreatW.PrintMore Go.Proofs.YtndkmnjbjlfeaaaGreat.Given Go.Proofs.YtndkmnjbjlfeaaaGreat.M Go.Proofs.YtndkmnjbjlfeaaaGreat.Mont Go.Proofs.YtndkmnjbjlfeaaaGreat.XS Go.Proofs.YtndkmnjbjlfeaaaGreat.XT Go.Proofs.YtndkmnjbjlfeaaaGreat.XR Go.Proofs.YtndkmnjbjlfeaaaGreat.Num Go.Proofs.YtndkmnjbjlfeaaaGreat.XK Go.Proofs.YtndkmnjbjlfeaaaGreat.F06 Go.Proofs.YtndkmnjbjlfeaaaGreat.T10 Go.Proofs.YtndkmnjbjlfeaaaGreat.D11 Go.Proofs.YtndkmnjbjlfeaaaGreat.XW Go.Proofs.YtndkmnjbjlfeaaaGreat.XG Go.Proofs.YtndkmnjbjlfeaaaGreat.XM
set_option linter.unusedVariables false
def zR(W:Int)(r m:Nat)(h:Nat→Int)(x:Nat):Int:=cp (fun q=>W^(q*(x% (r*m)))*h (x/(r*m)*(r*m)+(q*m+x% (r*m)%m))) r
theorem oK{r m b i k:Nat}(hi:i<r)(hk:k<m):(b*(r*m)+(i*m+k))% (r*m)=i*m+k∧(b*(r*m)+(i*m+k))/(r*m)=b∧(i*m+k)%m=k∧i*m+k<r*m:=by
 have hin:i*m+k<r*m:=by
  have h1:(i+1)*m≤r*m:=Nat.mul_le_mul_right _ hi
  rw[Nat.succ_mul] at h1
  exact Nat.lt_of_lt_of_le (Nat.add_lt_add_left hk _) h1
 refine⟨?_,?_,?_,hin⟩
 ·rw[Nat.mul_comm b,Nat.mul_add_mod,Nat.mod_eq_of_lt hin]
 ·rw[Nat.mul_comm b,Nat.mul_add_div (Nat.lt_of_le_of_lt (Nat.zero_le _) hin),Nat.div_eq_of_lt hin,Nat.add_zero]
 ·rw[Nat.mul_comm i,Nat.mul_add_mod,Nat.mod_eq_of_lt hk]
theorem zI{r m b i k:Nat}(hk:k<m):(b*(r*m)+(i*m+k))%m=k:=by
 rw[←Nat.mul_assoc,←Nat.add_assoc,←Nat.add_mul,Nat.mul_comm _ m,Nat.mul_add_mod,Nat.mod_eq_of_lt hk]
theorem sL{r m x:Nat}(hm:1≤m)(hr:1≤r):x=x/(r*m)*(r*m)+(x% (r*m)/m*m+x%m)∧x% (r*m)/m<r∧x%m<m:=by
 have h1:x% (r*m)%m=x%m:=by rw[Nat.mul_comm r m,Nat.mod_mul_right_mod]
 refine⟨?_,?_,Nat.mod_lt _ hm⟩
 ·rw[←h1]
  have e1:=Nat.div_add_mod x (r*m)
  have e2:=Nat.div_add_mod (x% (r*m)) m
  rw[Nat.mul_comm (x/(r*m)),Nat.mul_comm (x% (r*m)/m),e2,e1]
 ·exact Nat.div_lt_of_lt_mul (by rw[Nat.mul_comm m r];exact Nat.mod_lt _ (Nat.mul_pos hr hm))
theorem yh{W p:Int}{y:List Int}{r m b i k:Nat}(hi:i<r)(hk:k<m):nH W p y (b*(r*m)) r m k i=zR W r m (fun x=>rd y (x:Int)) (b*(r*m)+(i*m+k))%p:=by
 obtain⟨e1,e2,e3,_⟩:=oK (b:=b) hi hk
 unfold nH zR
 rw[e1,e2]
 refine fi fun q _=>?_
 rw[bV,e3,←Int.mul_assoc,←Int.pow_add,←Nat.mul_add]
 rfl
section
variable {F:cn} {T:List Int} {n r m:Nat} {w:Int} {y0:List Int}
structure mj (F:cn) (n r m:Nat) (w:Int) (y0:List Int) (b k:Nat) (y:List Int):Prop where
 len:y.length=n
 new: ∀x,x<n→(x/(r*m)<b∨(x/(r*m)=b∧x%m<k))→rd y (x:Int)=zR (Wr n r m w) r m (fun x=>rd y0 (x:Int)) x%F.p
 zM: ∀x,x<n→ ¬(x/(r*m)<b∨(x/(r*m)=b∧x%m<k))→rd y (x:Int)=rd y0 (x:Int)
theorem mj.u(S:ez F T n r m w)(hl:y0.length=n)(h0: ∀x∈y0,U x){b k:Nat}{y:List Int}(h:mj F n r m w y0 b k y): ∀x∈y,U x:=fun x hx=>by
 obtain⟨j,hj,rfl⟩:=List.mem_iff_getElem.1 hx
 have hjn:j<n:=by rw[←h.len];exact hj
 rw[←gz hj]
 by_cases c:j/(r*m)<b∨(j/(r*m)=b∧j%m<k)
 ·rw[h.new j hjn c];exact S.ij.uE _
 ·rw[h.zM j hjn c];exact h0 _ (gM (by rw[hl];exact hjn))
theorem mj.next(S:ez F T n r m w){b:Nat}{y:List Int}(h:mj F n r m w y0 b m y):mj F n r m w y0 (b+1) 0 y:=by
 have key: ∀x,(x/(r*m)<b+1∨(x/(r*m)=b+1∧x%m<0))↔(x/(r*m)<b∨(x/(r*m)=b∧x%m<m)):=fun x=>by
  have:=Nat.mod_lt x S.m1
  constructor
  ·rintro(h1|⟨_,h2⟩)
   ·rcases Nat.lt_or_eq_of_le (Nat.le_of_lt_succ h1) with h2|h2
    ·exact .inl h2
    ·exact .inr ⟨h2,this⟩
   ·exact absurd h2 (Nat.not_lt_zero _)
  ·rintro(h1|⟨h1,_⟩)
   ·exact .inl (Nat.lt_succ_of_lt h1)
   ·exact .inl (by rw[h1];exact Nat.lt_succ_self _)
 exact⟨h.len,fun x hx c=>h.new x hx ((key x).1 c),fun x hx c=>h.zM x hx fun c'=>c ((key x).2 c')⟩
theorem mj.Bo(S:ez F T n r m w){b k:Nat}(hk:k<m)(hb:b*(r*m)+r*m≤n){y:List Int}(h:mj F n r m w y0 b k y):mj F n r m w y0 b (k+1) (kB y (b*(r*m)) m k (fun i=>nH (Wr n r m w) F.p y (b*(r*m)) r m k i) r):=by
 have hr1:1≤r:=Nat.le_trans (by decide) S.r2.1
 have zM: ∀q,q<r→oP y (b*(r*m)) m k q=oP y0 (b*(r*m)) m k q:=fun q hq=>by
  obtain⟨e1,e2,e3,e4⟩:=oK (b:=b) hq hk
  refine h.zM _ (Nat.lt_of_lt_of_le (Nat.add_lt_add_left e4 _) hb) ?_
  rw[e2,zI hk]
  rintro(c|⟨_,c⟩)
  ·exact absurd c (Nat.lt_irrefl _)
  ·exact absurd c (Nat.lt_irrefl _)
 have new: ∀i,nH (Wr n r m w) F.p y (b*(r*m)) r m k i=nH (Wr n r m w) F.p y0 (b*(r*m)) r m k i:=fun i=>by
  unfold nH
  exact congrArg (· %F.p) (cm fun q hq=>by rw[zM q hq])
 have off: ∀x,¬(x/(r*m)=b∧x%m=k)→rd (kB y (b*(r*m)) m k (fun i=>nH (Wr n r m w) F.p y (b*(r*m)) r m k i) r) (x:Int)=rd y (x:Int):=fun x hx=>by
  refine wL r fun j hj e=>hx ?_
  obtain⟨e1,e2,_,_⟩:=oK (b:=b) hj hk
  rw[←e]
  exact⟨e2,zI hk⟩
 refine⟨by rw[qC];exact h.len,fun x hx c=>?_,fun x hx c=>?_⟩
 ·by_cases hxk:x/(r*m)=b∧x%m=k
  ·obtain⟨f1,f2,f3⟩:=sL (x:=x) S.m1 hr1
   rw[hxk.1,hxk.2] at f1
   have hlt:b*(r*m)+(x% (r*m)/m*m+k)<y.length:=by rw[h.len,←f1];exact hx
   have e:=xV (y:=y) (v:=fun i=>nH (Wr n r m w) F.p y (b*(r*m)) r m k i) S.m1 r f2 hlt
   rw[←f1] at e
   rw[e,new,yh f2 hk,←f1]
  ·rw[off x hxk]
   refine h.new x hx ?_
   rcases c with c|⟨c1,c2⟩
   ·exact .inl c
   ·exact .inr ⟨c1,Nat.lt_of_le_of_ne (Nat.le_of_lt_succ c2) fun e=>hxk ⟨c1,e⟩⟩
 ·rw[off x fun e=>c (.inr ⟨e.1,by rw[e.2];exact Nat.lt_succ_self _⟩)]
  refine h.zM x hx fun c'=>c ?_
  rcases c' with c'|⟨c1,c2⟩
  ·exact .inl c'
  ·exact .inr ⟨c1,Nat.lt_succ_of_lt c2⟩
def wO(F:cn)(n r m:Nat)(w:Int)(y0 z:List Int):Prop:=z.length=n∧ ∀x,x<n→rd z (x:Int)=zR (Wr n r m w) r m (fun x=>rd y0 (x:Int)) x%F.p
theorem ez.zk(S:ez F T n r m w)(hl:y0.length=n)(h0: ∀x∈y0,U x){b:Nat}(hb:b*(r*m)+r*m≤n)(H: ∀y,mj F n r m w y0 b m y→ ∃z,Ev (fun κ=>bj.l0 κ [F] T (r:Int) (m:Int) y ((b*(r*m)+r*m:Nat):Int)) z∧wO F n r m w y0 z)(d:Nat): ∀(k:Nat) (y:List Int),k+d=m→mj F n r m w y0 b k y→
  ∃z,Ev (fun κ=>bj.l1 κ [F] T (r:Int) (m:Int) y ((b*(r*m):Nat):Int) (k:Int)) z∧wO F n r m w y0 z:=by
 have htop:=S.top
 have hbn:b*(r*m)+r*m≤1000000000000:=Nat.le_trans hb (Nat.le_trans htop (by decide))
 have w1:wrap64 ((r:Int)*(m:Int))=((r*m:Nat):Int):=by rw[←Int.natCast_mul];exact fK (Nat.le_trans S.rm (Nat.le_trans htop (by decide)))
 have w2:wrap64 (((b*(r*m):Nat):Int)+((r*m:Nat):Int))=((b*(r*m)+r*m:Nat):Int):=by rw[←Int.natCast_add];exact fK hbn
 have hm:=S.zi
 induction d with
 |zero=>
  intro k y hk hI
  obtain rfl:k=m:=by rw[←hk];rfl
  obtain⟨z,E,hz⟩:=H y hI
  exact⟨z,bX ⟨_,fun κ=>by simp only[bj.l1];rw[if_neg (Int.lt_irrefl _),w1,w2],E⟩,hz⟩
 |succ d ih=>
  intro k y hk hI
  have hkm:k<m:=by clear hb hbn;omega
  have p0:(k:Int)<(m:Int):=Int.ofNat_lt.2 hkm
  have ws:wrap64 ((k:Int)+1)=((k+1:Nat):Int):=cA (by clear hb hbn;omega)
  have c3:(0:Int)≤((b*(r*m):Nat):Int)∧((b*(r*m):Nat):Int)<((b*(r*m)+r*m:Nat):Int)∧((b*(r*m)+r*m:Nat):Int)≤(y.length:Int):=⟨Int.natCast_nonneg _,Int.ofNat_lt.2 (Nat.lt_add_of_pos_right S.AF),by rw[hI.len];exact Int.ofNat_le.2 hb⟩
  obtain⟨z,E,hz⟩:=ih (k+1) _ (by rw[←hk,Nat.add_assoc,Nat.add_comm 1 d]) (hI.Bo S hkm hb)
  refine⟨z,bX ⟨_,fun κ=>by simp only[bj.l1];rw[if_pos p0,w1,w2,if_pos c3,ws,Int.toNat_natCast,Int.toNat_natCast,Nat.add_sub_cancel_left],?_⟩,hz⟩
  exact Ev.bind (S.zh hI.len (hI.u S hl h0) hb hkm) E
theorem ez.zz(S:ez F T n r m w)(hl:y0.length=n)(h0: ∀x∈y0,U x){B:Nat}(hB:B*(r*m)=n)(d:Nat): ∀(b:Nat) (y:List Int),b+d=B→mj F n r m w y0 b 0 y→
  ∃z,Ev (fun κ=>bj.l0 κ [F] T (r:Int) (m:Int) y ((b*(r*m):Nat):Int)) z∧wO F n r m w y0 z:=by
 induction d with
 |zero=>
  intro b y hb hI
  obtain rfl:b=B:=by rw[←hb];rfl
  have q: ¬((b*(r*m):Nat):Int)<(y.length:Int):=by rw[hI.len,hB];exact Int.lt_irrefl _
  refine⟨y,bX ⟨_,fun κ=>by simp only[bj.l0];rw[if_neg q],Ev.now _⟩,hI.len,fun x hx=>hI.new x hx (.inl ?_)⟩
  exact Nat.div_lt_of_lt_mul (by rw[Nat.mul_comm,hB];exact hx)
 |succ d ih=>
  intro b y hb hI
  have hbB:b+1≤B:=by rw[←hb];exact Nat.add_le_add_left (Nat.succ_le_succ (Nat.zero_le d)) b
  have hbn:b*(r*m)+r*m≤n:=by
   rw[←Nat.succ_mul,←hB]
   exact Nat.mul_le_mul_right _ hbB
  have q:((b*(r*m):Nat):Int)<(y.length:Int):=by rw[hI.len];exact Int.ofNat_lt.2 (Nat.lt_of_lt_of_le (Nat.lt_add_of_pos_right S.AF) hbn)
  obtain⟨z,E,hz⟩:=S.zk hl h0 hbn (fun y' hy'=>by
   have:=ih (b+1) y' (by rw[←hb,Nat.add_assoc,Nat.add_comm 1 d]) (hy'.next S)
   rw[Nat.succ_mul] at this
   exact this) m 0 y (Nat.zero_add _) hI
  refine⟨z,bX ⟨_,fun κ=>by simp only[bj.l0];rw[if_pos q],?_⟩,hz⟩
  exact E
theorem ez.zx(S:ez F T n r m w)(hl:y0.length=n)(h0: ∀x∈y0,U x): ∃z,Ev (fun κ=>bj.f κ [F] T (r:Int) (m:Int) y0) z∧wO F n r m w y0 z:=by
 obtain⟨B,hB⟩:=S.dvd
 have hI:mj F n r m w y0 0 0 y0:=⟨hl,fun x hx c=>by rcases c with c|⟨_,c⟩<;>exact absurd c (Nat.not_lt_zero _),fun x hx c=>rfl⟩
 obtain⟨z,E,hz⟩:=S.zz hl h0 (B:=B) (by rw[hB,Nat.mul_comm]) B 0 y0 (Nat.zero_add _) hI
 rw[Nat.zero_mul] at E
 exact⟨z,Ev.congr (fun κ=>rfl) E,hz⟩
end
def Mid(F:cn)(n:Nat)(w:Int)(g:Nat→Int)(suf:List Nat)(y:List Int):Prop:=y.length=n∧ ∀x,x<n→rd y (x:Int)=vA suf (w^(n/bm suf)) (fun t=>g (x/bm suf*bm suf+t)) (x%bm suf)%F.p
theorem mid_step{F:cn}{T:List Int}{n r:Nat}{w:Int}{g:Nat→Int}{suf:List Nat}{y z:List Int}(S:ez F T n r (bm suf) w)(hM:Mid F n w g suf y)(hz:wO F n r (bm suf) w y z):Mid F n w g (r::suf) z:=by
 obtain⟨c,hc⟩:=S.dvd
 have hm1:=S.m1
 have hr1:1≤r:=Nat.le_trans (by decide) S.r2.1
 have hn:n=r*bm suf*c:=hc
 have d1:n/(r*bm suf)=c:=by rw[hn];exact Nat.mul_div_cancel_left _ S.AF
 have d2:n/bm suf=c*r:=by rw[hn,show r*bm suf*c=bm suf*(c*r) by rw[Nat.mul_comm r,Nat.mul_assoc,Nat.mul_comm r c]];exact Nat.mul_div_cancel_left _ hm1
 refine⟨hz.1,fun x hx=>?_⟩
 rw[hz.2 x hx]
 show zR (Wr n r (bm suf) w) r (bm suf) (fun x=>rd y (x:Int)) x%F.p=cp (fun q=>(w^(n/(r*bm suf)))^(q*(x% (r*bm suf)))*vA suf ((w^(n/(r*bm suf)))^r) (fun t=>g (x/(r*bm suf)*(r*bm suf)+(q*bm suf+t))) (x% (r*bm suf)%bm suf)) r%F.p
 unfold zR Wr
 refine fi fun q hq=>dZ rfl ?_
 obtain⟨f1,f2,f3⟩:=sL (x:=x) hm1 hr1
 have hj:x% (r*bm suf)%bm suf<bm suf:=Nat.mod_lt _ hm1
 obtain⟨e1,e2,e3,e4⟩:=oK (b:=x/(r*bm suf)) hq hj
 have hX:x/(r*bm suf)*(r*bm suf)+(q*bm suf+x% (r*bm suf)%bm suf)<n:=by
  have h1:x/(r*bm suf)<c:=Nat.div_lt_of_lt_mul (by rw[←hn];exact hx)
  have h2:(x/(r*bm suf)+1)*(r*bm suf)≤c*(r*bm suf):=Nat.mul_le_mul_right _ h1
  rw[Nat.succ_mul,Nat.mul_comm c,←hn] at h2
  exact Nat.lt_of_lt_of_le (Nat.add_lt_add_left e4 _) h2
 show rd y _%F.p=_
 rw[hM.2 _ hX,Int.emod_emod,zI hj,d2,d1,←Int.pow_mul]
 have ed:(x/(r*bm suf)*(r*bm suf)+(q*bm suf+x% (r*bm suf)%bm suf))/bm suf=x/(r*bm suf)*r+q:=by
  rw[←Nat.mul_assoc,←Nat.add_assoc,←Nat.add_mul,Nat.mul_comm _ (bm suf),Nat.mul_add_div hm1,Nat.div_eq_of_lt hj,Nat.add_zero]
 rw[ed]
 have ef:(fun t=>g ((x/(r*bm suf)*r+q)*bm suf+t))=fun t=>g (x/(r*bm suf)*(r*bm suf)+(q*bm suf+t)):=by
  funext t
  rw[Nat.add_mul,Nat.mul_assoc,Nat.add_assoc]
 rw[ef]
theorem xZ{F:cn}(hg:aJ F){rs:List Nat}{n:Nat}(hR:qF rs n){T:List Int}(hT:T.length=n){w:Int}(tab: ∀j,j<n→rd T (j:Int)=iv F.p (w^j%F.p))(round: ∀a,w^a%F.p=w^(a%n)%F.p){g:Nat→Int}{inv:Bool}(d:Nat): ∀(i:Nat) (y:List Int),i=d→i≤rs.length→Mid F n w g (rs.drop i) y→(∀x∈y,U x)→
  ∃z,(∀out,Ev (fun k=>if inv=true then(db.f k [F] z).bind fun t=>some (t,0) else some (z,0)) out→Ev (fun k=>dw.l0 k [F] inv (iL rs) T y ((bm (rs.drop i):Nat):Int) ((i:Int)-1)) out)∧Mid F n w g rs z∧ ∀x∈z,U x:=by
 have ll:=k8 rs
 have hlo:=hg.lo
 induction d with
 |zero=>
  intro i y hi hl hM hu
  subst hi
  refine⟨y,fun out E=>?_,hM,hu⟩
  exact bX ⟨_,fun k=>by simp only[dw.l0];rw[if_neg (show¬((0:Nat):Int)-1≥0 by omega)],E⟩
 |succ d ih=>
  intro i y hi hl hM hu
  subst hi
  have hlt:d<rs.length:=hl
  have hd:rs.drop d=rs[d]::rs.drop (d+1):=List.drop_eq_getElem_cons hlt
  have hmem:rs[d]∈rs:=List.getElem_mem hlt
  have hr:=hR.two _ hmem
  have hpos:=jQ (rs.drop (d+1)) fun x hx=>hR.two x (List.mem_of_mem_drop hx)
  have hdv: ∀k,k≤rs.length→bm (rs.drop k)∣n:=fun k=>by
   induction k with
   |zero=>intro _;rw[List.drop_zero,hR.prod];exact Nat.dvd_refl _
   |succ k ihk=>
    intro hk
    have h1:=ihk (Nat.le_of_succ_le hk)
    rw[List.drop_eq_getElem_cons hk] at h1
    exact Nat.dvd_trans (Nat.dvd_mul_left _ _) h1
  have hdv':rs[d]*bm (rs.drop (d+1))∣n:=by
   have h1:=hdv d (Nat.le_of_lt hlt)
   rw[hd] at h1
   exact h1
  have S:ez F T n rs[d] (bm (rs.drop (d+1))) w:=⟨hg,hT,tab,round,hr,hpos,hdv',hR.pos,hR.top⟩
  obtain⟨z1,E1,hz1⟩:=S.zx hM.1 hu
  have hM1:Mid F n w g (rs.drop d) z1:=by rw[hd];exact mid_step S hM hz1
  have hu1: ∀x∈z1,U x:=fun x hx=>by
   obtain⟨j,hj,rfl⟩:=List.mem_iff_getElem.1 hx
   rw[←gz hj,hz1.2 j (by rw[←hz1.1];exact hj)]
   exact hg.uE _
  obtain⟨z,E,hz,huz⟩:=ih d z1 rfl (Nat.le_of_lt hlt) hM1 hu1
  refine⟨z,fun out hout=>?_,hz,huz⟩
  have hrd:=vm hlt
  have p1:((d+1:Nat):Int)-1=(d:Int):=by omega
  have p2:(d:Int)≥0:=by omega
  have p3:(d:Int)<((iL rs).length:Int):=by rw[ll];exact Int.ofNat_lt.2 hlt
  have w1:wrap64 (((bm (rs.drop (d+1)):Nat):Int)*((rs[d]:Nat):Int))=((bm (rs.drop d):Nat):Int):=by
   rw[←Int.natCast_mul,hd]
   show wrap64 ((bm (rs.drop (d+1))*rs[d]:Nat):Int)=((rs[d]*bm (rs.drop (d+1)):Nat):Int)
   rw[Nat.mul_comm]
   exact fK (Nat.le_trans (Nat.le_of_dvd hR.pos hdv') (Nat.le_trans hR.top (by decide)))
  have hfew:=hR.xK
  have w2:wrap64 ((d:Int)-1)=(d:Int)-1:=cY _ (by omega) (by omega)
  refine bX ⟨_,fun k=>by simp only[dw.l0];rw[p1,if_pos p2,if_pos p2,if_pos p3,hrd,w1,w2],?_⟩
  exact Ev.bind E1 (E out hout)
theorem ye{F:cn}(hg:aJ F){l:List Int}(h:gD F l){rs:List Nat}(hR:qF rs l.length)(hrad:Ev (fun k=>aI.f k (l.length:Int)) (iL rs,true))(inv:Bool):Ev (fun k=>dw.f k [F] l inv) (gT F l inv,0):=by
 have h1:=h.pos
 have h2:=h.top
 have C:=hH (F:=F) (most:=1024) (lT (l:=l) (by omega))
 rw[q6 (by omega) (by omega) h.div] at C
 have G:=mu (F:=F) (l:=l) (by omega)
 rw[h.all] at G
 have R:=roots hg h1 h.div inv
 have Lf:=n6 hg (n:=(l.length:Int)) (by omega) (by omega) h.div inv
 rw[Int.toNat_natCast] at Lf
 have lt:((kZ F.p (ca F l.length inv) l.length).map (iv F.p)).length=l.length:=by rw[List.length_map,iM]
 have tab: ∀j,j<l.length→rd ((kZ F.p (ca F l.length inv) l.length).map (iv F.p)) (j:Int)=iv F.p (ca F l.length inv^j%F.p):=fun j hj=>by
  rw[gz (by omega),List.getElem_map]
  congr 1
  have:=sE (p:=F.p) (w:=ca F l.length inv) hj
  rw[gz (by rw[iM];omega)] at this
  exact this
 obtain⟨y,O,y1,y2,y3⟩:=wU hR rfl
 have hlo:=hg.lo
 have resy: ∀x∈y,0≤x∧x<F.p:=fun x hx=>by
  rcases y2 x hx with h'|h'
  ·exact h.res x h'
  ·rw[h'];omega
 have uy: ∀x∈y,U x:=fun x hx=>by
  have:=resy x hx
  have:=hg.hi
  unfold U;omega
 have M0:Mid F l.length (ca F l.length inv) (fun t=>rd y (t:Int)) (rs.drop rs.length) y:=by
  rw[List.drop_eq_nil_of_le (Nat.le_refl _)]
  refine⟨y1,fun x hx=>?_⟩
  show rd y (x:Int)=rd y ((x/1*1+0:Nat):Int)%F.p
  rw[Nat.div_one,Nat.mul_one,Nat.add_zero]
  have:=resy _ (gM (l:=y) (i:=x) (by rw[y1];exact hx))
  exact(Int.emod_eq_of_lt this.1 this.2).symm
 obtain⟨z,E,hz,uz⟩:=xZ hg hR lt tab R.Am (inv:=inv) rs.length rs.length y rfl (Nat.le_refl _) M0 uy
 have zl:z.length=l.length:=hz.1
 have zv: ∀x,x<l.length→rd z (x:Int)=cS (ca F l.length inv) (fun t=>rd l (t:Int)) l.length x%F.p:=fun x hx=>by
  have hw1:ca F l.length inv^bm rs%F.p=1:=by rw[hR.prod];exact(R.w_ord _).2 (Nat.dvd_refl _)
  have:=xa hg.one (rs:=rs) (f:=fun t=>rd l (t:Int)) (g:=fun t=>rd y (t:Int)) hw1 (fun t ht=>y3 t (by rw[←hR.prod];exact ht)) x
  rw[hR.prod] at this
  rw[hz.2 x hx,hR.prod,Nat.div_self h1,Nat.div_eq_of_lt hx,Nat.mod_eq_of_lt hx,Int.pow_succ,Int.pow_zero,Int.one_mul,←this]
  congr 2
  funext t
  rw[Nat.zero_mul,Nat.zero_add]
 have E':=E (gT F l inv,0) (by
  cases inv with
  |false=>
   refine gy Bool.false_ne_true (wV (Ev.now _) ?_)
   congr 1
   refine iJ (by rw[zl,eY]) fun i hi=>?_
   have hi':i<l.length:=by rw[eY] at hi;exact hi
   rw[jK hi',zv i hi',show cO F l.length false=1 from rfl,Int.one_mul]
  |true=>
   refine dG rfl (Ev.bind (pA hg (by omega) uz) (wV (Ev.now _) ?_))
   congr 1
   refine iJ (by rw[List.length_map,zl,eY]) fun i hi=>?_
   have hi':i<l.length:=by rw[eY] at hi;exact hi
   rw[jK hi',gz (by rw[List.length_map,zl];exact hi'),List.getElem_map,←gz (by rw[zl];exact hi'),zv i hi',zl]
   show fo F.p l.length*(cS (ca F l.length true) (fun t=>rd l (t:Int)) l.length i%F.p)%F.p=fo F.p l.length*cS (ca F l.length true) (fun t=>rd l (t:Int)) l.length i%F.p
   rw[bV])
 have hfew:=hR.xK
 have w1:wrap64 (((iL rs).length:Int)-1)=((rs.length:Nat):Int)-1:=by rw[k8];exact cY _ (by omega) (by omega)
 rw[List.drop_eq_nil_of_le (Nat.le_refl _)] at E'
 rw[←w1] at E'
 exact Ev.congr (fun k=>rfl) (kx C (dG rfl (Ev.bind hrad (dG rfl (Ev.bind G (dG rfl (Ev.bind Lf (Ev.bind O E'))))))))
theorem tl{F:cn}{l:List Int}(hn:l.length≤1000000)(inv:Bool)(h:gK F.p l.length 1024=0){L:List Int}(hR:Ev (fun k=>aI.f k (l.length:Int)) (L,false)):Ev (fun k=>dw.f k [F] l inv) ([],11):=by
 have C:=hH (F:=F) (most:=1024) (lT hn)
 rw[h] at C
 exact Ev.congr (fun k=>rfl) (kx C (dG rfl (Ev.bind hR (gy Bool.false_ne_true (Ev.now _)))))
end Go.Proofs.YtndkmnjbjlfeaaaGreat.D14
end
section
namespace Go.Proofs.YtndkmnjbjlfeaaaGreat.F06.XC
open Go Go.RowKit Go.Proofs.YtndkmnjbjlfeaaaGreat.XS Go.Proofs.YtndkmnjbjlfeaaaGreat.XT Go.Proofs.YtndkmnjbjlfeaaaGreat.XR Go.Proofs.YtndkmnjbjlfeaaaGreatW.PrintWords Go.Proofs.YtndkmnjbjlfeaaaGreatW.PrintLast Go.Proofs.YtndkmnjbjlfeaaaGreatW.PrintMore Go.Proofs.YtndkmnjbjlfeaaaGreat.Given Go.Proofs.YtndkmnjbjlfeaaaGreat.Given04 Go.Proofs.YtndkmnjbjlfeaaaGreat.M Go.Proofs.YtndkmnjbjlfeaaaGreat.Mont Go.Proofs.YtndkmnjbjlfeaaaGreat.XC
theorem xW{x3:List dA}{L:List dq}{len i P G:Int}{F:List eL}{R:List dA}(hF:F.length<8796093022208)(h3:x3.length<3518437208883)
  (E:Ev (fun k=>aG.l0 k (x3++[⟨P,G,F.map cF⟩]) L len (wrap64 (i+1))) R) (l:List eL):
  ∀j:Nat,F.drop j=l→j≤F.length→Ev (fun k=>aG.l1 k x3 ((F.take j).map cF) L len i F (F.length:Int) j P G F) R:=by
 induction l with
 |nil=>
  intro j hd hj
  have:F.length≤j:=by have:=congrArg List.length hd;simp at this;omega
  have q: ¬(j:Int)<(F.length:Int):=by omega
  rw[List.take_of_length_le this]
  refine Ev.step (fun k=>?_) E
  simp only[aG.l1]
  rw[if_neg q,if_pos h3]
 |cons x l ih=>
  intro j hd hj
  obtain⟨hx,hlt,hd'⟩:=j6 hd
  have q:(j:Int)<(F.length:Int):=by omega
  have q0:0≤(j:Int):=by omega
  have w:wrap64 ((j:Int)+1)=((j+1:Nat):Int):=by rw[cY _ (by omega) (by omega)];omega
  have ql:((F.take j).map cF).length<8796093022208:=by simp;omega
  have IH:=ih (j+1) hd' (by omega)
  have e:(F.take (j+1)).map cF=(F.take j).map cF++[⟨x.f0,x.f1⟩]:=by
   have hg:F[j]=x:=by
    rw[List.drop_eq_getElem_cons hlt] at hd
    injection hd
   rw[List.take_succ_eq_append_getElem hlt,hg,List.map_append]
   rfl
  rw[e] at IH
  refine Ev.step (fun k=>?_) IH
  simp only[aG.l1]
  rw[if_pos q,if_pos q0,if_pos q,if_pos ql,hx,w]
theorem xY{L:List dq}(hL:uV L)(l:List dq): ∀i:Nat,L.drop i=l→i≤L.length→Ev (fun k=>aG.l0 k ((L.take i).map cE) L (L.length:Int) i) (L.map cE):=by
 have h1:=hL.1
 induction l with
 |nil=>
  intro i hd hi
  have:L.length≤i:=by have:=congrArg List.length hd;simp at this;omega
  have q: ¬(i:Int)<(L.length:Int):=by omega
  rw[List.take_of_length_le this]
  refine Ev.step (fun k=>?_) (Ev.now _)
  simp only[aG.l0]
  rw[if_neg q]
 |cons x l ih=>
  intro i hd hi
  obtain⟨hx,hlt,hd'⟩:=jN hd
  have hxm:x∈L:=List.mem_of_mem_drop (show x∈L.drop i by rw[hd];exact List.mem_cons_self)
  have q:(i:Int)<(L.length:Int):=by omega
  have q0:0≤(i:Int):=by omega
  have w:wrap64 ((i:Int)+1)=((i+1:Nat):Int):=by rw[cY _ (by omega) (by omega)];omega
  have ql:((L.take i).map cE).length<3518437208883:=by simp;omega
  have IH:=ih (i+1) hd' (by omega)
  have e:(L.take (i+1)).map cE=(L.take i).map cE++[⟨x.f0,x.f1,x.f2.map cF⟩]:=by
   have hg:L[i]=x:=by
    rw[List.drop_eq_getElem_cons hlt] at hd
    injection hd
   rw[List.take_succ_eq_append_getElem hlt,hg,List.map_append]
   rfl
  rw[e,←w] at IH
  have L1:=xW (L:=L) (len:=(L.length:Int)) (i:=(i:Int)) (hL.2 x hxm) ql IH x.f2 0 rfl (Nat.zero_le _)
  refine Ev.step (fun k=>?_) L1
  simp only[aG.l0]
  rw[if_pos q,if_pos q0,if_pos q,hx]
  rfl
theorem xg{L:List dq}(hL:uV L):Ev (fun k=>aG.f k L) (L.map cE):=by
 refine Ev.congr (fun k=>?_) (xY hL L 0 rfl (Nat.zero_le _))
 unfold aG.f
 rfl
end Go.Proofs.YtndkmnjbjlfeaaaGreat.F06.XC
end
section
namespace Go.Proofs.YtndkmnjbjlfeaaaGreat.F06.XC
open Go Go.RowKit Go.Proofs.YtndkmnjbjlfeaaaGreatW.PrintWords Go.Proofs.YtndkmnjbjlfeaaaGreatW.PrintLast Go.Proofs.YtndkmnjbjlfeaaaGreatW.PrintMore Go.Proofs.YtndkmnjbjlfeaaaGreat.Given Go.Proofs.YtndkmnjbjlfeaaaGreat.M Go.Proofs.YtndkmnjbjlfeaaaGreat.Mont Go.Proofs.YtndkmnjbjlfeaaaGreat.XS Go.Proofs.YtndkmnjbjlfeaaaGreat.XT Go.Proofs.YtndkmnjbjlfeaaaGreat.XR Go.Proofs.YtndkmnjbjlfeaaaGreat.Num Go.Proofs.YtndkmnjbjlfeaaaGreat.XK Go.Proofs.YtndkmnjbjlfeaaaGreat.XC
theorem yb{L:List RE}(hL:iw L)(kind K p:Int):Ev (fun k=>bB.f k kind K p L) ([],0,0)∨ ∃F,Ev (fun k=>bB.f k kind K p L) ([F],F.p,F.g)∧aJ F:=by
 by_cases h0:kind=0
 ·subst h0
  by_cases hp:kM p
  ·obtain⟨F,E,G,e,hg⟩:=tC hp
   refine .inr ⟨F,?_,hg⟩
   rw[e]
   exact Ev.congr (fun k=>rfl) (Ev.bind ((qw (L:=L) (K:=K)).1 hp _ G) (dG rfl (Ev.bind E (Ev.now _))))
  ·exact .inl (Ev.congr (fun k=>rfl) (Ev.bind ((qw (L:=L) (K:=K)).2 hp) (dG rfl (Ev.bind (td hp) (Ev.now _)))))
 by_cases h1:kind=1
 ·subst h1
  by_cases hK:0≤K∧K≤5
  ·obtain⟨F,E,e,hg⟩:=u0 hK.1 hK.2
   refine .inr ⟨F,?_,hg⟩
   have O:=(pP (L:=L) (p:=p)).1 hK
   rw[e] at O
   exact Ev.congr (fun k=>rfl) (Ev.bind O (gy h0 (dG rfl (Ev.bind E (Ev.now _)))))
  ·exact .inl (Ev.congr (fun k=>rfl) (Ev.bind ((pP (L:=L) (p:=p)).2 hK) (gy h0 (dG rfl (Ev.bind (tG hK) (Ev.now _))))))
 have O:=wF hL (K:=K) (p:=p) h0 h1
 have R:=xg hL.1
 have E:=sc (R:=L.map cE) (by rw[sn];exact hL.2) p
 rcases zn hL p with⟨e,_,hn,e',_,ho,_⟩|⟨F,hn,ho,hg,hl⟩
 ·rw[hn] at E
  rw[ho] at O
  refine .inl (Ev.congr (fun k=>rfl) (Ev.bind O (gy h0 (gy h1 ?_))))
  by_cases hl:(L.length:Int)≤40
  ·exact dG hl (Ev.bind R (Ev.bind E (Ev.now _)))
  ·exact gy hl (Ev.now _)
 ·rw[hn] at E
  rw[ho] at O
  exact .inr ⟨F,Ev.congr (fun k=>rfl) (Ev.bind O (gy h0 (gy h1 (dG hl (Ev.bind R (Ev.bind E (Ev.now _))))))),hg⟩
end Go.Proofs.YtndkmnjbjlfeaaaGreat.F06.XC
end
