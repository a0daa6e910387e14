/- Parts of this claim's texts, packed by wip/tools/prune.py: what the proof does not reach is left out. -/
import Derived.Test.YtndkmnjbjlfeaaaGreatPCt14
import Derived.Maps.OwnOps
import Derived.StillTailTactics
import Derived.WideKeyPair
section
namespace Go.Proofs.YtndkmnjbjlfeaaaGreat.XC
open Go Go.RowKit Go.Maps Go.Proofs.YtndkmnjbjlfeaaaGreatW.PrintWords Go.Proofs.YtndkmnjbjlfeaaaGreatW.PrintLast Go.Proofs.YtndkmnjbjlfeaaaGreatW.PrintMore Go.Proofs.YtndkmnjbjlfeaaaGreat.Given Go.Proofs.YtndkmnjbjlfeaaaGreat.M Go.Proofs.YtndkmnjbjlfeaaaGreat.Mont Go.Proofs.YtndkmnjbjlfeaaaGreat.XS Go.Proofs.YtndkmnjbjlfeaaaGreat.XT Go.Proofs.YtndkmnjbjlfeaaaGreat.XR Go.Proofs.YtndkmnjbjlfeaaaGreat.F06 Go.Proofs.YtndkmnjbjlfeaaaGreat.XM
set_option linter.unusedVariables false
def jm(x:Int):Prop:= -9223372036854775808≤x∧x≤9223372036854775807
instance (x:Int):Decidable (jm x):=by unfold jm;infer_instance
def gA:List (Int×Int×Int)→Int→Int→Int
 |[],_,_=>0
 |e::t,i,j=>if e.1=i∧e.2.1=j then e.2.2 else gA t i j
theorem jm.wf{x:Int}(h:jm x):(Lit.int .i64 x).wf=true:=by
 unfold jm at h
 simp[Lit.wf,IntKind.min,IntKind.max,IntKind.bits,IntKind.signed]
 omega
theorem vK(x:Int):jm (IntKind.i64.wrap x):=by
 unfold jm
 simp only[bp]
 unfold wrap64
 omega
theorem sK:WideMaps.ArrKey Tryz.prog 164 3 2:=⟨Tryz.underlying164,by kernel_rfl,by kernel_rfl,by kernel_rfl⟩
theorem lE:Keyed Tryz.prog 164:=Keyed.of_law sK.law
theorem vL: ∃m,Tryz.prog.types.size=m+1:=⟨Tryz.prog.types.size-1,by kernel_rfl⟩
abbrev kl (i j:Int):Lit:= .string (keyBytes [.int .i64 i, .int .i64 j])
theorem kF{i j:Int}(hi:jm i)(hj:jm j):keyOf Tryz.prog 164 (.agg #[.int .i64 i, .int .i64 j])=some (kl i j):=WideMaps.keyOf_pair sK Tryz.underlying3 vL hi.wf hj.wf
theorem Ak{i j i' j':Int}(hi:jm i)(hj:jm j)(hi':jm i')(hj':jm j')(h: ¬(i=i'∧j=j')):kl i' j'≠kl i j:=by
 intro e
 have h1:=kF hi hj
 have h2:=kF hi' hj'
 rw[e] at h2
 have:=lE.inj h1 h2
 injection this with this
 have:=congrArg Array.toList this
 simp at this
 exact h this
def iP(w:World)(b:Nat)(M:List (Int×Int×Int)):Prop:=
 ∃(D:DataW Value) (n:Nat),w.ownsMap Tryz.prog 164 (plainElem Tryz.prog 3) b n D∧n≤M.length∧ ∀i j,jm i→jm j→D.atKey (kl i j) (.lit (.int .i64 0))= .lit (.int .i64 (gA M i j))
theorem iP.lt{w:World}{b:Nat}{M:List (Int×Int×Int)}(h:iP w b M):b<w.heap.size:=by
 obtain⟨D,n,ho,_⟩:=h
 exact ho.lt
theorem iP.made(w:World):iP (w.alloc (.map #[] 0)) w.heap.size []:=⟨_,0,World.ownsMap_made w _ _ _,Nat.le_refl _,fun _ _ _ _=>rfl⟩
theorem iP.grown{w w':World}{b:Nat}{M:List (Int×Int×Int)}{row:Option Nat}(h:iP w b M)(hg:w.grownBy w' row)(hne:some b≠row):iP w' b M:=by
 obtain⟨D,n,ho,hn,hh⟩:=h
 exact⟨D,n,ho.kept hg hne,hn,hh⟩
theorem iP.put{w w':World}{b n:Nat}{D:DataW Value}{M:List (Int×Int×Int)}{i j v:Int}(ho:w.ownsMap Tryz.prog 164 (plainElem Tryz.prog 3) b n D)(hn:n≤M.length)
  (hh: ∀i j,jm i→jm j→D.atKey (kl i j) (.lit (.int .i64 0))= .lit (.int .i64 (gA M i j))) (hi:jm i) (hj:jm j)
  (ho':w'.ownsMap Tryz.prog 164 (plainElem Tryz.prog 3) b (n+1) (D.put (kl i j) (.lit (.int .i64 v)))):iP w' b ((i,j,v)::M):=by
 refine⟨_,n+1,ho',by simpa using hn,fun i' j' hi' hj'=>?_⟩
 by_cases c:i=i'∧j=j'
 ·obtain⟨rfl,rfl⟩:=c
  rw[Maps.atKey_put_same ho.isMap (show WideAt.IsKeyLit (kl i j) from trivial)]
  simp[gA]
 ·rw[Maps.atKey_put_other (Ak hi hj hi' hj' c),hh i' j' hi' hj']
  have e:gA ((i,j,v)::M) i' j'=gA M i' j':=by
   show(if i=i'∧j=j' then v else gA M i' j')=_
   rw[if_neg c]
  rw[e]
theorem Ab(w:World):(zeroValue 3).run Tryz.prog w= .ok (.int .i64 0) w:=by kernel_rfl
theorem iP.look{w:World}{b:Nat}{M:List (Int×Int×Int)}{i j:Int}(h:iP w b M)(hi:jm i)(hj:jm j):
  (Instr.lookup 162 (.map (some b)) (.agg #[.int .i64 i, .int .i64 j]) false).run Tryz.prog w= .ok (.int .i64 (gA M i j)) w:=by
 obtain⟨D,n,ho,hn,hh⟩:=h
 obtain⟨c,hrun,hat,_⟩:=ho.lookup_int lE Tryz.underlying162 Tryz.underlying3 (Ab w) (kF hi hj)
 rw[hh i j hi hj] at hat
 have e:gA M i j=c:=(Lit.int.inj (DataW.lit.inj hat)).2
 rw[e];exact hrun
mutual
noncomputable def ax.l0:Nat→Int→Int→Int→List (Int×Int×Int)→Int→Option (List Int)
 |0,_,_,_,_,_=>none
 |k+1,a,b,n,M,x26=>if x26<a then ax.l1 k a b n M x26 0 else if 0≤n∧n≤1024 then ax.l2 k a b (n.toNat:Int) M (List.replicate n.toNat 0) 0 else none
noncomputable def ax.l1:Nat→Int→Int→Int→List (Int×Int×Int)→Int→Int→Option (List Int)
 |0,_,_,_,_,_,_=>none
 |k+1,a,b,n,M,x26,x30=>if x30<b then(if M.length<17592186044416∧jm x26∧jm x30 then ax.l1 k a b n ((x26,x30,wrap64 (wrap64 (x26*b)+x30))::M) x26 (wrap64 (x30+1)) else none) else ax.l0 k a b n M (wrap64 (x26+1))
noncomputable def ax.l2:Nat→Int→Int→Int→List (Int×Int×Int)→List Int→Int→Option (List Int)
 |0,_,_,_,_,_,_=>none
 |k+1,a,b,L,M,out,x48=>if x48<L then(if(a≠0∧b≠0)∧(0≤x48∧x48<(out.length:Int))∧jm (Int.tmod x48 a)∧jm (Int.tmod x48 b) then ax.l2 k a b L M (out.set x48.toNat (gA M (Int.tmod x48 a) (Int.tmod x48 b))) (wrap64 (x48+1)) else none) else some out
end
noncomputable def ax.f(k:Nat)(a b:Int):Option (List Int):=(cV.f a b).bind fun s=>if s=true then((bo.f k (wrap64 (a*b)) a).bind fun t=>if t=true then ax.l0 k a b (wrap64 (a*b)) [] 0 else some []) else some []
theorem ax.fk: ∀k,(∀y0 y1 y2 y3 y4,cW (ax.l0 k y0 y1 y2 y3 y4) (ax.l0 (k+1) y0 y1 y2 y3 y4))∧(∀y0 y1 y2 y3 y4 y5,cW (ax.l1 k y0 y1 y2 y3 y4 y5) (ax.l1 (k+1) y0 y1 y2 y3 y4 y5))∧(∀y0 y1 y2 y3 y4 y5,cW (ax.l2 k y0 y1 y2 y3 y4 y5) (ax.l2 (k+1) y0 y1 y2 y3 y4 y5))
 |0=>⟨fun _ _ _ _ _ r h=>by simp[ax.l0] at h,fun _ _ _ _ _ _ r h=>by simp[ax.l1] at h,fun _ _ _ _ _ _ r h=>by simp[ax.l2] at h⟩
 |k+1=>by
  obtain⟨ih0,ih1,ih2⟩:=ax.fk k
  refine⟨?_,?_,?_⟩
  ·intro y0 y1 y2 y3 y4
   unfold ax.l0
   exact cW.ite (ih1 _ _ _ _ _ _) (cW.ite (ih2 _ _ _ _ _ _) (cW.refl _))
  ·intro y0 y1 y2 y3 y4 y5
   unfold ax.l1
   exact cW.ite (cW.ite (ih1 _ _ _ _ _ _) (cW.refl _)) (ih0 _ _ _ _ _)
  ·intro y0 y1 y2 y3 y4 y5
   unfold ax.l2
   exact cW.ite (cW.ite (ih2 _ _ _ _ _ _) (cW.refl _)) (cW.refl _)
theorem ax.mono: ∀a0 a1 k,cW (ax.f k a0 a1) (ax.f (k+1) a0 a1):=by
 intro a0 a1 k
 unfold ax.f
 exact cW.bind (cW.refl _) fun _=>cW.ite (cW.bind (bo.mono _ _ _) fun _=>cW.ite ((ax.fk k).1 _ _ _ _ _) (cW.refl _)) (cW.refl _)
set_option maxHeartbeats 8000000 in
set_option maxRecDepth 100000 in
theorem ax.calls(k:Nat)(a0:Int)(a1:Int)(r:List Int)(w:World)(h:ax.f k a0 a1=some r):
  Calls Tryz.prog 83 #[.int .i64 a0, .int .i64 a1] w fun e w'=> ∃v0_:Value,e= .returned (v0_)∧Kd.R (Kd.int .i64) 3 w' w.heap.size (fun _=>True) v0_ r∧Below w.heap.size w w':=by
 have HB:=aa.mk (Below.refl w.heap.size w)
 unfold ax.f at h
 obtain⟨s,hs,h⟩:=Option.bind_eq_some_iff.mp h
 have HS:=aa.mk hs
 clear hs
 obtain⟨n9,hn9⟩: ∃z_:Int,wrap64 (a0*a1)=z_:=⟨_,rfl⟩
 have hn9v:IntKind.i64.wrap (a0*a1)=n9:=by simp only[bp];exact hn9
 rw[hn9] at h
 cases s with
 |false=>
  rw[if_neg Bool.false_ne_true] at h
  obtain rfl:=Option.some.inj h
  clear h
  go_enter Tryz.func83,Tryz.ntmps83
  go_wp2_with (first|(go_at_call 113;(with_reducible refine(cV.calls a0 a1 false _ HS.out).mono ?_);rintro e w' ⟨rfl,⟨nd,rfl⟩⟩))
  go_ret
  exact⟨_,rfl,Kd.fW _ _ _ _ _,by repeat(first|exact HB.out|apply ay|apply bs)⟩
 |true=>
  rw[if_pos rfl] at h
  obtain⟨t,ht,h⟩:=Option.bind_eq_some_iff.mp h
  have HT:=aa.mk ht
  clear ht
  cases t with
  |false=>
   rw[if_neg Bool.false_ne_true] at h
   obtain rfl:=Option.some.inj h
   clear h
   go_enter Tryz.func83,Tryz.ntmps83
   go_wp2_with (first
    |(go_at_call 113;(with_reducible refine(cV.calls a0 a1 true _ HS.out).mono ?_);rintro e w' ⟨rfl,⟨nd,rfl⟩⟩)
    |(go_at_call 84;(with_reducible refine(bo.calls k n9 a0 false _ HT.out).mono ?_);rintro e w' ⟨rfl,⟨nd2,rfl⟩⟩))
   go_ret
   exact⟨_,rfl,Kd.fW _ _ _ _ _,by repeat(first|exact HB.out|apply ay|apply bs)⟩
  |true=>
   rw[if_pos rfl] at h
   have H':=aa.mk h
   clear h
   have hmm:= @run_makeMap Tryz.prog
   go_enter Tryz.func83,Tryz.ntmps83
   go_wp2_with (first
    |(go_at_call 113;(with_reducible refine(cV.calls a0 a1 true _ HS.out).mono ?_);rintro e w' ⟨rfl,⟨nd,rfl⟩⟩)
    |(go_at_call 84;(with_reducible refine(bo.calls k n9 a0 true _ HT.out).mono ?_);rintro e w' ⟨rfl,⟨nd2,rfl⟩⟩))
   clear hmm
   go_loopg [26] k (fun kq v26 w'=> ∃(M:List (Int×Int×Int)) (x26:Int),v26= .int .i64 x26∧aa (ax.l0 kq a0 a1 n9 M x26=some r)∧aa (kq≤k)∧aa (iP w' w.heap.size M)∧aa (Below w.heap.size w w'))
   case atStart=>exact⟨[],0,rfl,H',⟨Nat.le_refl _⟩,⟨iP.made ((w.drewN nd).drewN nd2)⟩,⟨aQ (by repeat(first|exact HB.out|apply ay|apply bs)) _⟩⟩
   case round=>
    clear H' HB
    obtain⟨M,x26,rfl,HA,HK1,HM,HB⟩:=hrel
    cases gk with
    |zero=>exact absurd HA.out (by simp[ax.l0])
    |succ k1=>
     have H:=HA.out
     clear HA
     simp only[ax.l0] at H
     by_cases c1:x26<a0
     ·rw[if_pos c1] at H
      have c1b:decide (x26<a0)=true:=decide_eq_true c1
      have H':=aa.mk H
      clear H c1
      go_wp2
      go_loopg [30] k1 (fun kq v30 w'=> ∃(M:List (Int×Int×Int)) (x30:Int),v30= .int .i64 x30∧aa (ax.l1 kq a0 a1 n9 M x26 x30=some r)∧aa (kq≤k1)∧aa (iP w' w.heap.size M)∧aa (Below w.heap.size w w'))
      case atStart=>exact⟨M,0,rfl,H',⟨Nat.le_refl _⟩,HM,HB⟩
      case round=>
       clear H' HM HB c1b
       obtain⟨M,x30,rfl,HA,HK2,HM,HB⟩:=hrel
       cases gk with
       |zero=>exact absurd HA.out (by simp[ax.l1])
       |succ k2=>
        have H:=HA.out
        clear HA
        simp only[ax.l1] at H
        by_cases c2:x30<a1
        ·rw[if_pos c2] at H
         have c2b:decide (x30<a1)=true:=decide_eq_true c2
         clear c2
         by_cases c3:M.length<17592186044416∧jm x26∧jm x30
         ·rw[if_pos c3] at H
          obtain⟨u9,hu9⟩: ∃z_:Int,wrap64 (x26*a1)=z_:=⟨_,rfl⟩
          have hu9v:IntKind.i64.wrap (x26*a1)=u9:=by simp only[bp];exact hu9
          obtain⟨s9,hs9⟩: ∃z_:Int,wrap64 (u9+x30)=z_:=⟨_,rfl⟩
          have hs9v:IntKind.i64.wrap (u9+x30)=s9:=by simp only[bp];exact hs9
          have HWS:aa (jm s9):=⟨by rw[←hs9v];exact vK _⟩
          rw[hu9,hs9] at H
          have H':=aa.mk H
          have HC:=aa.mk c3
          clear H c3
          go_wp2_with (first|(at_mapUpdate;obtain⟨D,n,ho,hn,hh⟩:=HM.out;have HN:=aa.mk hn;have HH:=aa.mk hh;have HOO:=aa.mk ho;(refine wpList_mapUpdate_own _ rfl _ _ _ 162 rfl 164 3 lE Tryz.underlying162 (plainElem Tryz.prog 3) w.heap.size n D rfl ho ?hnmax _ _ (kl x26 x30) rfl rfl (kF HC.out.2.1 HC.out.2.2) (.lit (.int .i64 s9)) [] (plainElem_int Tryz.underlying3 HWS.out.wf) ?_);(case hnmax=>have:=HC.out.1;unfold maxLen;omega);intro w5 ho5 hg5;have HM5:=aa.mk (iP.put (M:=M) HOO.out HN.out HH.out HC.out.2.1 HC.out.2.2 ho5);have HB5:aa (Below w.heap.size w w5):=⟨HB.out.grown hg5 HB.out.size (fun q e=>by cases e;exact Nat.le_refl _)⟩;clear ho hn hh ho5 hg5))
          go_roundg k2
          case measure=>have:=HK1.out;have:=HK2.out;omega
          case rel=>exact⟨((x26,x30,s9)::M),(wrap64 (x30+1)),(by first|rfl|(simp;done)|(simp[*];done)),H',⟨by have:=HK2.out;omega⟩,HM5,HB5⟩
         ·rw[if_neg c3] at H
          cases H
        ·rw[if_neg c2] at H
         have c2b:decide (x30<a1)=false:=decide_eq_false c2
         have H':=aa.mk H
         clear H c2
         go_wp2
         go_roundg k2
         case measure=>have:=HK1.out;have:=HK2.out;omega
         case rel=>exact⟨M,(wrap64 (x26+1)),(by first|rfl|(simp;done)|(simp[*];done)),H',⟨by have:=HK1.out;have:=HK2.out;omega⟩,HM,HB⟩
     ·rw[if_neg c1] at H
      have c1b:decide (x26<a0)=false:=decide_eq_false c1
      by_cases c:0≤n9∧n9≤1024
      ·rw[if_pos c] at H
       have H':=aa.mk H
       have HC:=aa.mk c
       clear H c c1
       obtain⟨y9,hy9⟩: ∃y_:List Int,y_=(List.replicate n9.toNat 0):=⟨_,rfl⟩
       have HY:aa (y9.length=n9.toNat):=⟨by rw[hy9];exact List.length_replicate⟩
       have Ny:=aa.mk hy9
       clear hy9
       go_wp2_with (first|((with_reducible refine bk (N:=45) rfl ?_);refine Kd.jc (Kd.int .i64) _ 3 rfl (N:=45) rfl 98 _ _ rfl n9 rfl rfl Tryz.underlying98 (.int .i64 0) 8 pj rfl (by decide) (by omega) 0 (ok:=fun _=>True) (okp:=fun _=>True) rfl (fun _ hk=>hk) trivial HC.out.1 (by have:=HC.out;omega) (Below.refl _ _) (Nat.le_refl _) ?_;intro v147 w11 ho12 hb hg_ hnew_;clear hg_ hnew_;rw[←Ny.out] at ho12;have n0_:aa (Kd.R (Kd.int .i64) 3 w11 w.heap.size (fun k=>k≠w.heap.size) v147 y9):=⟨Kd.bN (Kd.bE (Kd.eB ho12) fun k hk=>by have:=hk.2.1;have:=HM.out.lt;omega) HB.out.size⟩;have n1_:aa (iP w11 w.heap.size M):=⟨HM.out.grown (row:=none) ⟨hb.os,hb.tape,hb.output,hb.size,fun k hk _=>hb.block k hk⟩ (by simp)⟩;have n2_:aa (Below w.heap.size w w11):=⟨ah HB.out hb⟩;clear HB HM;have HO:=n0_;have HM:=n1_;have HB:=n2_;clear n0_ n1_ n2_;clear hb ho12;obtain⟨Ao,co,eo⟩:=Kd.cb HO.out;subst eo))
       rw[←Ny.out] at H'
       rw[←HY.out] at H'
       go_loopg [48] k1 (fun kq v48 w'=> ∃(out:List Int) (x48:Int),v48= .int .i64 x48∧aa (ax.l2 kq a0 a1 (y9.length:Int) M out x48=some r)∧aa (kq≤k1)∧aa (out.length=y9.length)∧aa (Kd.R (Kd.int .i64) 3 w' w.heap.size (fun k=>k≠w.heap.size) (.slice Ao y9.length co) out)∧aa (iP w' w.heap.size M)∧aa (Below w.heap.size w w'))
       case atStart=>exact⟨y9,0,rfl,H',⟨Nat.le_refl _⟩,⟨rfl⟩,HO,HM,HB⟩
       case round=>
        clear H' HO HM HB c1b
        obtain⟨out,x48,rfl,HA,HK2,HLn,HO,HM,HB⟩:=hrel
        cases gk with
        |zero=>exact absurd HA.out (by simp[ax.l2])
        |succ k2=>
         have H:=HA.out
         clear HA
         simp only[ax.l2] at H
         by_cases c2:x48<(y9.length:Int)
         ·rw[if_pos c2] at H
          have c2b:decide (x48<(y9.length:Int))=true:=decide_eq_true c2
          by_cases c3:(a0≠0∧a1≠0)∧(0≤x48∧x48<(out.length:Int))∧jm (Int.tmod x48 a0)∧jm (Int.tmod x48 a1)
          ·rw[if_pos c3] at H
           have H':=aa.mk H
           clear H
           obtain⟨⟨d0,d1⟩,⟨p20,q20⟩,hwa,hwb⟩:=c3
           have d0b:(a0==0)=false:=beq_eq_false_iff_ne.mpr d0
           have d1b:(a1==0)=false:=beq_eq_false_iff_ne.mpr d1
           obtain⟨m0,hm0⟩: ∃z_:Int,Int.tmod x48 a0=z_:=⟨_,rfl⟩
           obtain⟨m1,hm1⟩: ∃z_:Int,Int.tmod x48 a1=z_:=⟨_,rfl⟩
           rw[hm0] at hwa H'
           rw[hm1] at hwb H'
           obtain⟨go20,co20,eo20,gb20,gl20,cl20,HG20⟩:=Kd.fY HO.out (by omega)
           (first|cases eo20|(injection eo20 with ea_ en_ ec_;(first|subst ea_|(injection ea_ with ea_;subst ea_));subst ec_;clear en_))
           have GB20:=aa.mk gb20
           clear gb20 gl20 HG20
           have GN:=aa.mk (HO.out.1 _ rfl)
           have hlk:(Instr.lookup 162 (.map (some w.heap.size)) (.agg #[.int .i64 m0, .int .i64 m1]) false).run Tryz.prog wr.drew= .ok (.int .i64 (gA M m0 m1)) wr.drew:=iP.look (HM.out.grown (row:=none) ⟨rfl,rfl,rfl,Nat.le_refl _,fun _ _ _=>rfl⟩ (by simp)) hwa hwb
           have n0_:aa (Kd.R (Kd.int .i64) 3 wr.drew w.heap.size (fun k=>k≠w.heap.size) (.slice (some ⟨go20,0,none⟩) y9.length co) out):=⟨by first|exact Kd.bM HO.out|exact HO.out⟩
           have n1_:aa (iP wr.drew w.heap.size M):=⟨HM.out.grown (row:=none) ⟨rfl,rfl,rfl,Nat.le_refl _,fun _ _ _=>rfl⟩ (by simp)⟩
           have n2_:aa (Below w.heap.size w wr.drew):=⟨by repeat(first|exact HB.out|apply ay|apply bs)⟩
           clear HO HM HB
           have HO:=n0_
           have HM:=n1_
           have HB:=n2_
           clear n0_ n1_ n2_
           obtain⟨y8,hy8⟩: ∃y_:List Int,y_=out.set x48.toNat (gA M m0 m1):=⟨_,rfl⟩
           rw[←hy8] at H'
           have Ny8:=aa.mk hy8
           clear hy8
           have C2:=aa.mk c2
           have P20:=aa.mk p20
           clear c2 q20 hwa hwb p20
           go_wp2
           go_still_tail 11,(by kernel_rfl)
           change wpList _ _ _ _ _ wr.drew
           generalize wr.drew=w2 at hlk HO HM HB
           obtain⟨hx20_0,hf20_0⟩:=Kd.eE 0 HO.out x48 P20.out C2.out
           have HP22:=Kd.iF HO.out x48 (gA M m0 m1)
           have p20b:=eq_true P20.out
           have q20b:=eq_true C2.out
           go_wp2_with (first|((with_reducible refine eQ (t:=3) (p:=62) rfl ?_);refine eC (t:=3) (p:=62) (v:=?vo_w23) (w1:=(w2.setCell ⟨go20,x48.toNat,none⟩ (.int .i64 (gA M m0 m1)))) ?hg ?ho ?hn ?hr ?_;(case ho=>rfl);(case hg=>rfl);(case hn=>rfl);(case hr=>first|(go_simp;done)|(go_simp;rfl));intro w23 hw;have hg:w2.grownBy w23 (some go20):=(by rw[hw];exact HP22.2);have n0_:aa (Kd.R (Kd.int .i64) 3 w23 w.heap.size (fun k=>k≠w.heap.size) (.slice (some ⟨go20,0,none⟩) y9.length co) y8):=⟨by rw[hw,Ny8.out];exact HP22.1⟩;clear HP22;have n1_:aa (iP w23 w.heap.size M):=⟨HM.out.grown hg (fun e=>GN.out (by injection e with e;exact e.symm))⟩;have n2_:aa (Below w.heap.size w w23):=⟨by rw[hw];exact cg HB.out GB20.out⟩;clear HO HM HB hg hw hlk hx20_0 hf20_0;have HO:=n0_;have HM:=n1_;have HB:=n2_;clear n0_ n1_ n2_))
           have HL8:aa (y8.length=y9.length):=⟨by rw[Ny8.out,List.length_set];exact HLn.out⟩
           go_roundg k2
           case measure=>have:=HK1.out;have:=HK2.out;omega
           case rel=>exact⟨y8,(wrap64 (x48+1)),(by first|rfl|(simp;done)|(simp[*];done)),H',⟨by have:=HK2.out;omega⟩,HL8,HO,HM,HB⟩
          ·rw[if_neg c3] at H
           cases H
         ·rw[if_neg c2] at H
          have c2b:decide (x48<(y9.length:Int))=false:=decide_eq_false c2
          obtain rfl:=Option.some.inj H
          clear H c2
          go_wp2
          go_ret
          exact⟨_,rfl,Kd.bE HO.out (fun _ _=>trivial),HB.out⟩
      ·rw[if_neg c] at H
       cases H
end Go.Proofs.YtndkmnjbjlfeaaaGreat.XC
end
section
namespace Go.Proofs.YtndkmnjbjlfeaaaGreat.XE
open Go.RowKit Go.Proofs.YtndkmnjbjlfeaaaGreat.Given Go.Proofs.YtndkmnjbjlfeaaaGreat.Row05 Go.Proofs.YtndkmnjbjlfeaaaGreat.XS Go.Proofs.YtndkmnjbjlfeaaaGreat.XT Go.Proofs.YtndkmnjbjlfeaaaGreat.XR Go.Proofs.YtndkmnjbjlfeaaaGreat.F06 Go.Proofs.YtndkmnjbjlfeaaaGreat.XK Go.Proofs.YtndkmnjbjlfeaaaGreat.XW Go.Proofs.YtndkmnjbjlfeaaaGreat.XG Go.Proofs.YtndkmnjbjlfeaaaGreat.XM Go.Proofs.YtndkmnjbjlfeaaaGreat.XC Go.Proofs.YtndkmnjbjlfeaaaGreatW.PrintWords Go.Proofs.YtndkmnjbjlfeaaaGreatW.PrintLast Go.Proofs.YtndkmnjbjlfeaaaGreatW.PrintMore
attribute [local go_sem] bU bS ct cr bw bz bP bT
set_option linter.unusedVariables false
set_option linter.unusedSimpArgs false
noncomputable def bZ.f(k:Nat):Option (Bool):=(aZ.f k 2 3).bind fun t101=>((aH.f k t101 (([0,2,4,3,5,1]:List Int))).bind fun t107=>(if t107=true then((ax.f k 2 3).bind fun t108=>((aH.f k t108 (([0,4,2,3,1,5]:List Int))).bind fun t114=>(if t114=true then((bo.f k 6 2).bind fun t115=>(some t115)) else(none)))) else(none)))
theorem bZ.mono: ∀k,cW (bZ.f k) (bZ.f (k+1)):=by
 intro k
 unfold bZ.f
 repeat' first
   |(with_reducible exact bo.mono _ _ _)
   |(with_reducible exact aZ.mono _ _ _)
   |(with_reducible exact ax.mono _ _ _)
   |(with_reducible exact aH.mono _ _ _)
   |(with_reducible exact cW.refl _)
   |(with_reducible exact cW.none _)
   |(with_reducible refine cW.ite ?_ ?_)
   |(with_reducible refine cW.bind ?_ (fun _=>?_))
set_option maxHeartbeats 8000000 in
set_option maxRecDepth 100000 in
theorem bZ.calls(k:Nat)(r:Bool)(w:World)(h:bZ.f k=some r):
  Calls Tryz.prog 43 #[] w fun e w'=>e= .returned (.bool r)∧Below w.heap.size w w':=by
 have HB:=aa.mk (Below.refl w.heap.size w)
 have H:=h;unfold bZ.f at H
 clear h
 replace H:=Option.bind_eq_some_iff.mp H
 obtain⟨t101,A10,H⟩:=H
 (try dsimp only at H)
 have A1:=aa.mk A10
 clear A10
 obtain⟨y104,hy104⟩: ∃y_:List Int,y_=(([0,2,4,3,5,1]:List Int)):=⟨_,rfl⟩
 replace H:((aH.f k t101 y104).bind fun t107=>(if t107=true then((ax.f k 2 3).bind fun t108=>((aH.f k t108 (([0,4,2,3,1,5]:List Int))).bind fun t114=>(if t114=true then((bo.f k 6 2).bind fun t115=>(some t115)) else(none)))) else(none)))=some r:=by first|(rw[hy104];with_reducible exact H)|(have H2_:=(Option.bind_some _ _).symm.trans H;rw[hy104];with_reducible exact H2_)|(have H2_:=(Option.bind_some _ _).symm.trans H;with_reducible exact H2_)|with_reducible exact H|(rw[hy104];exact H)|exact H
 have Ny104:=aa.mk hy104
 clear hy104
 replace H:=Option.bind_eq_some_iff.mp H
 obtain⟨t107,A20,H⟩:=H
 (try dsimp only at H)
 have A2:=aa.mk A20
 clear A20
 by_cases c3:t107=true
 ·subst c3
  have H1:=H;rw[if_pos rfl] at H1
  clear H
  have H:=H1
  clear H1
  replace H:=Option.bind_eq_some_iff.mp H
  obtain⟨t108,A40,H⟩:=H
  (try dsimp only at H)
  have A4:=aa.mk A40
  clear A40
  obtain⟨y111,hy111⟩: ∃y_:List Int,y_=(([0,4,2,3,1,5]:List Int)):=⟨_,rfl⟩
  replace H:((aH.f k t108 y111).bind fun t114=>(if t114=true then((bo.f k 6 2).bind fun t115=>(some t115)) else(none)))=some r:=by first|(rw[hy111];with_reducible exact H)|(have H2_:=(Option.bind_some _ _).symm.trans H;rw[hy111];with_reducible exact H2_)|(have H2_:=(Option.bind_some _ _).symm.trans H;with_reducible exact H2_)|with_reducible exact H|(rw[hy111];exact H)|exact H
  have Ny111:=aa.mk hy111
  clear hy111
  replace H:=Option.bind_eq_some_iff.mp H
  obtain⟨t114,A50,H⟩:=H
  (try dsimp only at H)
  have A5:=aa.mk A50
  clear A50
  by_cases c6:t114=true
  ·subst c6
   have H1:=H;rw[if_pos rfl] at H1
   clear H
   have H:=H1
   clear H1
   replace H:=Option.bind_eq_some_iff.mp H
   obtain⟨t115,A70,H⟩:=H
   (try dsimp only at H)
   have A7:=aa.mk A70
   clear A70
   obtain rfl:=Option.some.inj H
   go_enter Tryz.func43,Tryz.ntmps43
   go_wp2_with (first|(refine fh 1 Tryz.func82 #[.int .i64 2, .int .i64 3] rfl ?_;(with_reducible refine(aZ.calls k 2 3 t101 _ A1.out).mono ?_);rintro e w8 ⟨v102,rfl,ho0,hb⟩;refine⟨_,rfl,?_⟩;have n0_:=aa.mk (Kd.bN ho0 (ai ak));have n1_:=aa.mk (ah ak hb);clear HB;have HO103:=n0_;have HB:=n1_;clear n0_ n1_;(try clear ho0))|((with_reducible refine bk (N:=2) rfl ?_);(try(refine fq (by rfl) ?_;dsimp only));refine Kd.vR (Kd.int .i64) _ 3 ?hg (N:=2) ?hd (xs:=([0,2,4,3,5,1]:List Int)) (inner:=[.int .i64 0, .int .i64 2, .int .i64 4, .int .i64 3, .int .i64 5, .int .i64 1]) (ok:=fun _=>True) (okp:=fun _=>True) ?hr ?hp (fun _ hk=>hk) trivial (Below.refl _ _) (Nat.le_refl _) (by simp) ?_;(case hd=>rfl);(case hg=>rfl);(case hr=>first|(go_simp;done)|(go_simp;rfl));(case hp=>exact(cI.one (show Kd.M (Kd.int .i64) _ _ _ 0 [.int .i64 0] from rfl) (cI.one (show Kd.M (Kd.int .i64) _ _ _ 2 [.int .i64 2] from rfl) (cI.one (show Kd.M (Kd.int .i64) _ _ _ 4 [.int .i64 4] from rfl) (cI.one (show Kd.M (Kd.int .i64) _ _ _ 3 [.int .i64 3] from rfl) (cI.one (show Kd.M (Kd.int .i64) _ _ _ 5 [.int .i64 5] from rfl) (cI.one (show Kd.M (Kd.int .i64) _ _ _ 1 [.int .i64 1] from rfl) (cI.none _ _))))))));intro v105 w9 ho10 hb hg_ hnew_;clear hg_ hnew_;(first|rw[←Ny104.out] at ho10|(simp only[Int.reduceToNat] at ho10;rw[←Ny104.out] at ho10));have n0_:=aa.mk (Kd.dm (bK HO103.out) (Kd.dS ho10) hb);have n1_:=aa.mk (Kd.bN (Kd.eD ho10 (Kd.ik (bK HO103.out))) (ai ak));have n2_:=aa.mk (ah ak hb);clear HO103;clear HB;have HO103:=n0_;have HO106:=n1_;have HB:=n2_;clear n0_ n1_ n2_;clear hb ho10;obtain⟨Ao11,co11,eo11⟩:=Kd.cb HO103.out;subst eo11;obtain⟨Ao12,co12,eo12⟩:=Kd.cb HO106.out;subst eo12)|(refine fh 3 Tryz.func81 #[.slice Ao11 t101.length co11, .slice Ao12 y104.length co12] rfl ?_;(with_reducible refine(aH.calls k _ _ t101 _ _ y104 true _ ?side1 ?side2 ?side3 ?side4 A2.out).mono ?_);(case side1=>repeat(first|exact(Kd.aT HO103.out).2.2|(with_reducible refine Kd.dB ?_ _)|(with_reducible refine Kd.dQ ?_ _)|(with_reducible refine Kd.eX ?_)));(case side2=>exact(Kd.aT HO103.out).2.1);(case side3=>repeat(first|exact(Kd.aT HO106.out).2.2|(with_reducible refine Kd.dB ?_ _)|(with_reducible refine Kd.dQ ?_ _)|(with_reducible refine Kd.eX ?_)));(case side4=>exact(Kd.aT HO106.out).2.1);rintro e w' ⟨rfl,⟨nd,rfl⟩⟩;refine⟨_,rfl,?_⟩)|(go_at_call 83;(with_reducible refine(ax.calls k 2 3 t108 _ A4.out).mono ?_);rintro e w13 ⟨v109,rfl,ho0,hb⟩;have n0_:=aa.mk (Kd.dm (bK HO103.out) (Kd.dS ho0) hb);have n1_:=aa.mk (Kd.dm (bK HO106.out) (Kd.dS ho0) hb);have n2_:=aa.mk (Kd.bN (Kd.eD (Kd.eD ho0 (Kd.ik (bK HO103.out))) (Kd.ik (bK HO106.out))) (ai ak));have n3_:=aa.mk (ah ak hb);clear HO103;clear HO106;clear HB;have HO103:=n0_;have HO106:=n1_;have HO110:=n2_;have HB:=n3_;clear n0_ n1_ n2_ n3_;(try clear ho0))|((with_reducible refine bk (N:=6) rfl ?_);(try(refine fq (by rfl) ?_;dsimp only));refine Kd.vR (Kd.int .i64) _ 3 ?hg (N:=6) ?hd (xs:=([0,4,2,3,1,5]:List Int)) (inner:=[.int .i64 0, .int .i64 4, .int .i64 2, .int .i64 3, .int .i64 1, .int .i64 5]) (ok:=fun _=>True) (okp:=fun _=>True) ?hr ?hp (fun _ hk=>hk) trivial (Below.refl _ _) (Nat.le_refl _) (by simp) ?_;(case hd=>rfl);(case hg=>rfl);(case hr=>first|(go_simp;done)|(go_simp;rfl));(case hp=>exact(cI.one (show Kd.M (Kd.int .i64) _ _ _ 0 [.int .i64 0] from rfl) (cI.one (show Kd.M (Kd.int .i64) _ _ _ 4 [.int .i64 4] from rfl) (cI.one (show Kd.M (Kd.int .i64) _ _ _ 2 [.int .i64 2] from rfl) (cI.one (show Kd.M (Kd.int .i64) _ _ _ 3 [.int .i64 3] from rfl) (cI.one (show Kd.M (Kd.int .i64) _ _ _ 1 [.int .i64 1] from rfl) (cI.one (show Kd.M (Kd.int .i64) _ _ _ 5 [.int .i64 5] from rfl) (cI.none _ _))))))));intro v112 w14 ho15 hb hg_ hnew_;clear hg_ hnew_;(first|rw[←Ny111.out] at ho15|(simp only[Int.reduceToNat] at ho15;rw[←Ny111.out] at ho15));have n0_:=aa.mk (Kd.dm (bK HO103.out) (Kd.dS ho15) hb);have n1_:=aa.mk (Kd.dm (bK HO106.out) (Kd.dS ho15) hb);have n2_:=aa.mk (Kd.dm (bK HO110.out) (Kd.dS ho15) hb);have n3_:=aa.mk (Kd.bN (Kd.eD (Kd.eD (Kd.eD ho15 (Kd.ik (bK HO103.out))) (Kd.ik (bK HO106.out))) (Kd.ik (bK HO110.out))) (ai ak));have n4_:=aa.mk (ah ak hb);clear HO103;clear HO106;clear HO110;clear HB;have HO103:=n0_;have HO106:=n1_;have HO110:=n2_;have HO113:=n3_;have HB:=n4_;clear n0_ n1_ n2_ n3_ n4_;clear hb ho15;obtain⟨Ao16,co16,eo16⟩:=Kd.cb HO110.out;subst eo16;obtain⟨Ao17,co17,eo17⟩:=Kd.cb HO113.out;subst eo17)|(go_at_call 81;(with_reducible refine(aH.calls k _ _ t108 _ _ y111 true _ ?side1 ?side2 ?side3 ?side4 A5.out).mono ?_);(case side1=>repeat(first|exact(Kd.aT HO110.out).2.2|(with_reducible refine Kd.dB ?_ _)|(with_reducible refine Kd.dQ ?_ _)|(with_reducible refine Kd.eX ?_)));(case side2=>exact(Kd.aT HO110.out).2.1);(case side3=>repeat(first|exact(Kd.aT HO113.out).2.2|(with_reducible refine Kd.dB ?_ _)|(with_reducible refine Kd.dQ ?_ _)|(with_reducible refine Kd.eX ?_)));(case side4=>exact(Kd.aT HO113.out).2.1);rintro e w' ⟨rfl,⟨nd,rfl⟩⟩)|(go_at_call 84;(with_reducible refine(bo.calls k 6 2 t115 _ A7.out).mono ?_);rintro e w' ⟨rfl,⟨nd,rfl⟩⟩))
   go_ret
   exact⟨a8,ak⟩
  ·replace c6:=Bool.eq_false_iff.mpr c6
   subst c6
   have H1:=H;rw[if_neg (show¬(false=true) by decide)] at H1
   clear H
   have H:=H1
   clear H1
   exact absurd H (by simp)
 ·replace c3:=Bool.eq_false_iff.mpr c3
  subst c3
  have H1:=H;rw[if_neg (show¬(false=true) by decide)] at H1
  clear H
  have H:=H1
  clear H1
  exact absurd H (by simp)
noncomputable def eR.f(k:Nat)(l0:List (cn))(l1:List Int)(a2:Bool):Option (List Int):=(dw.f k l0 l1 a2).bind fun bt116=>(if bt116.2=11 then((jU.f k l0 l1 a2).bind fun bt120=>(some bt120.1)) else(some bt116.1))
set_option maxHeartbeats 8000000 in
set_option maxRecDepth 100000 in
theorem eR.calls(k:Nat)(A0:Option Addr)(c0:Nat)(l0:List (cn))(A1:Option Addr)(c1:Nat)(l1:List Int)(a2:Bool)(r:List Int)(w:World)(hr0:Kd.C fB w A0 l0.length l0)(hc0:l0.length≤c0)(hr1:Kd.C (Kd.int .u64) w A1 l1.length l1)(hc1:l1.length≤c1)(h:eR.f k l0 l1 a2=some r):
  Calls Tryz.prog 115 #[bh (.slice A0 l0.length c0), .slice A1 l1.length c1, .bool a2] w fun e w'=> ∃v0_:Value,e= .returned (v0_)∧Kd.R (Kd.int .u64) 22 w' w.heap.size (fun _=>True) v0_ r∧Below w.heap.size w w':=by
 have HR0:=aa.mk hr0
 have HC0:=aa.mk hc0
 clear hr0 hc0
 have HR1:=aa.mk hr1
 have HC1:=aa.mk hc1
 clear hr1 hc1
 have HB:=aa.mk (Below.refl w.heap.size w)
 have H:=h;unfold eR.f at H
 clear h
 replace H:=Option.bind_eq_some_iff.mp H
 obtain⟨⟨t116,t117⟩,A40,H⟩:=H
 (try dsimp only at H)
 have A4:=aa.mk A40
 clear A40
 by_cases c5:t117=11
 ·rw[if_pos c5] at H
  have c5b0:=beq_iff_eq.mpr c5
  have c5b1:=bne_eq_false_iff_eq.mpr c5
  clear c5
  replace H:=Option.bind_eq_some_iff.mp H
  obtain⟨⟨t120,t121⟩,A60,H⟩:=H
  (try dsimp only at H)
  have A6:=aa.mk A60
  clear A60
  obtain rfl:=Option.some.inj H
  go_enter Tryz.func115,Tryz.ntmps115
  go_wp2_with (first|((with_reducible refine aM (f:=33) rfl ?_);refine cj (some 13) rfl rfl Tryz.func33 (by kernel_rfl) rfl #[bh (.slice A0 l0.length c0), .slice A1 l1.length c1, .bool a2] rfl (by(try simp only[List.map_toArray,List.map_cons,List.map_nil]);first|done|(rw[hT_HR0]<;>rfl)|rfl|(simp only[List.length_drop,List.length_take];rfl)) ?_;(try rw[←hT_HR0]);(with_reducible refine(dw.calls k _ _ l0 _ _ l1 a2 t116 t117 _ ?side1 ?side2 ?side3 ?side4 A4.out).mono ?_);(case side1=>exact cw HR0.out);(case side2=>exact HC0.out);(case side3=>exact cw HR1.out);(case side4=>exact HC1.out);rintro e w7 ⟨v118,rfl,ho0,hb⟩;refine⟨_,rfl,?_⟩;have n0_:=aa.mk (Kd.bN ho0 (ai ak));have n1_:=aa.mk (ah ak hb);clear HB;have HO119:=n0_;have HB:=n1_;clear n0_ n1_;(try clear ho0))|((with_reducible refine aM (f:=18) rfl ?_);refine cj (some 22) rfl rfl Tryz.func18 (by kernel_rfl) rfl #[bh (.slice A0 l0.length c0), .slice A1 l1.length c1, .bool a2] rfl (by(try simp only[List.map_toArray,List.map_cons,List.map_nil]);first|done|(rw[hT_HR0]<;>rfl)|rfl|(simp only[List.length_drop,List.length_take];rfl)) ?_;(try rw[←hT_HR0]);(with_reducible refine(jU.calls k _ _ l0 _ _ l1 a2 t120 t121 _ ?side1 ?side2 ?side3 ?side4 A6.out).mono ?_);(case side1=>exact cw (Kd.bu HR0.out HB.out));(case side2=>exact HC0.out);(case side3=>exact cw (Kd.bu HR1.out HB.out));(case side4=>exact HC1.out);rintro e w8 ⟨v122,rfl,ho0,hb⟩;refine⟨_,rfl,?_⟩;have n0_:=aa.mk (Kd.dm (bK HO119.out) (Kd.dS ho0) hb);have n1_:=aa.mk (Kd.bN (Kd.eD ho0 (Kd.ik (bK HO119.out))) (ai ak));have n2_:=aa.mk (ah ak hb);clear HO119;clear HB;have HO119:=n0_;have HO123:=n1_;have HB:=n2_;clear n0_ n1_ n2_;(try clear ho0)))
  go_ret
  exact⟨_,a8,by(with_reducible repeat(first|apply Kd.bI|apply Kd.bL|apply Kd.bM));exact Kd.bE HO123.out (fun _ hk=>trivial),ak⟩
 ·rw[if_neg c5] at H
  have c5b0:=beq_eq_false_iff_ne.mpr c5
  have c5b1:=bne_iff_ne.mpr c5
  obtain rfl:=Option.some.inj H
  go_enter Tryz.func115,Tryz.ntmps115
  go_wp2_with (first|((with_reducible refine aM (f:=33) rfl ?_);refine cj (some 13) rfl rfl Tryz.func33 (by kernel_rfl) rfl #[bh (.slice A0 l0.length c0), .slice A1 l1.length c1, .bool a2] rfl (by(try simp only[List.map_toArray,List.map_cons,List.map_nil]);first|done|(rw[hT_HR0]<;>rfl)|rfl|(simp only[List.length_drop,List.length_take];rfl)) ?_;(try rw[←hT_HR0]);(with_reducible refine(dw.calls k _ _ l0 _ _ l1 a2 t116 t117 _ ?side1 ?side2 ?side3 ?side4 A4.out).mono ?_);(case side1=>exact cw HR0.out);(case side2=>exact HC0.out);(case side3=>exact cw HR1.out);(case side4=>exact HC1.out);rintro e w9 ⟨v118,rfl,ho0,hb⟩;refine⟨_,rfl,?_⟩;have n0_:=aa.mk (Kd.bN ho0 (ai ak));have n1_:=aa.mk (ah ak hb);clear HB;have HO119:=n0_;have HB:=n1_;clear n0_ n1_;(try clear ho0)))
  go_ret
  exact⟨_,a8,bK HO119.out,ak⟩
mutual
noncomputable def aE.l0:Nat→List (cn)→List Int→Int→Int→Int→Bool→Int→Int→Option (List Int)
 |0,_,_,_,_,_,_,_,_=>none
 |k+1,x0,x1,x3,x4,x5,x6,x19,x20=>if x20<x19 then(if 0≤x4 then(if(x4:Int).toNat≤35184372088832 then((some (List.replicate (x4:Int).toNat 0:List Int)).bind fun y124=>(aE.l1 k x0 x1 x3 x4 x5 x6 x20 y124 x19 x20 (y124.length:Int) 0)) else(none)) else(none)) else(some x1)
noncomputable def aE.l1:Nat→List (cn)→List Int→Int→Int→Int→Bool→Int→List Int→Int→Int→Int→Int→Option (List Int)
 |0,_,_,_,_,_,_,_,_,_,_,_,_=>none
 |k+1,x0,x1,x3,x4,x5,x6,x14,x15,x19,x20,x26,x27=>if x27<x26 then(if 0≤(wrap64 ((wrap64 (x14*x3))+(wrap64 (x27*x5)))) then(if(wrap64 ((wrap64 (x14*x3))+(wrap64 (x27*x5))))<(x1.length:Int) then(if 0≤x27 then(if x27<(x15.length:Int) then(aE.l1 k x0 x1 x3 x4 x5 x6 x14 (x15.set (x27:Int).toNat (rd x1 (wrap64 ((wrap64 (x14*x3))+(wrap64 (x27*x5)))))) x19 x20 x26 (wrap64 (x27+1))) else(none)) else(none)) else(none)) else(none)) else((eR.f k x0 x15 x6).bind fun t129=>(aE.l2 k x0 x1 x3 x4 x5 x6 x14 x19 x20 t129 (t129.length:Int) 0))
noncomputable def aE.l2:Nat→List (cn)→List Int→Int→Int→Int→Bool→Int→Int→Int→List Int→Int→Int→Option (List Int)
 |0,_,_,_,_,_,_,_,_,_,_,_,_=>none
 |k+1,x0,x1,x3,x4,x5,x6,x14,x19,x20,x47,x48,x49=>if x49<x48 then(if 0≤x49 then(if x49<(x47.length:Int) then(if 0≤(wrap64 ((wrap64 (x14*x3))+(wrap64 (x49*x5)))) then(if(wrap64 ((wrap64 (x14*x3))+(wrap64 (x49*x5))))<(x1.length:Int) then(aE.l2 k x0 (x1.set ((wrap64 ((wrap64 (x14*x3))+(wrap64 (x49*x5)))):Int).toNat (rd x47 x49)) x3 x4 x5 x6 x14 x19 x20 x47 x48 (wrap64 (x49+1))) else(none)) else(none)) else(none)) else(none)) else(aE.l0 k x0 x1 x3 x4 x5 x6 x19 (wrap64 (x20+1)))
end
noncomputable def aE.f(k:Nat)(l0:List (cn))(l1:List Int)(a2:Int)(a3:Int)(a4:Int)(a5:Int)(a6:Bool):Option (List Int):=aE.l0 k l0 l1 a3 a4 a5 a6 a2 0
set_option maxHeartbeats 8000000 in
set_option maxRecDepth 100000 in
theorem aE.calls(k:Nat)(A0:Option Addr)(c0:Nat)(l0:List (cn))(P1_:Nat→Prop)(u9000_:Value)(l1:List Int)(a2:Int)(a3:Int)(a4:Int)(a5:Int)(a6:Bool)(r:List Int)(w0 w:World)(hB:Below w0.heap.size w0 w)(hr0: ∀W_,Kept w W_ (fun k_=>P1_ k_)→Kd.C fB W_ A0 l0.length l0)(hc0:l0.length≤c0)(ho1:Kd.R (Kd.int .u64) 22 w w0.heap.size P1_ u9000_ l1)(h:aE.f k l0 l1 a2 a3 a4 a5 a6=some r):
  Calls Tryz.prog 86 #[bh (.slice A0 l0.length c0),u9000_, .int .i64 a2, .int .i64 a3, .int .i64 a4, .int .i64 a5, .bool a6] w fun e w'=>e= .returned (.tuple #[])∧Kd.R (Kd.int .u64) 22 w' w0.heap.size (fun k_=>(P1_ k_∨w.heap.size≤k_)) u9000_ r∧Below w0.heap.size w0 w'∧Kept w w' (fun k_=>P1_ k_):=by
 have HR0:=aa.mk hr0
 have HC0:=aa.mk hc0
 clear hr0 hc0
 have HO1:=aa.mk (show Kd.R (Kd.int .u64) 22 w w0.heap.size (fun k_=>(P1_ k_∨w.heap.size≤k_)) u9000_ l1 from Kd.bE ho1 (fun k_ hk=>(.inl hk)))
 have HK:=aa.mk (Kept.refl w (fun k_=>P1_ k_))
 have HW0:=aa.mk hB.size
 have HB:=aa.mk hB
 clear hB
 have H:=h;unfold aE.f at H
 clear h
 have H':=aa.mk H
 clear H
 go_enter Tryz.func86,Tryz.ntmps86
 go_wp2
 go_loopg [20] k (fun kq v20 w'=> ∃(x1_1:List Int) (x20_1:Int),v20= .int .i64 x20_1∧aa (aE.l0 kq l0 x1_1 a3 a4 a5 a6 a2 x20_1=some r)∧aa (kq≤k)∧aa (Kd.R (Kd.int .u64) 22 w' w0.heap.size (fun k_=>(P1_ k_∨w.heap.size≤k_)) u9000_ x1_1)∧aa (Kept w w' (fun k_=>P1_ k_))∧aa (Below w0.heap.size w0 w'))
 case atStart=>exact⟨(l1),(0),a8,H',⟨Nat.le_refl _⟩,⟨bK HO1.out⟩,⟨im⟩,⟨ak⟩⟩
 case round=>
  clear H'
  obtain⟨x1_1,x20_1,rfl,HA,HK1,HO_1,HK,HB⟩:=hrel
  cases gk with
  |zero=>exact absurd HA.out (by simp[aE.l0])
  |succ k1=>
   have H:=HA.out
   clear HA
   simp only[aE.l0] at H
   by_cases c8:x20_1<a2
   ·rw[if_pos c8] at H
    have c8b0:=decide_eq_true c8
    clear c8
    by_cases c9:0≤a4
    ·rw[if_pos c9] at H
     have c9b0:=eq_true c9
     have c9b1:=decide_eq_true c9
     clear c9
     by_cases ek:(a4:Int).toNat≤35184372088832
     ·rw[if_pos ek] at H
      have c10b0:=eq_true ek
      have c10b1:=decide_eq_true ek
      clear ek
      obtain⟨y124,hy124⟩: ∃y_:List Int,y_=(List.replicate (a4:Int).toNat 0):=⟨_,rfl⟩
      replace H:(aE.l1 k1 l0 x1_1 a3 a4 a5 a6 x20_1 y124 a2 x20_1 (y124.length:Int) 0)=some r:=by first|(rw[hy124];with_reducible exact H)|(have H2_:=(Option.bind_some _ _).symm.trans H;rw[hy124];with_reducible exact H2_)|(have H2_:=(Option.bind_some _ _).symm.trans H;with_reducible exact H2_)|with_reducible exact H|(rw[hy124];exact H)|exact H
      have Ny124:=aa.mk hy124
      clear hy124
      have H':=aa.mk H
      clear H
      go_wp2_with (first|((with_reducible refine bk (N:=24) rfl ?_);refine Kd.jc (Kd.int .u64) _ 22 rfl (N:=24) rfl 26 _ _ rfl a4 rfl rfl Tryz.underlying26 (.int .u64 0) 8 gE rfl (by decide) (by omega) 0 (ok:=fun _=>True) (okp:=fun _=>True) rfl (fun _ hk=>hk) trivial (of_decide_eq_true (by assumption)) (Nat.le_trans (Nat.mul_le_mul_right _ (of_decide_eq_true (by assumption):a4.toNat≤35184372088832)) (by omega)) (Below.refl _ _) (Nat.le_refl _) ?_;intro v125 w11 ho12 hb hg_ hnew_;clear hg_ hnew_;(first|rw[←Ny124.out] at ho12|(simp only[Int.reduceToNat] at ho12;rw[←Ny124.out] at ho12));have n0_:=aa.mk (Kd.dm (bK HO_1.out) (Kd.dS ho12) hb);have n1_:=aa.mk (Kd.bN (Kd.eD (Kd.rQ (M:=fun k_=>(P1_ k_∨w.heap.size≤k_)) ho12 (by first|exact HK.out.1|exact(show Kept w _ (fun k_=>P1_ k_) from im).1) (fun k_ h_=> .inr h_)) (Kd.ik (bK HO_1.out))) (ai ak));have n2_:=aa.mk (Kept.below (S:=(fun k_=>P1_ k_)) im hb);have n3_:=aa.mk (ah ak hb);clear HO_1;clear HK;clear HB;have HO_1:=n0_;have HO126:=n1_;have HK:=n2_;have HB:=n3_;clear n0_ n1_ n2_ n3_;clear hb ho12;obtain⟨Ao13,co13,eo13⟩:=Kd.cb HO126.out;subst eo13))
      go_loopg [27] k1 (fun kq v27 w'=> ∃(x15_2:List Int) (x27_2:Int),v27= .int .i64 x27_2∧aa (aE.l1 kq l0 x1_1 a3 a4 a5 a6 x20_1 x15_2 a2 x20_1 (y124.length:Int) x27_2=some r)∧aa (kq≤k1)∧aa (Kd.R (Kd.int .u64) 22 w' w0.heap.size (fun k_=>(P1_ k_∨w.heap.size≤k_)∧some k_≠((.slice Ao13 y124.length co13):Value).ownBlock) u9000_ x1_1)∧aa (Kd.R (Kd.int .u64) 22 w' w0.heap.size (fun k_=>(P1_ k_∨w.heap.size≤k_)∧some k_≠(u9000_:Value).ownBlock) (.slice Ao13 y124.length co13) x15_2)∧aa (Kept w w' (fun k_=>P1_ k_))∧aa (Below w0.heap.size w0 w'))
      case atStart=>exact⟨(y124),(0),a8,H',⟨Nat.le_refl _⟩,⟨bK HO_1.out⟩,⟨by(with_reducible repeat(first|apply Kd.bI|apply Kd.bL|apply Kd.bM));exact Kd.bE HO126.out (fun _ hk=>⟨hk.1.1,hk.2⟩)⟩,⟨im⟩,⟨ak⟩⟩
      case round=>
       clear H'
       obtain⟨x15_2,x27_2,rfl,HA,HK2,HO_1,HO_15,HK,HB⟩:=hrel
       have hl15_2:=(Kd.aT HO_15.out).1
       rw[hl15_2] at HO_15
       (try simp only[hl15_2])
       (try simp only[hl15_2] at HO_1)
       cases gk with
       |zero=>exact absurd HA.out (by simp[aE.l1])
       |succ k2=>
        have H:=HA.out
        clear HA
        simp only[aE.l1] at H
        by_cases fa:x27_2<(y124.length:Int)
        ·rw[if_pos fa] at H
         have c14b0:=decide_eq_true fa
         (try(have c14b0hl15_2:=c14b0;simp only[hl15_2] at c14b0hl15_2))
         clear fa
         obtain⟨ji15,hji15⟩: ∃j_:Int,(wrap64 ((wrap64 (x20_1*a3))+(wrap64 (x27_2*a5))))=j_:=⟨_,rfl⟩
         (first|rw[hji15] at H|simp only[hji15] at H)
         have hji15v:(IntKind.i64.wrap ((IntKind.i64.wrap (x20_1*a3))+(IntKind.i64.wrap (x27_2*a5))))=ji15:=by simp only[bp];exact hji15
         have hji15w:(IntKind.i64.wrap ((wrap64 (x20_1*a3))+(wrap64 (x27_2*a5))))=ji15:=(bp _).trans hji15
         by_cases jx:0≤(ji15)
         ·rw[if_pos jx] at H
          have c16b0:=decide_eq_true jx
          clear jx
          by_cases gC:(ji15)<(x1_1.length:Int)
          ·rw[if_pos gC] at H
           have c17b0:=decide_eq_true gC
           (try(have c17b0hl15_2:=c17b0;simp only[hl15_2] at c17b0hl15_2))
           clear gC
           by_cases ji:0≤x27_2
           ·rw[if_pos ji] at H
            have c18b0:=decide_eq_true ji
            clear ji
            by_cases mD:x27_2<(x15_2.length:Int)
            ·rw[if_pos mD] at H
             have c19b0:=decide_eq_true mD
             (try(have c19b0hl15_2:=c19b0;simp only[hl15_2] at c19b0hl15_2))
             clear mD
             obtain⟨y128,hy128⟩: ∃y_:List Int,y_=(x15_2.set (x27_2:Int).toNat (rd x1_1 (ji15))):=⟨_,rfl⟩
             replace H:(aE.l1 k2 l0 x1_1 a3 a4 a5 a6 x20_1 y128 a2 x20_1 (y124.length:Int) (wrap64 (x27_2+1)))=some r:=by first|(rw[hy128];with_reducible exact H)|(have H2_:=(Option.bind_some _ _).symm.trans H;rw[hy128];with_reducible exact H2_)|(have H2_:=(Option.bind_some _ _).symm.trans H;with_reducible exact H2_)|with_reducible exact H|(rw[hy128];exact H)|exact H
             have Ny128:=aa.mk hy128
             clear hy128
             have H':=aa.mk H
             clear H
             obtain⟨Ao21,co21,eo21⟩:=Kd.cb HO_1.out
             subst eo21
             have p127:0≤((ji15):Int):=of_decide_eq_true (by assumption)
             have q127:(ji15)<(x1_1.length:Int):=of_decide_eq_true (by assumption)
             obtain⟨ad127,e127,hx127_0⟩:=Kd.cR (Kd.aT HO_1.out).2.2 (ji15) p127 q127
             cases e127
             replace p127:=eq_true p127
             replace q127:=eq_true q127
             have p20:0≤(x27_2:Int):=of_decide_eq_true (by assumption)
             have q20:(x27_2:Int)<((x15_2.length:Int):Int):=of_decide_eq_true (by assumption)
             obtain⟨go20,co20,eo20,gb20,gl20,cl20,HG20⟩:=Kd.fY HO_15.out (by omega)
             (first|cases eo20|(injection eo20 with ea_ en_ ec_;(first|subst ea_|(injection ea_ with ea_;subst ea_));subst ec_;clear en_))
             have GB20:=aa.mk gb20
             have GG20:=aa.mk HG20
             clear gb20 gl20 HG20
             have HMgo20:=aa.mk (show(P1_ go20∨w.heap.size≤go20) from(HO_15.out.1 _ rfl).1)
             obtain⟨hx20_0,hf20_0⟩:=Kd.eE 0 HO_15.out (x27_2:Int) p20 q20
             replace p20:=eq_true p20
             replace q20:=eq_true q20
             have HP22:=Kd.iF HO_15.out (x27_2:Int) (rd x1_1 (ji15))
             go_wp2_with (first|((with_reducible refine eQ (t:=22) (p:=42) rfl ?_);refine eC (t:=22) (p:=42) (v:=?vo_w23) (w1:=(wr.setCell ⟨go20,(x27_2:Int).toNat,none⟩ (.int .u64 (rd x1_1 (ji15))))) ?hg ?ho ?hn ?hr ?_;(case ho=>rfl);(case hg=>rfl);(case hn=>rfl);(case hr=>first|(go_simp;done)|(go_simp;rfl));intro w23 hw;have hg:wr.grownBy w23 (some go20):=(by rw[hw];exact HP22.2);have hp_:Kd.R (Kd.int .u64) 22 w23 w0.heap.size (fun k_=>(P1_ k_∨w.heap.size≤k_)∧some k_≠(.slice (some ad127) x1_1.length co21:Value).ownBlock) (.slice (some ⟨go20,0,none⟩) x15_2.length co13) y128:=(by rw[hw,Ny128.out];exact HP22.1);clear HP22;have n0_:=aa.mk (Kd.jZ (v:=(.slice (some ⟨go20,0,none⟩) x15_2.length co13)) (v1:=(.slice (some ⟨go20,0,none⟩) x15_2.length co13)) (ok:=(fun k_=>(P1_ k_∨w.heap.size≤k_))) (bK HO_1.out) hg (.inl rfl));have n1_:=aa.mk (hp_);have n2_:=aa.mk ((by rw[hw];exact cg (HB.out) GB20.out:Below w0.heap.size w0 w23));have n3_:=aa.mk (Kept.kO (S:=(fun k_=>P1_ k_)) hg im (fun k_ e_=>(HO_15.out.1 k_ e_).1));clear HO_1;clear HO_15;clear HB;clear HK;have HO_1:=n0_;have HO_15:=n1_;have HB:=n2_;have HK:=n3_;clear n0_ n1_ n2_ n3_;clear hg hw hp_))
             (try simp only[←hl15_2])
             go_roundg k2
             case measure=>have:=HK1.out;have:=HK2.out;omega
             case rel=>exact⟨(y128),(wrap64 (x27_2+1)),a8,H',⟨by have:=HK1.out;have:=HK2.out;omega⟩,⟨by(try simp only[hl15_2]);(with_reducible repeat(first|apply Kd.bI|apply Kd.bL|apply Kd.bM));exact HO_1.out⟩,⟨by(try simp only[hl15_2]);(with_reducible repeat(first|apply Kd.bI|apply Kd.bL|apply Kd.bM));exact HO_15.out⟩,⟨im⟩,⟨ak⟩⟩
            ·rw[if_neg mD] at H
             exact absurd H (by simp)
           ·rw[if_neg ji] at H
            exact absurd H (by simp)
          ·rw[if_neg gC] at H
           exact absurd H (by simp)
         ·rw[if_neg jx] at H
          exact absurd H (by simp)
        ·rw[if_neg fa] at H
         have c14b0:=decide_eq_false fa
         (try(have c14b0hl15_2:=c14b0;simp only[hl15_2] at c14b0hl15_2))
         clear fa
         replace H:=Option.bind_eq_some_iff.mp H
         obtain⟨t129,A240,H⟩:=H
         (try dsimp only at H)
         have A24:=aa.mk A240
         clear A240
         have H':=aa.mk H
         clear H
         go_wp2_with (first|((with_reducible refine aM (f:=115) rfl ?_);refine cj (some 47) rfl rfl Tryz.func115 (by kernel_rfl) rfl #[bh (.slice A0 l0.length c0), .slice Ao13 x15_2.length co13, .bool a6] rfl (by(try simp only[List.map_toArray,List.map_cons,List.map_nil]);first|done|(rw[hT_HR0]<;>rfl)|rfl|(simp only[List.length_drop,List.length_take];rfl)) ?_;(try rw[←hT_HR0]);(with_reducible refine(eR.calls k2 _ _ l0 _ _ x15_2 a6 t129 _ ?side1 ?side2 ?side3 ?side4 A24.out).mono ?_);(case side1=>exact Kd.fw HR0.out im);(case side2=>exact HC0.out);(case side3=>repeat(first|exact(Kd.aT HO_15.out).2.2|(with_reducible refine Kd.dB ?_ _)|(with_reducible refine Kd.dQ ?_ _)|(with_reducible refine Kd.eX ?_)));(case side4=>exact(Kd.aT HO_15.out).2.1);rintro e w25 ⟨v130,rfl,ho0,hb⟩;refine⟨_,rfl,?_⟩;have n0_:=aa.mk (Kd.dm (bK HO_1.out) (Kd.dS ho0) hb);have n1_:=aa.mk (Kd.dm (bK HO_15.out) (Kd.dS ho0) hb);have n2_:=aa.mk (Kd.bN (Kd.eD (Kd.eD (Kd.rQ (M:=fun k_=>(P1_ k_∨w.heap.size≤k_)) ho0 (by first|exact HK.out.1|exact(show Kept w _ (fun k_=>P1_ k_) from im).1) (fun k_ h_=> .inr h_)) (Kd.ik (bK HO_1.out))) (Kd.ik (bK HO_15.out))) (ai ak));have n3_:=aa.mk (Kept.below (S:=(fun k_=>P1_ k_)) im hb);have n4_:=aa.mk (ah ak hb);clear HO_1;clear HO_15;clear HK;clear HB;have HO_1:=n0_;have HO_15:=n1_;have HO131:=n2_;have HK:=n3_;have HB:=n4_;clear n0_ n1_ n2_ n3_ n4_;(try clear ho0);obtain⟨Ao26,co26,eo26⟩:=Kd.cb HO131.out;subst eo26))
         go_loopg [49] k2 (fun kq v49 w'=> ∃(x1_3:List Int) (x49_3:Int),v49= .int .i64 x49_3∧aa (aE.l2 kq l0 x1_3 a3 a4 a5 a6 x20_1 a2 x20_1 t129 (t129.length:Int) x49_3=some r)∧aa (kq≤k2)∧aa (Kd.R (Kd.int .u64) 22 w' w0.heap.size (fun k_=>(P1_ k_∨w.heap.size≤k_)∧some k_≠((.slice Ao26 t129.length co26):Value).ownBlock) u9000_ x1_3)∧aa (Kd.R (Kd.int .u64) 22 w' w0.heap.size (fun k_=>(P1_ k_∨w.heap.size≤k_)∧some k_≠(u9000_:Value).ownBlock) (.slice Ao26 t129.length co26) t129)∧aa (Kept w w' (fun k_=>P1_ k_))∧aa (Below w0.heap.size w0 w'))
         case atStart=>exact⟨(x1_1),(0),a8,H',⟨Nat.le_refl _⟩,⟨by(try simp only[hl15_2]);(with_reducible repeat(first|apply Kd.bI|apply Kd.bL|apply Kd.bM));exact Kd.bE HO_1.out (fun _ hk=>⟨hk.1.1,hk.2⟩)⟩,⟨by(try simp only[hl15_2]);(with_reducible repeat(first|apply Kd.bI|apply Kd.bL|apply Kd.bM));exact Kd.bE HO131.out (fun _ hk=>⟨hk.1.1.1,hk.1.2⟩)⟩,⟨im⟩,⟨ak⟩⟩
         case round=>
          clear H'
          try clear hx1
          try clear hx2
          try clear hx12
          try clear hx20
          try clear hf20
          try clear hx127_0
          try clear hx20_0
          obtain⟨x1_3,x49_3,rfl,HA,HK3,HO_1,HO_47,HK,HB⟩:=hrel
          cases gk with
          |zero=>exact absurd HA.out (by simp[aE.l2])
          |succ k3=>
           have H:=HA.out
           clear HA
           simp only[aE.l2] at H
           by_cases ke:x49_3<(t129.length:Int)
           ·rw[if_pos ke] at H
            have c27b0:=decide_eq_true ke
            (try(have c27b0hl15_2:=c27b0;simp only[hl15_2] at c27b0hl15_2))
            clear ke
            by_cases tr:0≤x49_3
            ·rw[if_pos tr] at H
             have c28b0:=decide_eq_true tr
             clear tr
             by_cases mo:x49_3<(t129.length:Int)
             ·rw[if_pos mo] at H
              have c29b0:=decide_eq_true mo
              (try(have c29b0hl15_2:=c29b0;simp only[hl15_2] at c29b0hl15_2))
              clear mo
              obtain⟨ji30,hji30⟩: ∃j_:Int,(wrap64 ((wrap64 (x20_1*a3))+(wrap64 (x49_3*a5))))=j_:=⟨_,rfl⟩
              (first|rw[hji30] at H|simp only[hji30] at H)
              have hji30v:(IntKind.i64.wrap ((IntKind.i64.wrap (x20_1*a3))+(IntKind.i64.wrap (x49_3*a5))))=ji30:=by simp only[bp];exact hji30
              have hji30w:(IntKind.i64.wrap ((wrap64 (x20_1*a3))+(wrap64 (x49_3*a5))))=ji30:=(bp _).trans hji30
              by_cases kv:0≤(ji30)
              ·rw[if_pos kv] at H
               have c31b0:=decide_eq_true kv
               clear kv
               by_cases c32:(ji30)<(x1_3.length:Int)
               ·rw[if_pos c32] at H
                have c32b0:=decide_eq_true c32
                (try(have c32b0hl15_2:=c32b0;simp only[hl15_2] at c32b0hl15_2))
                clear c32
                obtain⟨y133,hy133⟩: ∃y_:List Int,y_=(x1_3.set ((ji30):Int).toNat (rd t129 x49_3)):=⟨_,rfl⟩
                replace H:(aE.l2 k3 l0 y133 a3 a4 a5 a6 x20_1 a2 x20_1 t129 (t129.length:Int) (wrap64 (x49_3+1)))=some r:=by first|(rw[hy133];with_reducible exact H)|(have H2_:=(Option.bind_some _ _).symm.trans H;rw[hy133];with_reducible exact H2_)|(have H2_:=(Option.bind_some _ _).symm.trans H;with_reducible exact H2_)|with_reducible exact H|(rw[hy133];exact H)|exact H
                have Ny133:=aa.mk hy133
                clear hy133
                have H':=aa.mk H
                clear H
                have p132:0≤(x49_3:Int):=of_decide_eq_true (by assumption)
                have q132:x49_3<(t129.length:Int):=of_decide_eq_true (by assumption)
                obtain⟨ad132,e132,hx132_0⟩:=Kd.cR (Kd.aT HO_47.out).2.2 x49_3 p132 q132
                cases e132
                replace p132:=eq_true p132
                replace q132:=eq_true q132
                have p33:0≤((ji30):Int):=of_decide_eq_true (by assumption)
                have q33:((ji30):Int)<((x1_3.length:Int):Int):=of_decide_eq_true (by assumption)
                obtain⟨go33,co33,eo33,gb33,gl33,cl33,HG33⟩:=Kd.fY HO_1.out (by omega)
                (first|cases eo33|(injection eo33 with ea_ en_ ec_;(first|subst ea_|(injection ea_ with ea_;subst ea_));subst ec_;clear en_))
                have GB33:=aa.mk gb33
                have GG33:=aa.mk HG33
                clear gb33 gl33 HG33
                have HMgo33:=aa.mk (show(P1_ go33∨w.heap.size≤go33) from(HO_1.out.1 _ rfl).1)
                obtain⟨hx33_0,hf33_0⟩:=Kd.eE 0 HO_1.out ((ji30):Int) p33 q33
                replace p33:=eq_true p33
                replace q33:=eq_true q33
                have HP34:=Kd.iF HO_1.out ((ji30):Int) (rd t129 x49_3)
                go_wp2_with (first|((with_reducible refine eQ (t:=22) (p:=63) rfl ?_);refine eC (t:=22) (p:=63) (v:=?vo_w35) (w1:=(wr.setCell ⟨go33,((ji30):Int).toNat,none⟩ (.int .u64 (rd t129 x49_3)))) ?hg ?ho ?hn ?hr ?_;(case ho=>rfl);(case hg=>rfl);(case hn=>rfl);(case hr=>first|(go_simp;done)|(go_simp;rfl));intro w35 hw;have hg:wr.grownBy w35 (some go33):=(by rw[hw];exact HP34.2);have hp_:Kd.R (Kd.int .u64) 22 w35 w0.heap.size (fun k_=>(P1_ k_∨w.heap.size≤k_)∧some k_≠(.slice (some ad132) t129.length co26:Value).ownBlock) (.slice (some ⟨go33,0,none⟩) x1_3.length co33) y133:=(by rw[hw,Ny133.out];exact HP34.1);clear HP34;have n0_:=aa.mk (hp_);have n1_:=aa.mk (Kd.jZ (v:=(.slice (some ⟨go33,0,none⟩) x1_3.length co33)) (v1:=(.slice (some ⟨go33,0,none⟩) x1_3.length co33)) (ok:=(fun k_=>(P1_ k_∨w.heap.size≤k_))) (bK HO_47.out) hg (.inl rfl));have n2_:=aa.mk ((by rw[hw];exact cg (HB.out) GB33.out:Below w0.heap.size w0 w35));have n3_:=aa.mk (Kept.kO (S:=(fun k_=>P1_ k_)) hg im (fun k_ e_=>(HO_1.out.1 k_ e_).1));clear HO_1;clear HO_47;clear HB;clear HK;have HO_1:=n0_;have HO_47:=n1_;have HB:=n2_;have HK:=n3_;clear n0_ n1_ n2_ n3_;clear hg hw hp_))
                go_roundg k3
                case measure=>have:=HK1.out;have:=HK2.out;have:=HK3.out;omega
                case rel=>exact⟨(y133),(wrap64 (x49_3+1)),a8,H',⟨by have:=HK1.out;have:=HK2.out;have:=HK3.out;omega⟩,⟨by(try simp only[hl15_2]);(with_reducible repeat(first|apply Kd.bI|apply Kd.bL|apply Kd.bM));exact HO_1.out⟩,⟨by(try simp only[hl15_2]);(with_reducible repeat(first|apply Kd.bI|apply Kd.bL|apply Kd.bM));exact HO_47.out⟩,⟨im⟩,⟨ak⟩⟩
               ·rw[if_neg c32] at H
                exact absurd H (by simp)
              ·rw[if_neg kv] at H
               exact absurd H (by simp)
             ·rw[if_neg mo] at H
              exact absurd H (by simp)
            ·rw[if_neg tr] at H
             exact absurd H (by simp)
           ·rw[if_neg ke] at H
            have c27b0:=decide_eq_false ke
            (try(have c27b0hl15_2:=c27b0;simp only[hl15_2] at c27b0hl15_2))
            clear ke
            have H':=aa.mk H
            clear H
            go_wp2
            (try simp only[←hl15_2])
            go_roundg k3
            case measure=>have:=HK1.out;have:=HK2.out;have:=HK3.out;omega
            case rel=>exact⟨(x1_3),(wrap64 (x20_1+1)),a8,H',⟨by have:=HK1.out;have:=HK2.out;have:=HK3.out;omega⟩,⟨by(try simp only[hl15_2]);(with_reducible repeat(first|apply Kd.bI|apply Kd.bL|apply Kd.bM));exact Kd.bE HO_1.out (fun _ hk=>hk.1)⟩,⟨im⟩,⟨ak⟩⟩
     ·rw[if_neg ek] at H
      exact absurd H (by simp)
    ·rw[if_neg c9] at H
     exact absurd H (by simp)
   ·rw[if_neg c8] at H
    have c8b0:=decide_eq_false c8
    clear c8
    obtain rfl:=Option.some.inj H
    go_wp2
    first|go_end0|((try simp only[Exit.inBlock,Exit.then]);refine bodyPost_ret (results_none rfl _ _ _) rfl ?_)
    exact⟨a8,bK HO_1.out,ak,im⟩
end Go.Proofs.YtndkmnjbjlfeaaaGreat.XE
end
section
namespace Go.Proofs.YtndkmnjbjlfeaaaGreat.XE
open Go.RowKit Go.Proofs.YtndkmnjbjlfeaaaGreat.Given Go.Proofs.YtndkmnjbjlfeaaaGreat.Row05 Go.Proofs.YtndkmnjbjlfeaaaGreat.XS Go.Proofs.YtndkmnjbjlfeaaaGreat.XT Go.Proofs.YtndkmnjbjlfeaaaGreat.XR Go.Proofs.YtndkmnjbjlfeaaaGreat.F06 Go.Proofs.YtndkmnjbjlfeaaaGreat.XK Go.Proofs.YtndkmnjbjlfeaaaGreat.XW Go.Proofs.YtndkmnjbjlfeaaaGreat.XG Go.Proofs.YtndkmnjbjlfeaaaGreat.XM Go.Proofs.YtndkmnjbjlfeaaaGreat.XC Go.Proofs.YtndkmnjbjlfeaaaGreatW.PrintWords Go.Proofs.YtndkmnjbjlfeaaaGreatW.PrintLast Go.Proofs.YtndkmnjbjlfeaaaGreatW.PrintMore
attribute [local go_sem] bU bS ct cr bw bz bP bT
set_option linter.unusedVariables false
set_option linter.unusedSimpArgs false
mutual
noncomputable def ba.l0:Nat→List (cn)→List Int→Int→Bool→Int→Int→List Int→List Int→Int→Int→Option (List Int×Int)
 |0,_,_,_,_,_,_,_,_,_,_=>none
 |k+1,x0,x1,x2,x3,x10,x12,x13,x45,x46,x47=>if x47<x46 then(if 0≤x47 then(if x47<(x45.length:Int) then(if 0≤(rd x45 x47) then(if(rd x45 x47)<(x1.length:Int) then(if x47<(x13.length:Int) then(ba.l0 k x0 x1 x2 x3 x10 x12 (x13.set (x47:Int).toNat (rd x1 (rd x45 x47))) x45 x46 (wrap64 (x47+1))) else(none)) else(none)) else(none)) else(none)) else(none)) else((aE.f k x0 x13 x2 x12 x12 1 x3).bind fun t146=>((aE.f k x0 t146 x12 1 x2 x12 x3).bind fun t147=>(if 0≤x10 then(if(x10:Int).toNat≤35184372088832 then((ax.f k x2 x12).bind fun t151=>(ba.l1 k t147 (List.replicate (x10:Int).toNat 0) t151 (t151.length:Int) 0)) else(none)) else(none))))
noncomputable def ba.l1:Nat→List Int→List Int→List Int→Int→Int→Option (List Int×Int)
 |0,_,_,_,_,_=>none
 |k+1,x13,x16,x78,x79,x80=>if x80<x79 then(if 0≤x80 then(if x80<(x78.length:Int) then(if 0≤(rd x78 x80) then(if(rd x78 x80)<(x13.length:Int) then(if x80<(x16.length:Int) then(ba.l1 k x13 (x16.set (x80:Int).toNat (rd x13 (rd x78 x80))) x78 x79 (wrap64 (x80+1))) else(none)) else(none)) else(none)) else(none)) else(none)) else(some (x16,0))
end
noncomputable def ba.f(k:Nat)(l0:List (cn))(l1:List Int)(a2:Int)(a3:Bool):Option (List Int×Int):=(da.f l0 (l1.length:Int) 1024).bind fun t134=>(if t134=0 then((bo.f k (l1.length:Int) a2).bind fun t135=>(if t135=true then((cJ.f k l0 l1).bind fun t136=>(if t136=true then(if a2=0 then(none) else(if 0≤(l1.length:Int) then(if((l1.length:Int):Int).toNat≤35184372088832 then((aZ.f k a2 (wrap64 (Int.tdiv (l1.length:Int) a2))).bind fun t140=>(ba.l0 k l0 l1 a2 a3 (l1.length:Int) (wrap64 (Int.tdiv (l1.length:Int) a2)) (List.replicate ((l1.length:Int):Int).toNat 0) t140 (t140.length:Int) 0)) else(none)) else(none))) else(some (([]:List Int),9)))) else(some (([]:List Int),11)))) else(some (([]:List Int),t134)))
set_option maxHeartbeats 8000000 in
set_option maxRecDepth 100000 in
theorem ba.calls(k:Nat)(A0:Option Addr)(c0:Nat)(l0:List (cn))(A1:Option Addr)(c1:Nat)(l1:List Int)(a2:Int)(a3:Bool)(r1:List Int)(r2:Int)(w:World)(hr0:Kd.C fB w A0 l0.length l0)(hc0:l0.length≤c0)(hr1:Kd.C (Kd.int .u64) w A1 l1.length l1)(hc1:l1.length≤c1)(h:ba.f k l0 l1 a2 a3=some (r1,r2)):
  Calls Tryz.prog 45 #[bh (.slice A0 l0.length c0), .slice A1 l1.length c1, .int .i64 a2, .bool a3] w fun e w'=> ∃v0_:Value,e= .returned (.tuple #[v0_, .int .i64 r2])∧Kd.R (Kd.int .u64) 22 w' w.heap.size (fun _=>True) v0_ r1∧Below w.heap.size w w':=by
 have HR0:=aa.mk hr0
 have HC0:=aa.mk hc0
 clear hr0 hc0
 have HR1:=aa.mk hr1
 have HC1:=aa.mk hc1
 clear hr1 hc1
 have HB:=aa.mk (Below.refl w.heap.size w)
 have H:=h;unfold ba.f at H
 clear h
 replace H:=Option.bind_eq_some_iff.mp H
 obtain⟨t134,A50,H⟩:=H
 (try dsimp only at H)
 have A5:=aa.mk A50
 clear A50
 by_cases c6:t134=0
 ·rw[if_pos c6] at H
  have c6b0:=beq_iff_eq.mpr c6
  have c6b1:=bne_eq_false_iff_eq.mpr c6
  clear c6
  replace H:=Option.bind_eq_some_iff.mp H
  obtain⟨t135,A70,H⟩:=H
  (try dsimp only at H)
  have A7:=aa.mk A70
  clear A70
  by_cases c8:t135=true
  ·subst c8
   have H1:=H;rw[if_pos rfl] at H1
   clear H
   have H:=H1
   clear H1
   replace H:=Option.bind_eq_some_iff.mp H
   obtain⟨t136,A90,H⟩:=H
   (try dsimp only at H)
   have A9:=aa.mk A90
   clear A90
   by_cases ek:t136=true
   ·subst ek
    have H1:=H;rw[if_pos rfl] at H1
    clear H
    have H:=H1
    clear H1
    by_cases eW:a2=0
    ·rw[if_pos eW] at H
     exact absurd H (by simp)
    ·rw[if_neg eW] at H
     have c11b0:=beq_eq_false_iff_ne.mpr eW
     have c11b1:=bne_iff_ne.mpr eW
     obtain⟨q9_,hq9_⟩: ∃z_:Int,(wrap64 (Int.tdiv (l1.length:Int) a2))=z_:=⟨_,rfl⟩
     rw[hq9_] at H
     have hq9a_:wrap64 ((l1.length:Int)/a2)=q9_:=by rw[←hq9_,Int.tdiv_eq_ediv_of_nonneg (by omega)]
     have hq9b_:IntKind.i64.wrap ((l1.length:Int)/a2)=q9_:=by simp only[bp];exact hq9a_
     have hq9c_:IntKind.i64.wrap (Int.tdiv (l1.length:Int) a2)=q9_:=by simp only[bp];exact hq9_
     by_cases iR:0≤(l1.length:Int)
     ·rw[if_pos iR] at H
      have c12b0:=eq_true iR
      have c12b1:=decide_eq_true iR
      clear iR
      by_cases iG:((l1.length:Int):Int).toNat≤35184372088832
      ·rw[if_pos iG] at H
       have c13b0:=eq_true iG
       have c13b1:=decide_eq_true iG
       clear iG
       obtain⟨y137,hy137⟩: ∃y_:List Int,y_=(List.replicate ((l1.length:Int):Int).toNat 0):=⟨_,rfl⟩
       replace H:((aZ.f k a2 q9_).bind fun t140=>(ba.l0 k l0 l1 a2 a3 (l1.length:Int) q9_ y137 t140 (t140.length:Int) 0))=some (r1,r2):=by first|(rw[hy137];with_reducible exact H)|(have H2_:=(Option.bind_some _ _).symm.trans H;rw[hy137];with_reducible exact H2_)|(have H2_:=(Option.bind_some _ _).symm.trans H;with_reducible exact H2_)|with_reducible exact H|(rw[hy137];exact H)|exact H
       have Ny137:=aa.mk hy137
       clear hy137
       replace H:=Option.bind_eq_some_iff.mp H
       obtain⟨t140,A140,H⟩:=H
       (try dsimp only at H)
       have A14:=aa.mk A140
       clear A140
       have H':=aa.mk H
       clear H
       go_enter Tryz.func45,Tryz.ntmps45
       go_wp2_with (first|((with_reducible refine aM (f:=23) rfl ?_);refine cj (some 23) rfl rfl Tryz.func23 (by kernel_rfl) rfl #[bh (.slice A0 l0.length c0), .int .i64 (l1.length:Int), .int .i64 1024] rfl (by(try simp only[List.map_toArray,List.map_cons,List.map_nil]);first|done|(rw[hT_HR0]<;>rfl)|rfl|(simp only[List.length_drop,List.length_take];rfl)) ?_;(try rw[←hT_HR0]);(with_reducible refine(da.calls _ _ l0 (l1.length:Int) 1024 t134 _ ?side1 ?side2 A5.out).mono ?_);(case side1=>exact cw HR0.out);(case side2=>exact HC0.out);rintro e w' ⟨rfl,⟨nd,rfl⟩⟩;refine⟨_,rfl,?_⟩)|(refine fh 31 Tryz.func84 #[.int .i64 (l1.length:Int), .int .i64 a2] rfl ?_;(with_reducible refine(bo.calls k (l1.length:Int) a2 true _ A7.out).mono ?_);rintro e w' ⟨rfl,⟨nd,rfl⟩⟩;refine⟨_,rfl,?_⟩)|((with_reducible refine aM (f:=24) rfl ?_);refine cj (some 36) rfl rfl Tryz.func24 (by kernel_rfl) rfl #[bh (.slice A0 l0.length c0), .slice A1 l1.length c1] rfl (by(try simp only[List.map_toArray,List.map_cons,List.map_nil]);first|done|(rw[hT_HR0]<;>rfl)|rfl|(simp only[List.length_drop,List.length_take];rfl)) ?_;(try rw[←hT_HR0]);(with_reducible refine(cJ.calls k _ _ l0 _ _ l1 true _ ?side1 ?side2 ?side3 ?side4 A9.out).mono ?_);(case side1=>exact cw HR0.out);(case side2=>exact HC0.out);(case side3=>exact cw HR1.out);(case side4=>exact HC1.out);rintro e w' ⟨rfl,⟨nd,rfl⟩⟩;refine⟨_,rfl,?_⟩)|((with_reducible refine bk (N:=42) rfl ?_);refine Kd.jc (Kd.int .u64) _ 22 rfl (N:=42) rfl 26 _ _ rfl (l1.length:Int) rfl rfl Tryz.underlying26 (.int .u64 0) 8 gE rfl (by decide) (by omega) 0 (ok:=fun _=>True) (okp:=fun _=>True) rfl (fun _ hk=>hk) trivial (of_decide_eq_true (by assumption)) (Nat.le_trans (Nat.mul_le_mul_right _ (of_decide_eq_true (by assumption):(l1.length:Int).toNat≤35184372088832)) (by omega)) (Below.refl _ _) (Nat.le_refl _) ?_;intro v138 w15 ho16 hb hg_ hnew_;clear hg_ hnew_;(first|rw[←Ny137.out] at ho16|(simp only[Int.reduceToNat] at ho16;rw[←Ny137.out] at ho16));have n0_:=aa.mk (Kd.bN ho16 (ai ak));have n1_:=aa.mk (ah ak hb);clear HB;have HO139:=n0_;have HB:=n1_;clear n0_ n1_;clear hb ho16)|(refine fh 45 Tryz.func82 #[.int .i64 a2, .int .i64 q9_] rfl ?_;(with_reducible refine(aZ.calls k a2 q9_ t140 _ A14.out).mono ?_);rintro e w17 ⟨v141,rfl,ho0,hb⟩;refine⟨_,rfl,?_⟩;have n0_:=aa.mk (Kd.dp (bK HO139.out) hb);have n1_:=aa.mk (Kd.bN ho0 (ai ak));have n2_:=aa.mk (ah ak hb);clear HO139;clear HB;have HO139:=n0_;have HO142:=n1_;have HB:=n2_;clear n0_ n1_ n2_;(try clear ho0);obtain⟨Ao18,co18,eo18⟩:=Kd.cb HO142.out;subst eo18))
       go_loopg [47] k (fun kq v47 w'=> ∃(x13_1:List Int) (x47_1:Int),v47= .int .i64 x47_1∧aa (ba.l0 kq l0 l1 a2 a3 (l1.length:Int) q9_ x13_1 t140 (t140.length:Int) x47_1=some (r1,r2))∧aa (kq≤k)∧aa (Kd.R (Kd.int .u64) 22 w' w.heap.size (fun _=>True) v138 x13_1)∧aa (Kd.R (Kd.int .i64) 3 w' w.heap.size (fun _=>True) (.slice Ao18 t140.length co18) t140)∧aa (Below w.heap.size w w'))
       case atStart=>exact⟨(y137),(0),a8,H',⟨Nat.le_refl _⟩,⟨bK HO139.out⟩,⟨bK HO142.out⟩,⟨ak⟩⟩
       case round=>
        clear H'
        obtain⟨x13_1,x47_1,rfl,HA,HK1,HO_13,HO_45,HB⟩:=hrel
        cases gk with
        |zero=>exact absurd HA.out (by simp[ba.l0])
        |succ k1=>
         have H:=HA.out
         clear HA
         simp only[ba.l0] at H
         by_cases mD:x47_1<(t140.length:Int)
         ·rw[if_pos mD] at H
          have c19b0:=decide_eq_true mD
          clear mD
          by_cases pg:0≤x47_1
          ·rw[if_pos pg] at H
           have c20b0:=decide_eq_true pg
           clear pg
           by_cases mq:x47_1<(t140.length:Int)
           ·rw[if_pos mq] at H
            have c21b0:=decide_eq_true mq
            clear mq
            by_cases mA:0≤(rd t140 x47_1)
            ·rw[if_pos mA] at H
             have c22b0:=decide_eq_true mA
             clear mA
             by_cases jn:(rd t140 x47_1)<(l1.length:Int)
             ·rw[if_pos jn] at H
              have c23b0:=decide_eq_true jn
              clear jn
              by_cases mC:x47_1<(x13_1.length:Int)
              ·rw[if_pos mC] at H
               have c24b0:=decide_eq_true mC
               clear mC
               obtain⟨y145,hy145⟩: ∃y_:List Int,y_=(x13_1.set (x47_1:Int).toNat (rd l1 (rd t140 x47_1))):=⟨_,rfl⟩
               replace H:(ba.l0 k1 l0 l1 a2 a3 (l1.length:Int) q9_ y145 t140 (t140.length:Int) (wrap64 (x47_1+1)))=some (r1,r2):=by first|(rw[hy145];with_reducible exact H)|(have H2_:=(Option.bind_some _ _).symm.trans H;rw[hy145];with_reducible exact H2_)|(have H2_:=(Option.bind_some _ _).symm.trans H;with_reducible exact H2_)|with_reducible exact H|(rw[hy145];exact H)|exact H
               have Ny145:=aa.mk hy145
               clear hy145
               have H':=aa.mk H
               clear H
               have p143:0≤(x47_1:Int):=of_decide_eq_true (by assumption)
               have q143:x47_1<(t140.length:Int):=of_decide_eq_true (by assumption)
               obtain⟨ad143,e143,hx143_0⟩:=Kd.cR (Kd.aT HO_45.out).2.2 x47_1 p143 q143
               cases e143
               replace p143:=eq_true p143
               replace q143:=eq_true q143
               have p144:0≤((rd t140 x47_1):Int):=of_decide_eq_true (by assumption)
               have q144:(rd t140 x47_1)<(l1.length:Int):=of_decide_eq_true (by assumption)
               obtain⟨ad144,e144,hx144_0⟩:=Kd.cR HR1.out (rd t140 x47_1) p144 q144
               cases e144
               replace hx144_0:=dP HB.out hx144_0
               replace p144:=eq_true p144
               replace q144:=eq_true q144
               have p25:0≤(x47_1:Int):=of_decide_eq_true (by assumption)
               have q25:(x47_1:Int)<((x13_1.length:Int):Int):=of_decide_eq_true (by assumption)
               obtain⟨go25,co25,eo25,gb25,gl25,cl25,HG25⟩:=Kd.fY HO_13.out (by omega)
               (first|cases eo25|(injection eo25 with ea_ en_ ec_;(first|subst ea_|(injection ea_ with ea_;subst ea_));subst ec_;clear en_))
               have GB25:=aa.mk gb25
               have GG25:=aa.mk HG25
               clear gb25 gl25 HG25
               obtain⟨hx25_0,hf25_0⟩:=Kd.eE 0 HO_13.out (x47_1:Int) p25 q25
               replace p25:=eq_true p25
               replace q25:=eq_true q25
               have HP26:=Kd.iF HO_13.out (x47_1:Int) (rd l1 (rd t140 x47_1))
               go_wp2_with (first|((with_reducible refine eQ (t:=22) (p:=58) rfl ?_);refine eC (t:=22) (p:=58) (v:=?vo_w27) (w1:=(wr.setCell ⟨go25,(x47_1:Int).toNat,none⟩ (.int .u64 (rd l1 (rd t140 x47_1))))) ?hg ?ho ?hn ?hr ?_;(case ho=>rfl);(case hg=>rfl);(case hn=>rfl);(case hr=>first|(go_simp;done)|(go_simp;rfl));intro w27 hw;have hg:wr.grownBy w27 (some go25):=(by rw[hw];exact HP26.2);have hp_:Kd.R (Kd.int .u64) 22 w27 w.heap.size (fun _=>True) (.slice (some ⟨go25,0,none⟩) x13_1.length co25) y145:=(by rw[hw,Ny145.out];exact HP26.1);clear HP26;have n0_:=aa.mk (hp_);have n1_:=aa.mk (Kd.sl (v:=(.slice (some ⟨go25,0,none⟩) x13_1.length co25)) (bK HO_45.out) (Kd.jX HO_13.out) (by decide) hg);have n2_:=aa.mk ((by rw[hw];exact cg (HB.out) GB25.out:Below w.heap.size w w27));clear HO_13;clear HO_45;clear HB;have HO_13:=n0_;have HO_45:=n1_;have HB:=n2_;clear n0_ n1_ n2_;clear hg hw hp_))
               go_roundg k1
               case measure=>have:=HK1.out;omega
               case rel=>exact⟨(y145),(wrap64 (x47_1+1)),a8,H',⟨by have:=HK1.out;omega⟩,⟨bK HO_13.out⟩,⟨bK HO_45.out⟩,⟨ak⟩⟩
              ·rw[if_neg mC] at H
               exact absurd H (by simp)
             ·rw[if_neg jn] at H
              exact absurd H (by simp)
            ·rw[if_neg mA] at H
             exact absurd H (by simp)
           ·rw[if_neg mq] at H
            exact absurd H (by simp)
          ·rw[if_neg pg] at H
           exact absurd H (by simp)
         ·rw[if_neg mD] at H
          have c19b0:=decide_eq_false mD
          clear mD
          replace H:=Option.bind_eq_some_iff.mp H
          obtain⟨t146,A280,H⟩:=H
          (try dsimp only at H)
          have A28:=aa.mk A280
          clear A280
          replace H:=Option.bind_eq_some_iff.mp H
          obtain⟨t147,A290,H⟩:=H
          (try dsimp only at H)
          have A29:=aa.mk A290
          clear A290
          by_cases uj:0≤(l1.length:Int)
          ·rw[if_pos uj] at H
           have c30b0:=eq_true uj
           have c30b1:=decide_eq_true uj
           clear uj
           by_cases kv:((l1.length:Int):Int).toNat≤35184372088832
           ·rw[if_pos kv] at H
            have c31b0:=eq_true kv
            have c31b1:=decide_eq_true kv
            clear kv
            obtain⟨y148,hy148⟩: ∃y_:List Int,y_=(List.replicate ((l1.length:Int):Int).toNat 0):=⟨_,rfl⟩
            replace H:((ax.f k1 a2 q9_).bind fun t151=>(ba.l1 k1 t147 y148 t151 (t151.length:Int) 0))=some (r1,r2):=by first|(rw[hy148];with_reducible exact H)|(have H2_:=(Option.bind_some _ _).symm.trans H;rw[hy148];with_reducible exact H2_)|(have H2_:=(Option.bind_some _ _).symm.trans H;with_reducible exact H2_)|with_reducible exact H|(rw[hy148];exact H)|exact H
            have Ny148:=aa.mk hy148
            clear hy148
            replace H:=Option.bind_eq_some_iff.mp H
            obtain⟨t151,A320,H⟩:=H
            (try dsimp only at H)
            have A32:=aa.mk A320
            clear A320
            have H':=aa.mk H
            clear H
            obtain⟨Ao33,co33,eo33⟩:=Kd.cb HO_13.out
            subst eo33
            go_wp2_with (first|((with_reducible refine aM (f:=86) rfl ?_);refine cj (some 66) rfl rfl Tryz.func86 (by kernel_rfl) rfl #[bh (.slice A0 l0.length c0), .slice Ao33 x13_1.length co33, .int .i64 a2, .int .i64 q9_, .int .i64 q9_, .int .i64 1, .bool a3] rfl (by(try simp only[List.map_toArray,List.map_cons,List.map_nil]);first|done|(rw[hT_HR0]<;>rfl)|rfl|(simp only[List.length_drop,List.length_take];rfl)) ?_;(try rw[←hT_HR0]);(with_reducible refine(aE.calls k1 _ _ l0 (fun k_=>some k_=(.slice Ao33 x13_1.length co33:Value).ownBlock) (.slice Ao33 x13_1.length co33) x13_1 a2 q9_ q9_ 1 a3 t146 w _ ?side1 ?side2 ?side3 ?side4 A28.out).mono ?_);(case side1=>repeat(first|(with_reducible first|exact HB.out|apply aQ|apply ay|apply bs)|exact HB.out));(case side2=>exact Kd.ju lI HR0.out ak (fun k_ hs_=>(fun e_=>Kd.dS HO_13.out k_ e_.symm) hs_));(case side3=>exact HC0.out);(case side4=>exact Kd.iW rfl HO_13.out);rintro e w34 ⟨rfl,hy0,hb,hkp⟩;refine⟨_,rfl,?_⟩;have n0_:=aa.mk (Kd.mB rfl hy0 (fun k_ e_=>HO_13.out.1 k_ e_));have n1_:=aa.mk (Kd.bE (ok':=fun k_=>True) (Kd.mx ((Kd.jw HO_45.out (Kd.jX HO_13.out) (by decide))) hkp (fun k_ hk_ hs_=>(hk_.2) hs_)) (fun k_ hk_=>trivial));have n2_:=aa.mk (hb);clear HO_13;clear HO_45;clear HB;have HO_13:=n0_;have HO_45:=n1_;have HB:=n2_;clear n0_ n1_ n2_;(try clear hb);(try clear hkp);(try clear hy0))|((with_reducible refine aM (f:=86) rfl ?_);refine cj (some 73) rfl rfl Tryz.func86 (by kernel_rfl) rfl #[bh (.slice A0 l0.length c0), .slice Ao33 x13_1.length co33, .int .i64 q9_, .int .i64 1, .int .i64 a2, .int .i64 q9_, .bool a3] rfl (by(try simp only[List.map_toArray,List.map_cons,List.map_nil]);first|done|(rw[hT_HR0]<;>rfl)|rfl|(simp only[List.length_drop,List.length_take];rfl)) ?_;(try rw[←hT_HR0]);(with_reducible refine(aE.calls k1 _ _ l0 (fun k_=>some k_=(.slice Ao33 x13_1.length co33:Value).ownBlock) (.slice Ao33 x13_1.length co33) t146 q9_ 1 a2 q9_ a3 t147 w _ ?side1 ?side2 ?side3 ?side4 A29.out).mono ?_);(case side1=>repeat(first|(with_reducible first|exact HB.out|apply aQ|apply ay|apply bs)|exact HB.out));(case side2=>exact Kd.ju lI HR0.out ak (fun k_ hs_=>(fun e_=>Kd.dS HO_13.out k_ e_.symm) hs_));(case side3=>exact HC0.out);(case side4=>exact Kd.iW rfl HO_13.out);rintro e w35 ⟨rfl,hy0,hb,hkp⟩;refine⟨_,rfl,?_⟩;have n0_:=aa.mk (Kd.mB rfl hy0 (fun k_ e_=>HO_13.out.1 k_ e_));have n1_:=aa.mk (Kd.bE (ok':=fun k_=>True) (Kd.mx ((Kd.jw HO_45.out (Kd.jX HO_13.out) (by decide))) hkp (fun k_ hk_ hs_=>(hk_.2) hs_)) (fun k_ hk_=>trivial));have n2_:=aa.mk (hb);clear HO_13;clear HO_45;clear HB;have HO_13:=n0_;have HO_45:=n1_;have HB:=n2_;clear n0_ n1_ n2_;(try clear hb);(try clear hkp);(try clear hy0))|((with_reducible refine bk (N:=75) rfl ?_);refine Kd.jc (Kd.int .u64) _ 22 rfl (N:=75) rfl 26 _ _ rfl (l1.length:Int) rfl rfl Tryz.underlying26 (.int .u64 0) 8 gE rfl (by decide) (by omega) 0 (ok:=fun _=>True) (okp:=fun _=>True) rfl (fun _ hk=>hk) trivial (of_decide_eq_true (by assumption)) (Nat.le_trans (Nat.mul_le_mul_right _ (of_decide_eq_true (by assumption):(l1.length:Int).toNat≤35184372088832)) (by omega)) (Below.refl _ _) (Nat.le_refl _) ?_;intro v149 w36 ho37 hb hg_ hnew_;clear hg_ hnew_;(first|rw[←Ny148.out] at ho37|(simp only[Int.reduceToNat] at ho37;rw[←Ny148.out] at ho37));have n0_:=aa.mk (Kd.dm (bK HO_13.out) (Kd.dS ho37) hb);have n1_:=aa.mk (Kd.dp (bK HO_45.out) hb);have n2_:=aa.mk (Kd.bN (Kd.eD ho37 (Kd.ik (bK HO_13.out))) (ai ak));have n3_:=aa.mk (ah ak hb);clear HO_13;clear HO_45;clear HB;have HO_13:=n0_;have HO_45:=n1_;have HO150:=n2_;have HB:=n3_;clear n0_ n1_ n2_ n3_;clear hb ho37)|(refine fh 78 Tryz.func83 #[.int .i64 a2, .int .i64 q9_] rfl ?_;(with_reducible refine(ax.calls k1 a2 q9_ t151 _ A32.out).mono ?_);rintro e w38 ⟨v152,rfl,ho0,hb⟩;refine⟨_,rfl,?_⟩;have n0_:=aa.mk (Kd.dp (bK HO_13.out) hb);have n1_:=aa.mk (Kd.dm (bK HO_45.out) (Kd.dS ho0) hb);have n2_:=aa.mk (Kd.dp (bK HO150.out) hb);have n3_:=aa.mk (Kd.bN (Kd.eD ho0 (Kd.ik (bK HO_45.out))) (ai ak));have n4_:=aa.mk (ah ak hb);clear HO_13;clear HO_45;clear HO150;clear HB;have HO_13:=n0_;have HO_45:=n1_;have HO150:=n2_;have HO153:=n3_;have HB:=n4_;clear n0_ n1_ n2_ n3_ n4_;(try clear ho0);obtain⟨Ao39,co39,eo39⟩:=Kd.cb HO153.out;subst eo39))
            go_loopg [80] k1 (fun kq v80 w'=> ∃(x16_2:List Int) (x80_2:Int),v80= .int .i64 x80_2∧aa (ba.l1 kq t147 x16_2 t151 (t151.length:Int) x80_2=some (r1,r2))∧aa (kq≤k1)∧aa (Kd.R (Kd.int .u64) 22 w' w.heap.size (fun k_=>some k_≠(v149:Value).ownBlock) (.slice Ao33 x13_1.length co33) t147)∧aa (Kd.R (Kd.int .u64) 22 w' w.heap.size (fun k_=>some k_≠((.slice Ao33 x13_1.length co33):Value).ownBlock) v149 x16_2)∧aa (Kd.R (Kd.int .i64) 3 w' w.heap.size (fun _=>True) (.slice Ao39 t151.length co39) t151)∧aa (Below w.heap.size w w'))
            case atStart=>exact⟨(y148),(0),a8,H',⟨Nat.le_refl _⟩,⟨by(with_reducible repeat(first|apply Kd.bI|apply Kd.bL|apply Kd.bM));exact Kd.bE HO_13.out (fun _ hk=>hk.2)⟩,⟨by(with_reducible repeat(first|apply Kd.bI|apply Kd.bL|apply Kd.bM));exact Kd.bE HO150.out (fun _ hk=>hk.2)⟩,⟨by(with_reducible repeat(first|apply Kd.bI|apply Kd.bL|apply Kd.bM));exact Kd.bE HO153.out (fun _ hk=>trivial)⟩,⟨ak⟩⟩
            case round=>
             clear H'
             try clear hx1
             try clear hx2
             try clear hx14
             try clear hx25
             try clear hf25
             try clear hx143_0
             try clear hx144_0
             try clear hx25_0
             obtain⟨x16_2,x80_2,rfl,HA,HK2,HO_13,HO_16,HO_78,HB⟩:=hrel
             have hl13_2:=(Kd.aT HO_13.out).1
             rw[hl13_2] at HO_13
             (try simp only[hl13_2])
             (try simp only[hl13_2] at HO_16)
             (try simp only[hl13_2] at HO_78)
             cases gk with
             |zero=>exact absurd HA.out (by simp[ba.l1])
             |succ k2=>
              have H:=HA.out
              clear HA
              simp only[ba.l1] at H
              by_cases c40:x80_2<(t151.length:Int)
              ·rw[if_pos c40] at H
               have c40b0:=decide_eq_true c40
               (try(have c40b0hl13_2:=c40b0;simp only[hl13_2] at c40b0hl13_2))
               clear c40
               by_cases c41:0≤x80_2
               ·rw[if_pos c41] at H
                have c41b0:=decide_eq_true c41
                clear c41
                by_cases c42:x80_2<(t151.length:Int)
                ·rw[if_pos c42] at H
                 have c42b0:=decide_eq_true c42
                 (try(have c42b0hl13_2:=c42b0;simp only[hl13_2] at c42b0hl13_2))
                 clear c42
                 by_cases c43:0≤(rd t151 x80_2)
                 ·rw[if_pos c43] at H
                  have c43b0:=decide_eq_true c43
                  clear c43
                  by_cases c44:(rd t151 x80_2)<(t147.length:Int)
                  ·rw[if_pos c44] at H
                   have c44b0:=decide_eq_true c44
                   (try(have c44b0hl13_2:=c44b0;simp only[hl13_2] at c44b0hl13_2))
                   clear c44
                   by_cases c45:x80_2<(x16_2.length:Int)
                   ·rw[if_pos c45] at H
                    have c45b0:=decide_eq_true c45
                    (try(have c45b0hl13_2:=c45b0;simp only[hl13_2] at c45b0hl13_2))
                    clear c45
                    obtain⟨y156,hy156⟩: ∃y_:List Int,y_=(x16_2.set (x80_2:Int).toNat (rd t147 (rd t151 x80_2))):=⟨_,rfl⟩
                    replace H:(ba.l1 k2 t147 y156 t151 (t151.length:Int) (wrap64 (x80_2+1)))=some (r1,r2):=by first|(rw[hy156];with_reducible exact H)|(have H2_:=(Option.bind_some _ _).symm.trans H;rw[hy156];with_reducible exact H2_)|(have H2_:=(Option.bind_some _ _).symm.trans H;with_reducible exact H2_)|with_reducible exact H|(rw[hy156];exact H)|exact H
                    have Ny156:=aa.mk hy156
                    clear hy156
                    have H':=aa.mk H
                    clear H
                    have p154:0≤(x80_2:Int):=of_decide_eq_true (by assumption)
                    have q154:x80_2<(t151.length:Int):=of_decide_eq_true (by assumption)
                    obtain⟨ad154,e154,hx154_0⟩:=Kd.cR (Kd.aT HO_78.out).2.2 x80_2 p154 q154
                    cases e154
                    replace p154:=eq_true p154
                    replace q154:=eq_true q154
                    have p155:0≤((rd t151 x80_2):Int):=of_decide_eq_true (by assumption)
                    have q155:(rd t151 x80_2)<(t147.length:Int):=of_decide_eq_true (by assumption)
                    obtain⟨ad155,e155,hx155_0⟩:=Kd.cR (Kd.aT HO_13.out).2.2 (rd t151 x80_2) p155 q155
                    cases e155
                    replace p155:=eq_true p155
                    replace q155:=eq_true q155
                    have p46:0≤(x80_2:Int):=of_decide_eq_true (by assumption)
                    have q46:(x80_2:Int)<((x16_2.length:Int):Int):=of_decide_eq_true (by assumption)
                    obtain⟨go46,co46,eo46,gb46,gl46,cl46,HG46⟩:=Kd.fY HO_16.out (by omega)
                    (first|cases eo46|(injection eo46 with ea_ en_ ec_;(first|subst ea_|(injection ea_ with ea_;subst ea_));subst ec_;clear en_))
                    have GB46:=aa.mk gb46
                    have GG46:=aa.mk HG46
                    clear gb46 gl46 HG46
                    obtain⟨hx46_0,hf46_0⟩:=Kd.eE 0 HO_16.out (x80_2:Int) p46 q46
                    replace p46:=eq_true p46
                    replace q46:=eq_true q46
                    have HP47:=Kd.iF HO_16.out (x80_2:Int) (rd t147 (rd t151 x80_2))
                    go_wp2_with (first|((with_reducible refine eQ (t:=22) (p:=91) rfl ?_);refine eC (t:=22) (p:=91) (v:=?vo_w48) (w1:=(wr.setCell ⟨go46,(x80_2:Int).toNat,none⟩ (.int .u64 (rd t147 (rd t151 x80_2))))) ?hg ?ho ?hn ?hr ?_;(case ho=>rfl);(case hg=>rfl);(case hn=>rfl);(case hr=>first|(go_simp;done)|(go_simp;rfl));intro w48 hw;have hg:wr.grownBy w48 (some go46):=(by rw[hw];exact HP47.2);have hp_:Kd.R (Kd.int .u64) 22 w48 w.heap.size (fun k_=>some k_≠(.slice (some ad155) t147.length co33:Value).ownBlock) (.slice (some ⟨go46,0,none⟩) x16_2.length co46) y156:=(by rw[hw,Ny156.out];exact HP47.1);clear HP47;have n0_:=aa.mk (Kd.jZ (v:=(.slice (some ⟨go46,0,none⟩) x16_2.length co46)) (v1:=(.slice (some ⟨go46,0,none⟩) x16_2.length co46)) (ok:=(fun _=>True)) (by(with_reducible repeat(first|apply Kd.bI|apply Kd.bL|apply Kd.bM));exact Kd.bE HO_13.out (fun _ hk=>⟨trivial,hk⟩)) hg (.inl rfl));have n1_:=aa.mk (hp_);have n2_:=aa.mk (Kd.sl (v:=(.slice (some ⟨go46,0,none⟩) x16_2.length co46)) (bK HO_78.out) (Kd.jX HO_16.out) (by decide) hg);have n3_:=aa.mk ((by rw[hw];exact cg (HB.out) GB46.out:Below w.heap.size w w48));clear HO_13;clear HO_16;clear HO_78;clear HB;have HO_13:=n0_;have HO_16:=n1_;have HO_78:=n2_;have HB:=n3_;clear n0_ n1_ n2_ n3_;clear hg hw hp_))
                    (try simp only[←hl13_2])
                    go_roundg k2
                    case measure=>have:=HK1.out;have:=HK2.out;omega
                    case rel=>exact⟨(y156),(wrap64 (x80_2+1)),a8,H',⟨by have:=HK1.out;have:=HK2.out;omega⟩,⟨by(try simp only[hl13_2]);(with_reducible repeat(first|apply Kd.bI|apply Kd.bL|apply Kd.bM));exact Kd.bE HO_13.out (fun _ hk=>hk.2)⟩,⟨by(try simp only[hl13_2]);(with_reducible repeat(first|apply Kd.bI|apply Kd.bL|apply Kd.bM));exact HO_16.out⟩,⟨by(try simp only[hl13_2]);(with_reducible repeat(first|apply Kd.bI|apply Kd.bL|apply Kd.bM));exact HO_78.out⟩,⟨ak⟩⟩
                   ·rw[if_neg c45] at H
                    exact absurd H (by simp)
                  ·rw[if_neg c44] at H
                   exact absurd H (by simp)
                 ·rw[if_neg c43] at H
                  exact absurd H (by simp)
                ·rw[if_neg c42] at H
                 exact absurd H (by simp)
               ·rw[if_neg c41] at H
                exact absurd H (by simp)
              ·rw[if_neg c40] at H
               have c40b0:=decide_eq_false c40
               (try(have c40b0hl13_2:=c40b0;simp only[hl13_2] at c40b0hl13_2))
               clear c40
               simp only[Option.some.injEq,Prod.mk.injEq] at H
               obtain⟨rfl,rfl⟩:=H
               go_wp2
               go_ret2
               exact⟨_,a8,by(with_reducible repeat(first|apply Kd.bI|apply Kd.bL|apply Kd.bM));exact Kd.bE HO_16.out (fun _ hk=>trivial),ak⟩
           ·rw[if_neg kv] at H
            exact absurd H (by simp)
          ·rw[if_neg uj] at H
           exact absurd H (by simp)
      ·rw[if_neg iG] at H
       exact absurd H (by simp)
     ·rw[if_neg iR] at H
      exact absurd H (by simp)
   ·replace ek:=Bool.eq_false_iff.mpr ek
    subst ek
    have H1:=H;rw[if_neg (show¬(false=true) by decide)] at H1
    clear H
    have H:=H1
    clear H1
    simp only[Option.some.injEq,Prod.mk.injEq] at H
    obtain⟨rfl,rfl⟩:=H
    go_enter Tryz.func45,Tryz.ntmps45
    go_wp2_with (first|((with_reducible refine aM (f:=23) rfl ?_);refine cj (some 23) rfl rfl Tryz.func23 (by kernel_rfl) rfl #[bh (.slice A0 l0.length c0), .int .i64 (l1.length:Int), .int .i64 1024] rfl (by(try simp only[List.map_toArray,List.map_cons,List.map_nil]);first|done|(rw[hT_HR0]<;>rfl)|rfl|(simp only[List.length_drop,List.length_take];rfl)) ?_;(try rw[←hT_HR0]);(with_reducible refine(da.calls _ _ l0 (l1.length:Int) 1024 t134 _ ?side1 ?side2 A5.out).mono ?_);(case side1=>exact cw HR0.out);(case side2=>exact HC0.out);rintro e w' ⟨rfl,⟨nd,rfl⟩⟩;refine⟨_,rfl,?_⟩)|(refine fh 31 Tryz.func84 #[.int .i64 (l1.length:Int), .int .i64 a2] rfl ?_;(with_reducible refine(bo.calls k (l1.length:Int) a2 true _ A7.out).mono ?_);rintro e w' ⟨rfl,⟨nd,rfl⟩⟩;refine⟨_,rfl,?_⟩)|((with_reducible refine aM (f:=24) rfl ?_);refine cj (some 36) rfl rfl Tryz.func24 (by kernel_rfl) rfl #[bh (.slice A0 l0.length c0), .slice A1 l1.length c1] rfl (by(try simp only[List.map_toArray,List.map_cons,List.map_nil]);first|done|(rw[hT_HR0]<;>rfl)|rfl|(simp only[List.length_drop,List.length_take];rfl)) ?_;(try rw[←hT_HR0]);(with_reducible refine(cJ.calls k _ _ l0 _ _ l1 false _ ?side1 ?side2 ?side3 ?side4 A9.out).mono ?_);(case side1=>exact cw HR0.out);(case side2=>exact HC0.out);(case side3=>exact cw HR1.out);(case side4=>exact HC1.out);rintro e w' ⟨rfl,⟨nd,rfl⟩⟩;refine⟨_,rfl,?_⟩))
    go_ret2
    exact⟨_,a8,by first|exact Kd.fW _ _ _ _ _|exact Kd.lY _ _ _ _ _|exact Kd.mc _ _ _ _ _|exact Kd.lN _ _ _ _ _|exact Kd.jv _ _ _ _ _,ak⟩
  ·replace c8:=Bool.eq_false_iff.mpr c8
   subst c8
   have H1:=H;rw[if_neg (show¬(false=true) by decide)] at H1
   clear H
   have H:=H1
   clear H1
   simp only[Option.some.injEq,Prod.mk.injEq] at H
   obtain⟨rfl,rfl⟩:=H
   go_enter Tryz.func45,Tryz.ntmps45
   go_wp2_with (first|((with_reducible refine aM (f:=23) rfl ?_);refine cj (some 23) rfl rfl Tryz.func23 (by kernel_rfl) rfl #[bh (.slice A0 l0.length c0), .int .i64 (l1.length:Int), .int .i64 1024] rfl (by(try simp only[List.map_toArray,List.map_cons,List.map_nil]);first|done|(rw[hT_HR0]<;>rfl)|rfl|(simp only[List.length_drop,List.length_take];rfl)) ?_;(try rw[←hT_HR0]);(with_reducible refine(da.calls _ _ l0 (l1.length:Int) 1024 t134 _ ?side1 ?side2 A5.out).mono ?_);(case side1=>exact cw HR0.out);(case side2=>exact HC0.out);rintro e w' ⟨rfl,⟨nd,rfl⟩⟩;refine⟨_,rfl,?_⟩)|(refine fh 31 Tryz.func84 #[.int .i64 (l1.length:Int), .int .i64 a2] rfl ?_;(with_reducible refine(bo.calls k (l1.length:Int) a2 false _ A7.out).mono ?_);rintro e w' ⟨rfl,⟨nd,rfl⟩⟩;refine⟨_,rfl,?_⟩))
   go_ret2
   exact⟨_,a8,by first|exact Kd.fW _ _ _ _ _|exact Kd.lY _ _ _ _ _|exact Kd.mc _ _ _ _ _|exact Kd.lN _ _ _ _ _|exact Kd.jv _ _ _ _ _,ak⟩
 ·rw[if_neg c6] at H
  have c6b0:=beq_eq_false_iff_ne.mpr c6
  have c6b1:=bne_iff_ne.mpr c6
  simp only[Option.some.injEq,Prod.mk.injEq] at H
  obtain⟨rfl,rfl⟩:=H
  go_enter Tryz.func45,Tryz.ntmps45
  go_wp2_with (first|((with_reducible refine aM (f:=23) rfl ?_);refine cj (some 23) rfl rfl Tryz.func23 (by kernel_rfl) rfl #[bh (.slice A0 l0.length c0), .int .i64 (l1.length:Int), .int .i64 1024] rfl (by(try simp only[List.map_toArray,List.map_cons,List.map_nil]);first|done|(rw[hT_HR0]<;>rfl)|rfl|(simp only[List.length_drop,List.length_take];rfl)) ?_;(try rw[←hT_HR0]);(with_reducible refine(da.calls _ _ l0 (l1.length:Int) 1024 t134 _ ?side1 ?side2 A5.out).mono ?_);(case side1=>exact cw HR0.out);(case side2=>exact HC0.out);rintro e w' ⟨rfl,⟨nd,rfl⟩⟩;refine⟨_,rfl,?_⟩))
  go_ret2
  exact⟨_,a8,by first|exact Kd.fW _ _ _ _ _|exact Kd.lY _ _ _ _ _|exact Kd.mc _ _ _ _ _|exact Kd.lN _ _ _ _ _|exact Kd.jv _ _ _ _ _,ak⟩
noncomputable def bq.l0:Nat→List Int→List Int→Int→Int→Option (Bool)
 |0,_,_,_,_=>none
 |k+1,x0,x1,x12,x13=>if x13<x12 then(if 0≤x13 then(if x13<(x0.length:Int) then(if x13<(x1.length:Int) then(if(rd x0 x13)=(rd x1 x13) then(bq.l0 k x0 x1 x12 (wrap64 (x13+1))) else(some false)) else(none)) else(none)) else(none)) else(some true)
noncomputable def bq.f(k:Nat)(l0:List Int)(l1:List Int):Option (Bool):=if(l0.length:Int)=(l1.length:Int) then(bq.l0 k l0 l1 (l0.length:Int) 0) else(some false)
set_option maxHeartbeats 8000000 in
set_option maxRecDepth 100000 in
theorem bq.calls(k:Nat)(A0:Option Addr)(c0:Nat)(l0:List Int)(A1:Option Addr)(c1:Nat)(l1:List Int)(r:Bool)(w:World)(hr0:Kd.C (Kd.int .u64) w A0 l0.length l0)(hc0:l0.length≤c0)(hr1:Kd.C (Kd.int .u64) w A1 l1.length l1)(hc1:l1.length≤c1)(h:bq.f k l0 l1=some r):
  Calls Tryz.prog 46 #[.slice A0 l0.length c0, .slice A1 l1.length c1] w fun e w'=>e= .returned (.bool r)∧au w w':=by
 have HR0:=aa.mk hr0
 have HC0:=aa.mk hc0
 clear hr0 hc0
 have HR1:=aa.mk hr1
 have HC1:=aa.mk hc1
 clear hr1 hc1
 have H:=h;unfold bq.f at H
 clear h
 by_cases c3:(l0.length:Int)=(l1.length:Int)
 ·rw[if_pos c3] at H
  have c3b0:=beq_iff_eq.mpr c3
  have c3b1:=bne_eq_false_iff_eq.mpr c3
  have c3b2:(l0.length==l1.length)=true:=by first|simpa using c3|(simp at c3 ⊢;omega)
  clear c3
  have H':=aa.mk H
  clear H
  go_enter Tryz.func46,Tryz.ntmps46
  go_wp2
  go_loopg [13] k (fun kq v13 w'=> ∃(x13_1:Int),v13= .int .i64 x13_1∧aa (bq.l0 kq l0 l1 (l0.length:Int) x13_1=some r)∧aa (kq≤k)∧au w w')
  case atStart=>exact⟨(0),a8,H',⟨Nat.le_refl _⟩,dk⟩
  case round=>
   clear H'
   obtain⟨x13_1,rfl,HA,HK1,⟨m1,rfl⟩⟩:=hrel
   cases gk with
   |zero=>exact absurd HA.out (by simp[bq.l0])
   |succ k1=>
    have H:=HA.out
    clear HA
    simp only[bq.l0] at H
    by_cases c4:x13_1<(l0.length:Int)
    ·rw[if_pos c4] at H
     have c4b0:=decide_eq_true c4
     clear c4
     by_cases c5:0≤x13_1
     ·rw[if_pos c5] at H
      have c5b0:=decide_eq_true c5
      clear c5
      by_cases c6:x13_1<(l0.length:Int)
      ·rw[if_pos c6] at H
       have c6b0:=decide_eq_true c6
       clear c6
       by_cases c7:x13_1<(l1.length:Int)
       ·rw[if_pos c7] at H
        have c7b0:=decide_eq_true c7
        clear c7
        by_cases c8:(rd l0 x13_1)=(rd l1 x13_1)
        ·rw[if_pos c8] at H
         have c8b0:=beq_iff_eq.mpr c8
         have c8b1:=bne_eq_false_iff_eq.mpr c8
         clear c8
         have H':=aa.mk H
         clear H
         have p157:0≤(x13_1:Int):=of_decide_eq_true (by assumption)
         have q157:x13_1<(l0.length:Int):=of_decide_eq_true (by assumption)
         obtain⟨ad157,e157,hx157_0⟩:=Kd.cR HR0.out x13_1 p157 q157
         cases e157
         replace p157:=eq_true p157
         replace q157:=eq_true q157
         have p158:0≤(x13_1:Int):=of_decide_eq_true (by assumption)
         have q158:x13_1<(l1.length:Int):=of_decide_eq_true (by assumption)
         obtain⟨ad158,e158,hx158_0⟩:=Kd.cR HR1.out x13_1 p158 q158
         cases e158
         replace p158:=eq_true p158
         replace q158:=eq_true q158
         go_wp2
         repeat(go_quiet (fail);try go_wp2)
         go_roundg k1
         case measure=>have:=HK1.out;omega
         case rel=>exact⟨(wrap64 (x13_1+1)),a8,H',⟨by have:=HK1.out;omega⟩,dk⟩
        ·rw[if_neg c8] at H
         have c8b0:=beq_eq_false_iff_ne.mpr c8
         have c8b1:=bne_iff_ne.mpr c8
         obtain rfl:=Option.some.inj H
         have p157:0≤(x13_1:Int):=of_decide_eq_true (by assumption)
         have q157:x13_1<(l0.length:Int):=of_decide_eq_true (by assumption)
         obtain⟨ad157,e157,hx157_0⟩:=Kd.cR HR0.out x13_1 p157 q157
         cases e157
         replace p157:=eq_true p157
         replace q157:=eq_true q157
         have p158:0≤(x13_1:Int):=of_decide_eq_true (by assumption)
         have q158:x13_1<(l1.length:Int):=of_decide_eq_true (by assumption)
         obtain⟨ad158,e158,hx158_0⟩:=Kd.cR HR1.out x13_1 p158 q158
         cases e158
         replace p158:=eq_true p158
         replace q158:=eq_true q158
         go_wp2
         repeat(go_quiet (fail);try go_wp2)
         go_ret
         exact⟨a8,dk⟩
       ·rw[if_neg c7] at H
        exact absurd H (by simp)
      ·rw[if_neg c6] at H
       exact absurd H (by simp)
     ·rw[if_neg c5] at H
      exact absurd H (by simp)
    ·rw[if_neg c4] at H
     have c4b0:=decide_eq_false c4
     clear c4
     obtain rfl:=Option.some.inj H
     go_wp2
     go_ret
     exact⟨a8,dk⟩
 ·rw[if_neg c3] at H
  have c3b0:=beq_eq_false_iff_ne.mpr c3
  have c3b1:=bne_iff_ne.mpr c3
  have c3b2:(l0.length==l1.length)=false:=by first|simpa using c3|(simp at c3 ⊢;omega)
  obtain rfl:=Option.some.inj H
  go_enter Tryz.func46,Tryz.ntmps46
  go_wp2
  go_ret
  exact⟨a8,dk⟩
end Go.Proofs.YtndkmnjbjlfeaaaGreat.XE
end
section
namespace Go.Proofs.YtndkmnjbjlfeaaaGreat.XE
open Go.RowKit Go.Proofs.YtndkmnjbjlfeaaaGreat.Given Go.Proofs.YtndkmnjbjlfeaaaGreat.Row05 Go.Proofs.YtndkmnjbjlfeaaaGreat.XS Go.Proofs.YtndkmnjbjlfeaaaGreat.XT Go.Proofs.YtndkmnjbjlfeaaaGreat.XR Go.Proofs.YtndkmnjbjlfeaaaGreat.F06 Go.Proofs.YtndkmnjbjlfeaaaGreat.XK Go.Proofs.YtndkmnjbjlfeaaaGreat.XW Go.Proofs.YtndkmnjbjlfeaaaGreat.XG Go.Proofs.YtndkmnjbjlfeaaaGreat.XM Go.Proofs.YtndkmnjbjlfeaaaGreat.XC Go.Proofs.YtndkmnjbjlfeaaaGreatW.PrintWords Go.Proofs.YtndkmnjbjlfeaaaGreatW.PrintLast Go.Proofs.YtndkmnjbjlfeaaaGreatW.PrintMore
attribute [local go_sem] bU bS ct cr bw bz bP bT
set_option linter.unusedVariables false
set_option linter.unusedSimpArgs false
mutual
noncomputable def aw.j0:Nat→Int→Int→Bool→Option (Bool)
 |0,_,_,_=>none
 |k+1,x0,x1,x18=>if x18=true then(some false) else(aw.l0 k x0 x1 2)
noncomputable def aw.l0:Nat→Int→Int→Int→Option (Bool)
 |0,_,_,_=>none
 |k+1,x0,x1,x5=>if x5≤x1 then(if x5=0 then(none) else(if(Int.tmod x1 x5)=0 then(if x1=0 then(none) else(aw.j2 k x0 x1 x5 ((Int.tmod (wrap64 (Int.tdiv x0 x1)) x5)==0))) else(aw.j2 k x0 x1 x5 false))) else(some true)
noncomputable def aw.j2:Nat→Int→Int→Int→Bool→Option (Bool)
 |0,_,_,_,_=>none
 |k+1,x0,x1,x5,x35=>if x35=true then(some false) else(aw.l0 k x0 x1 (wrap64 (x5+1)))
end
noncomputable def aw.f(k:Nat)(a0:Int)(a1:Int):Option (Bool):=if a1≤1 then(aw.j0 k a0 a1 true) else(if a1≥a0 then(aw.j0 k a0 a1 true) else(if a1=0 then(none) else(aw.j0 k a0 a1 ((Int.tmod a0 a1) !=0))))
set_option maxHeartbeats 8000000 in
set_option maxRecDepth 100000 in
theorem aw.calls(k:Nat)(a0:Int)(a1:Int)(r:Bool)(w:World)(h:aw.f k a0 a1=some r):
  Calls Tryz.prog 87 #[.int .i64 a0, .int .i64 a1] w fun e w'=>e= .returned (.bool r)∧au w w':=by
 have H:=h;unfold aw.f at H
 clear h
 have HC3:=aa.mk H
 clear H
 go_enter Tryz.func87,Tryz.ntmps87
 go_upto_region 1 with(fail)
 go_cut [18] (fun v18 wc=> ∃(kq:Nat) (x18_2:Bool),v18= .bool x18_2∧aa (aw.j0 kq a0 a1 x18_2=some r)∧aa (kq≤k)∧au w wc)
 case first=>
  have H:=HC3.out
  clear HC3
  by_cases c4:a1≤1
  ·rw[if_pos c4] at H
   have c4b0:=decide_eq_true c4
   clear c4
   (first|rw[c4b0]|(simp only[bp,bQ];rw[c4b0])|skip)
   have H':=aa.mk H
   clear H
   go_wp2
   go_meet
   case rel=>exact⟨_,(true),a8,H',⟨by first|omega|exact Nat.le_refl _⟩,dk⟩
  ·rw[if_neg c4] at H
   have c4b0:=decide_eq_false c4
   clear c4
   (first|rw[c4b0]|(simp only[bp,bQ];rw[c4b0])|skip)
   by_cases c5:a1≥a0
   ·rw[if_pos c5] at H
    have c5b0:=decide_eq_true c5
    clear c5
    have H':=aa.mk H
    clear H
    go_wp2
    go_meet
    case rel=>exact⟨_,(true),a8,H',⟨by first|omega|exact Nat.le_refl _⟩,dk⟩
   ·rw[if_neg c5] at H
    have c5b0:=decide_eq_false c5
    clear c5
    by_cases c6:a1=0
    ·rw[if_pos c6] at H
     exact absurd H (by simp)
    ·rw[if_neg c6] at H
     have c6b0:=beq_eq_false_iff_ne.mpr c6
     have c6b1:=bne_iff_ne.mpr c6
     have H':=aa.mk H
     clear H
     go_wp2
     go_meet
     case rel=>exact⟨_,(((Int.tmod a0 a1) !=0)),a8,H',⟨by first|omega|exact Nat.le_refl _⟩,dk⟩
 case rest=>
  clear HC3
  obtain⟨kq,x18_2,rfl,HA,HJ2,⟨mc2,rfl⟩⟩:=hcut
  cases kq with
  |zero=>exact absurd HA.out (by simp[aw.j0])
  |succ kj2=>
   have H:=HA.out
   clear HA
   simp only[aw.j0] at H
   by_cases c7:x18_2=true
   ·subst c7
    have H1:=H;rw[if_pos rfl] at H1
    clear H
    have H:=H1
    clear H1
    obtain rfl:=Option.some.inj H
    go_wp2
    go_ret
    exact⟨a8,dk⟩
   ·replace c7:=Bool.eq_false_iff.mpr c7
    subst c7
    have H1:=H;rw[if_neg (show¬(false=true) by decide)] at H1
    clear H
    have H:=H1
    clear H1
    have H':=aa.mk H
    clear H
    go_wp2
    go_loopg [5] kj2 (fun kq v5 w'=> ∃(x5_2:Int),v5= .int .i64 x5_2∧aa (aw.l0 kq a0 a1 x5_2=some r)∧aa (kq≤kj2)∧au w w')
    case atStart=>exact⟨(2),a8,H',⟨Nat.le_refl _⟩,dk⟩
    case round=>
     clear H'
     obtain⟨x5_2,rfl,HA,HK2,⟨m2,rfl⟩⟩:=hrel
     cases gk with
     |zero=>exact absurd HA.out (by simp[aw.l0])
     |succ k2=>
      have H:=HA.out
      clear HA
      simp only[aw.l0] at H
      by_cases c8:x5_2≤a1
      ·rw[if_pos c8] at H
       have c8b0:=decide_eq_true c8
       clear c8
       have HC9:=aa.mk H
       clear H
       go_upto_region 6 with(fail)
       go_cut [35] (fun v35 wc=> ∃(kq:Nat) (x35_8:Bool),v35= .bool x35_8∧aa (aw.j2 kq a0 a1 x5_2 x35_8=some r)∧aa (kq≤k2)∧au w wc)
       case first=>
        have H:=HC9.out
        clear HC9
        by_cases ek:x5_2=0
        ·rw[if_pos ek] at H
         exact absurd H (by simp)
        ·rw[if_neg ek] at H
         have c10b0:=beq_eq_false_iff_ne.mpr ek
         have c10b1:=bne_iff_ne.mpr ek
         (first|rw[c10b0]|(simp only[bp,bQ];rw[c10b0])|skip)
         by_cases eW:(Int.tmod a1 x5_2)=0
         ·rw[if_pos eW] at H
          have c11b0:=beq_iff_eq.mpr eW
          have c11b1:=bne_eq_false_iff_eq.mpr eW
          clear eW
          by_cases iR:a1=0
          ·rw[if_pos iR] at H
           exact absurd H (by simp)
          ·rw[if_neg iR] at H
           have c12b0:=beq_eq_false_iff_ne.mpr iR
           have c12b1:=bne_iff_ne.mpr iR
           have H':=aa.mk H
           clear H
           go_wp2
           go_meet
           case rel=>exact⟨_,(((Int.tmod (wrap64 (Int.tdiv a0 a1)) x5_2)==0)),a8,H',⟨by have:=HJ2.out;have:=HK2.out;first|omega|exact Nat.le_refl _⟩,dk⟩
         ·rw[if_neg eW] at H
          have c11b0:=beq_eq_false_iff_ne.mpr eW
          have c11b1:=bne_iff_ne.mpr eW
          have H':=aa.mk H
          clear H
          go_wp2
          go_meet
          case rel=>exact⟨_,(false),a8,H',⟨by have:=HJ2.out;have:=HK2.out;first|omega|exact Nat.le_refl _⟩,dk⟩
       case rest=>
        clear HC9
        obtain⟨kq,x35_8,rfl,HA,HJ8,⟨mc8,rfl⟩⟩:=hcut
        cases kq with
        |zero=>exact absurd HA.out (by simp[aw.j2])
        |succ kj8=>
         have H:=HA.out
         clear HA
         simp only[aw.j2] at H
         by_cases iG:x35_8=true
         ·subst iG
          have H1:=H;rw[if_pos rfl] at H1
          clear H
          have H:=H1
          clear H1
          obtain rfl:=Option.some.inj H
          go_wp2
          go_ret
          exact⟨a8,dk⟩
         ·replace iG:=Bool.eq_false_iff.mpr iG
          subst iG
          have H1:=H;rw[if_neg (show¬(false=true) by decide)] at H1
          clear H
          have H:=H1
          clear H1
          have H':=aa.mk H
          clear H
          go_wp2
          go_roundg kj8
          case measure=>have:=HJ2.out;have:=HK2.out;have:=HJ8.out;omega
          case rel=>exact⟨(wrap64 (x5_2+1)),a8,H',⟨by have:=HJ2.out;have:=HK2.out;have:=HJ8.out;omega⟩,dk⟩
      ·rw[if_neg c8] at H
       have c8b0:=decide_eq_false c8
       clear c8
       obtain rfl:=Option.some.inj H
       go_wp2
       go_ret
       exact⟨a8,dk⟩
noncomputable def dy.f(k:Nat)(a0:Int)(l1:List Int)(a2:Int):Option (Int):=(cL.f a0 (l1.length:Int) 1024).bind fun t159=>(if t159=0 then((aw.f k (l1.length:Int) a2).bind fun t160=>(if t160=true then((bA.f k a0 l1).bind fun t161=>(if t161=true then(some 0) else(some 9))) else(some 11))) else(some t159))
set_option maxHeartbeats 8000000 in
set_option maxRecDepth 100000 in
theorem dy.calls(k:Nat)(a0:Int)(A1:Option Addr)(c1:Nat)(l1:List Int)(a2:Int)(r:Int)(w:World)(hr1:Kd.C (Kd.int .u64) w A1 l1.length l1)(hc1:l1.length≤c1)(h:dy.f k a0 l1 a2=some r):
  Calls Tryz.prog 47 #[.int .u64 a0, .slice A1 l1.length c1, .int .i64 a2] w fun e w'=>e= .returned (.int .i64 r)∧au w w':=by
 have HR1:=aa.mk hr1
 have HC1:=aa.mk hc1
 clear hr1 hc1
 have H:=h;unfold dy.f at H
 clear h
 replace H:=Option.bind_eq_some_iff.mp H
 obtain⟨t159,A40,H⟩:=H
 (try dsimp only at H)
 have A4:=aa.mk A40
 clear A40
 by_cases c5:t159=0
 ·rw[if_pos c5] at H
  have c5b0:=beq_iff_eq.mpr c5
  have c5b1:=bne_eq_false_iff_eq.mpr c5
  clear c5
  replace H:=Option.bind_eq_some_iff.mp H
  obtain⟨t160,A60,H⟩:=H
  (try dsimp only at H)
  have A6:=aa.mk A60
  clear A60
  by_cases c7:t160=true
  ·subst c7
   have H1:=H;rw[if_pos rfl] at H1
   clear H
   have H:=H1
   clear H1
   replace H:=Option.bind_eq_some_iff.mp H
   obtain⟨t161,A80,H⟩:=H
   (try dsimp only at H)
   have A8:=aa.mk A80
   clear A80
   by_cases c9:t161=true
   ·subst c9
    have H1:=H;rw[if_pos rfl] at H1
    clear H
    have H:=H1
    clear H1
    obtain rfl:=Option.some.inj H
    go_enter Tryz.func47,Tryz.ntmps47
    go_wp2_with (first|(refine fh 11 Tryz.func20 #[.int .u64 a0, .int .i64 (l1.length:Int), .int .i64 1024] rfl ?_;(with_reducible refine(cL.calls a0 (l1.length:Int) 1024 t159 _ A4.out).mono ?_);rintro e w' ⟨rfl,⟨nd,rfl⟩⟩;refine⟨_,rfl,?_⟩)|(refine fh 18 Tryz.func87 #[.int .i64 (l1.length:Int), .int .i64 a2] rfl ?_;(with_reducible refine(aw.calls k (l1.length:Int) a2 true _ A6.out).mono ?_);rintro e w' ⟨rfl,⟨nd,rfl⟩⟩;refine⟨_,rfl,?_⟩)|(refine fh 22 Tryz.func21 #[.int .u64 a0, .slice A1 l1.length c1] rfl ?_;(with_reducible refine(bA.calls k a0 _ _ l1 true _ ?side1 ?side2 A8.out).mono ?_);(case side1=>exact cw HR1.out);(case side2=>exact HC1.out);rintro e w' ⟨rfl,⟨nd,rfl⟩⟩;refine⟨_,rfl,?_⟩))
    go_ret
    exact⟨a8,dk⟩
   ·replace c9:=Bool.eq_false_iff.mpr c9
    subst c9
    have H1:=H;rw[if_neg (show¬(false=true) by decide)] at H1
    clear H
    have H:=H1
    clear H1
    obtain rfl:=Option.some.inj H
    go_enter Tryz.func47,Tryz.ntmps47
    go_wp2_with (first|(refine fh 11 Tryz.func20 #[.int .u64 a0, .int .i64 (l1.length:Int), .int .i64 1024] rfl ?_;(with_reducible refine(cL.calls a0 (l1.length:Int) 1024 t159 _ A4.out).mono ?_);rintro e w' ⟨rfl,⟨nd,rfl⟩⟩;refine⟨_,rfl,?_⟩)|(refine fh 18 Tryz.func87 #[.int .i64 (l1.length:Int), .int .i64 a2] rfl ?_;(with_reducible refine(aw.calls k (l1.length:Int) a2 true _ A6.out).mono ?_);rintro e w' ⟨rfl,⟨nd,rfl⟩⟩;refine⟨_,rfl,?_⟩)|(refine fh 22 Tryz.func21 #[.int .u64 a0, .slice A1 l1.length c1] rfl ?_;(with_reducible refine(bA.calls k a0 _ _ l1 false _ ?side1 ?side2 A8.out).mono ?_);(case side1=>exact cw HR1.out);(case side2=>exact HC1.out);rintro e w' ⟨rfl,⟨nd,rfl⟩⟩;refine⟨_,rfl,?_⟩))
    go_ret
    exact⟨a8,dk⟩
  ·replace c7:=Bool.eq_false_iff.mpr c7
   subst c7
   have H1:=H;rw[if_neg (show¬(false=true) by decide)] at H1
   clear H
   have H:=H1
   clear H1
   obtain rfl:=Option.some.inj H
   go_enter Tryz.func47,Tryz.ntmps47
   go_wp2_with (first|(refine fh 11 Tryz.func20 #[.int .u64 a0, .int .i64 (l1.length:Int), .int .i64 1024] rfl ?_;(with_reducible refine(cL.calls a0 (l1.length:Int) 1024 t159 _ A4.out).mono ?_);rintro e w' ⟨rfl,⟨nd,rfl⟩⟩;refine⟨_,rfl,?_⟩)|(refine fh 18 Tryz.func87 #[.int .i64 (l1.length:Int), .int .i64 a2] rfl ?_;(with_reducible refine(aw.calls k (l1.length:Int) a2 false _ A6.out).mono ?_);rintro e w' ⟨rfl,⟨nd,rfl⟩⟩;refine⟨_,rfl,?_⟩))
   go_ret
   exact⟨a8,dk⟩
 ·rw[if_neg c5] at H
  have c5b0:=beq_eq_false_iff_ne.mpr c5
  have c5b1:=bne_iff_ne.mpr c5
  obtain rfl:=Option.some.inj H
  go_enter Tryz.func47,Tryz.ntmps47
  go_wp2_with (first|(refine fh 11 Tryz.func20 #[.int .u64 a0, .int .i64 (l1.length:Int), .int .i64 1024] rfl ?_;(with_reducible refine(cL.calls a0 (l1.length:Int) 1024 t159 _ A4.out).mono ?_);rintro e w' ⟨rfl,⟨nd,rfl⟩⟩;refine⟨_,rfl,?_⟩))
  go_ret
  exact⟨a8,dk⟩
noncomputable def aY.j0:Nat→List Int→Int→Bool→List (cn)→Bool→Option (Bool)
 |0,_,_,_,_,_=>none
 |k+1,x1,x2,x3,x9,x40=>if x40=true then(some true) else(if x2=0 then(none) else((ba.f k x9 x1 x2 x3).bind fun bt193=>((ba.f k x9 x1 (wrap64 (Int.tdiv (x1.length:Int) x2)) x3).bind fun bt197=>((ba.f k x9 bt193.1 (wrap64 (Int.tdiv (x1.length:Int) x2)) (!x3)).bind fun bt201=>(if bt193.2=0 then(if bt197.2=0 then(if bt201.2=0 then((bq.f k bt193.1 bt197.1).bind fun t205=>(if t205=true then((bq.f k bt201.1 x1).bind fun t206=>(some t206)) else(none))) else(none)) else(none)) else(none))))))
noncomputable def aY.f(k:Nat)(a0_0:Int)(a0_1:Int)(a0_2:Int)(l0_3:List (dq))(l1:List Int)(a2:Int)(a3:Bool):Option (Bool):=(bZ.f k).bind fun t186=>(if t186=true then((bB.f k a0_0 a0_1 a0_2 l0_3).bind fun bt187=>(if bt187.2.1=0 then(aY.j0 k l1 a2 a3 bt187.1 true) else(if(l1.length:Int)>240 then(aY.j0 k l1 a2 a3 bt187.1 true) else((dy.f k bt187.2.1 l1 a2).bind fun t192=>(aY.j0 k l1 a2 a3 bt187.1 (t192 !=0)))))) else(none))
set_option maxHeartbeats 8000000 in
set_option maxRecDepth 100000 in
theorem aY.calls(k:Nat)(a0_0:Int)(a0_1:Int)(a0_2:Int)(A0_3:Option Addr)(c0_3:Nat)(l0_3:List (dq))(A1:Option Addr)(c1:Nat)(l1:List Int)(a2:Int)(a3:Bool)(w:World)(hr0_3:Kd.C ku w A0_3 l0_3.length l0_3)(hc0_3:l0_3.length≤c0_3)(hr1:Kd.C (Kd.int .u64) w A1 l1.length l1)(hc1:l1.length≤c1)(h:aY.f k a0_0 a0_1 a0_2 l0_3 l1 a2 a3=some true):
  Calls Tryz.prog 15 #[.agg #[.int .i64 a0_0, .int .i64 a0_1, .int .u64 a0_2, .slice A0_3 l0_3.length c0_3], .slice A1 l1.length c1, .int .i64 a2, .bool a3] w fun e w'=>e= .returned (.bool true)∧Below w.heap.size w w':=by
 have hu25:=Tryz.underlying25
 have HR0_3:=aa.mk hr0_3
 have HC0_3:=aa.mk hc0_3
 clear hr0_3 hc0_3
 have HR1:=aa.mk hr1
 have HC1:=aa.mk hc1
 clear hr1 hc1
 have HB:=aa.mk (Below.refl w.heap.size w)
 have H:=h;unfold aY.f at H
 clear h
 replace H:=Option.bind_eq_some_iff.mp H
 obtain⟨t186,A50,H⟩:=H
 (try dsimp only at H)
 have A5:=aa.mk A50
 clear A50
 by_cases c6:t186=true
 ·subst c6
  have H1:=H;rw[if_pos rfl] at H1
  clear H
  have H:=H1
  clear H1
  replace H:=Option.bind_eq_some_iff.mp H
  obtain⟨⟨t187,t190,t191⟩,A70,H⟩:=H
  (try dsimp only at H)
  have A7:=aa.mk A70
  clear A70
  have HC8:=aa.mk H
  clear H
  go_enter Tryz.func15,Tryz.ntmps15
  go_upto_region 4 with(first|((with_reducible refine bk (N:=4) rfl ?_);(try(refine fq (by rfl) ?_;dsimp only));refine jg 4 #[.int .i64 a0_0, .int .i64 a0_1, .int .u64 a0_2, .slice A0_3 l0_3.length c0_3] 25 ?_;intro gb185 hg w9 hbox hb;have n0_:=aa.mk (ah ak hb);have n1_:=aa.mk (hbox);have n2_:=aa.mk ((by rw[hg];exact(ai ak):w.heap.size≤gb185));have n3_:=aa.mk ((by rw[hg];exact(ai ak):w.heap.size≤gb185));clear HB;have HB:=n0_;have BK185:=n1_;have GW185:=n2_;have GE185:=n3_;clear n0_ n1_ n2_ n3_;clear hb hbox hg)|(refine fh 19 Tryz.func43 #[] rfl ?_;(with_reducible refine(bZ.calls k true _ A5.out).mono ?_);rintro e w10 ⟨rfl,hb⟩;refine⟨_,rfl,?_⟩;have n0_:=aa.mk (aU BK185.out hb);have n1_:=aa.mk (ah ak hb);clear BK185;clear HB;have BK185:=n0_;have HB:=n1_;clear n0_ n1_;have hcz11_0:=bt BK185.out 0 rfl;have hcz11_1:=bt BK185.out 1 rfl;have hcz11_2:=bt BK185.out 2 rfl;have hcz11_3:=bt BK185.out 3 rfl;have hfz11_0:=ab BK185.out 0;have hfz11_1:=ab BK185.out 1;have hfz11_2:=ab BK185.out 2;have hfz11_3:=ab BK185.out 3)|(refine fh 23 Tryz.func44 #[.agg #[.int .i64 a0_0, .int .i64 a0_1, .int .u64 a0_2, .slice A0_3 l0_3.length c0_3]] rfl ?_;(with_reducible refine(bB.calls k a0_0 a0_1 a0_2 _ _ l0_3 t187 t190 t191 _ ?side1 ?side2 A7.out).mono ?_);(case side1=>exact cw (Kd.bu HR0_3.out HB.out));(case side2=>exact HC0_3.out);rintro e w12 ⟨v188,rfl,ho0,hb⟩;refine⟨_,rfl,?_⟩;have n0_:=aa.mk (Kd.bN ho0 (ai ak));have n1_:=aa.mk (aU BK185.out hb);have n2_:=aa.mk (ah ak hb);clear BK185;clear HB;have HO189:=n0_;have BK185:=n1_;have HB:=n2_;clear n0_ n1_ n2_;(try clear ho0)))
  (try simp only[Act.put,List.setIfInBounds_toArray,List.set_cons_zero,List.set_cons_succ])
  go_cut [40] (fun v40 wc=> ∃(kq:Nat) (x40_7:Bool),v40= .bool x40_7∧aa (aY.j0 kq l1 a2 a3 t187 x40_7=some true)∧aa (kq≤k)∧aa (Kd.R fB 97 wc w.heap.size (fun _=>True) v188 t187)∧aa (wc.heap[gb185]?=some (.cells #[.int .i64 a0_0, .int .i64 a0_1, .int .u64 a0_2,(.slice A0_3 l0_3.length c0_3)] 25 (0,0)))∧aa (Below w.heap.size w wc))
  case first=>
   have H:=HC8.out
   clear HC8
   by_cases iG:t190=0
   ·rw[if_pos iG] at H
    have c13b0:=beq_iff_eq.mpr iG
    have c13b1:=bne_eq_false_iff_eq.mpr iG
    clear iG
    (first|rw[c13b0]|(simp only[bp,bQ];rw[c13b0])|skip)
    have H':=aa.mk H
    clear H
    go_wp2
    go_meet
    case rel=>exact⟨_,(true),a8,H',⟨by first|omega|exact Nat.le_refl _⟩,⟨bK HO189.out⟩,⟨cP BK185.out⟩,⟨ak⟩⟩
   ·rw[if_neg iG] at H
    have c13b0:=beq_eq_false_iff_ne.mpr iG
    have c13b1:=bne_iff_ne.mpr iG
    (first|rw[c13b0]|(simp only[bp,bQ];rw[c13b0])|skip)
    by_cases fa:(l1.length:Int)>240
    ·rw[if_pos fa] at H
     have c14b0:=decide_eq_true fa
     have c14b1:decide (240<l1.length)=true:=decide_eq_true (by omega)
     clear fa
     have H':=aa.mk H
     clear H
     go_wp2
     go_meet
     case rel=>exact⟨_,(true),a8,H',⟨by first|omega|exact Nat.le_refl _⟩,⟨bK HO189.out⟩,⟨cP BK185.out⟩,⟨ak⟩⟩
    ·rw[if_neg fa] at H
     have c14b0:=decide_eq_false fa
     have c14b1:decide (240<l1.length)=false:=decide_eq_false (by omega)
     clear fa
     replace H:=Option.bind_eq_some_iff.mp H
     obtain⟨t192,A150,H⟩:=H
     (try dsimp only at H)
     have A15:=aa.mk A150
     clear A150
     have H':=aa.mk H
     clear H
     go_wp2_with (first|(go_at_call 47;(with_reducible refine(dy.calls k t190 _ _ l1 a2 t192 _ ?side1 ?side2 A15.out).mono ?_);(case side1=>exact cw (Kd.bu HR1.out HB.out));(case side2=>exact HC1.out);rintro e w' ⟨rfl,⟨nd,rfl⟩⟩))
     go_meet
     case rel=>exact⟨_,((t192 !=0)),a8,H',⟨by first|omega|exact Nat.le_refl _⟩,⟨bK HO189.out⟩,⟨cP BK185.out⟩,⟨ak⟩⟩
  case rest=>
   clear HC8
   obtain⟨kq,x40_7,rfl,HA,HJ7,HO_9,BK185,HB⟩:=hcut
   cases kq with
   |zero=>exact absurd HA.out (by simp[aY.j0])
   |succ kj7=>
    have H:=HA.out
    clear HA
    simp only[aY.j0] at H
    by_cases jx:x40_7=true
    ·subst jx
     have H1:=H;rw[if_pos rfl] at H1
     clear H
     have H:=H1
     clear H1
     clear H
     go_wp2
     go_ret
     exact⟨a8,ak⟩
    ·replace jx:=Bool.eq_false_iff.mpr jx
     subst jx
     have H1:=H;rw[if_neg (show¬(false=true) by decide)] at H1
     clear H
     have H:=H1
     clear H1
     by_cases gC:a2=0
     ·rw[if_pos gC] at H
      exact absurd H (by simp)
     ·rw[if_neg gC] at H
      have c17b0:=beq_eq_false_iff_ne.mpr gC
      have c17b1:=bne_iff_ne.mpr gC
      obtain⟨q9_,hq9_⟩: ∃z_:Int,(wrap64 (Int.tdiv (l1.length:Int) a2))=z_:=⟨_,rfl⟩
      rw[hq9_] at H
      have hq9a_:wrap64 ((l1.length:Int)/a2)=q9_:=by rw[←hq9_,Int.tdiv_eq_ediv_of_nonneg (by omega)]
      have hq9b_:IntKind.i64.wrap ((l1.length:Int)/a2)=q9_:=by simp only[bp];exact hq9a_
      have hq9c_:IntKind.i64.wrap (Int.tdiv (l1.length:Int) a2)=q9_:=by simp only[bp];exact hq9_
      replace H:=Option.bind_eq_some_iff.mp H
      obtain⟨⟨t193,t194⟩,A180,H⟩:=H
      (try dsimp only at H)
      have A18:=aa.mk A180
      clear A180
      replace H:=Option.bind_eq_some_iff.mp H
      obtain⟨⟨t197,t198⟩,A190,H⟩:=H
      (try dsimp only at H)
      have A19:=aa.mk A190
      clear A190
      replace H:=Option.bind_eq_some_iff.mp H
      obtain⟨⟨t201,t202⟩,A200,H⟩:=H
      (try dsimp only at H)
      have A20:=aa.mk A200
      clear A200
      by_cases mq:t194=0
      ·rw[if_pos mq] at H
       have c21b0:=beq_iff_eq.mpr mq
       have c21b1:=bne_eq_false_iff_eq.mpr mq
       clear mq
       by_cases mA:t198=0
       ·rw[if_pos mA] at H
        have c22b0:=beq_iff_eq.mpr mA
        have c22b1:=bne_eq_false_iff_eq.mpr mA
        clear mA
        by_cases jn:t202=0
        ·rw[if_pos jn] at H
         have c23b0:=beq_iff_eq.mpr jn
         have c23b1:=bne_eq_false_iff_eq.mpr jn
         clear jn
         replace H:=Option.bind_eq_some_iff.mp H
         obtain⟨t205,A240,H⟩:=H
         (try dsimp only at H)
         have A24:=aa.mk A240
         clear A240
         by_cases kY:t205=true
         ·subst kY
          have H1:=H;rw[if_pos rfl] at H1
          clear H
          have H:=H1
          clear H1
          replace H:=Option.bind_eq_some_iff.mp H
          obtain⟨t206,A260,H⟩:=H
          (try dsimp only at H)
          have A26:=aa.mk A260
          clear A260
          have hR_:=Option.some.inj H
          obtain⟨Ao27,co27,eo27⟩:=Kd.cb HO_9.out
          subst eo27
          go_wp2_with (first|((with_reducible refine aM (f:=45) rfl ?_);refine cj (some 50) rfl rfl Tryz.func45 (by kernel_rfl) rfl #[bh (.slice Ao27 t187.length co27), .slice A1 l1.length c1, .int .i64 a2, .bool a3] rfl (by(try simp only[List.map_toArray,List.map_cons,List.map_nil]);first|done|(rw[hT_HO_9]<;>rfl)|rfl|(simp only[List.length_drop,List.length_take];rfl)) ?_;(try rw[←hT_HO_9]);(with_reducible refine(ba.calls kj7 _ _ t187 _ _ l1 a2 a3 t193 t194 _ ?side1 ?side2 ?side3 ?side4 A18.out).mono ?_);(case side1=>repeat(first|exact(Kd.aT HO_9.out).2.2|(with_reducible refine Kd.dB ?_ _)|(with_reducible refine Kd.dQ ?_ _)|(with_reducible refine Kd.eX ?_)));(case side2=>exact(Kd.aT HO_9.out).2.1);(case side3=>exact cw (Kd.bu HR1.out HB.out));(case side4=>exact HC1.out);rintro e w28 ⟨v195,rfl,ho0,hb⟩;refine⟨_,rfl,?_⟩;have n0_:=aa.mk (Kd.dp (bK HO_9.out) hb);have n1_:=aa.mk (Kd.bN ho0 (ai ak));have n2_:=aa.mk (aU BK185.out hb);have n3_:=aa.mk (ah ak hb);clear HO_9;clear BK185;clear HB;have HO_9:=n0_;have HO196:=n1_;have BK185:=n2_;have HB:=n3_;clear n0_ n1_ n2_ n3_;(try clear ho0))|((with_reducible refine aM (f:=45) rfl ?_);refine cj (some 58) rfl rfl Tryz.func45 (by kernel_rfl) rfl #[bh (.slice Ao27 t187.length co27), .slice A1 l1.length c1, .int .i64 q9_, .bool a3] rfl (by(try simp only[List.map_toArray,List.map_cons,List.map_nil]);first|done|(rw[hT_HO_9]<;>rfl)|rfl|(simp only[List.length_drop,List.length_take];rfl)) ?_;(try rw[←hT_HO_9]);(with_reducible refine(ba.calls kj7 _ _ t187 _ _ l1 q9_ a3 t197 t198 _ ?side1 ?side2 ?side3 ?side4 A19.out).mono ?_);(case side1=>repeat(first|exact(Kd.aT HO_9.out).2.2|(with_reducible refine Kd.dB ?_ _)|(with_reducible refine Kd.dQ ?_ _)|(with_reducible refine Kd.eX ?_)));(case side2=>exact(Kd.aT HO_9.out).2.1);(case side3=>exact cw (Kd.bu HR1.out HB.out));(case side4=>exact HC1.out);rintro e w29 ⟨v199,rfl,ho0,hb⟩;refine⟨_,rfl,?_⟩;have n0_:=aa.mk (Kd.dp (bK HO_9.out) hb);have n1_:=aa.mk (Kd.dm (bK HO196.out) (Kd.dS ho0) hb);have n2_:=aa.mk (Kd.bN (Kd.eD ho0 (Kd.ik (bK HO196.out))) (ai ak));have n3_:=aa.mk (aU BK185.out hb);have n4_:=aa.mk (ah ak hb);clear HO_9;clear HO196;clear BK185;clear HB;have HO_9:=n0_;have HO196:=n1_;have HO200:=n2_;have BK185:=n3_;have HB:=n4_;clear n0_ n1_ n2_ n3_ n4_;(try clear ho0);obtain⟨Ao30,co30,eo30⟩:=Kd.cb HO196.out;subst eo30)|((with_reducible refine aM (f:=45) rfl ?_);refine cj (some 67) rfl rfl Tryz.func45 (by kernel_rfl) rfl #[bh (.slice Ao27 t187.length co27), .slice Ao30 t193.length co30, .int .i64 q9_, .bool (!a3)] rfl (by(try simp only[List.map_toArray,List.map_cons,List.map_nil]);first|done|(rw[hT_HO_9]<;>rfl)|rfl|(simp only[List.length_drop,List.length_take];rfl)) ?_;(try rw[←hT_HO_9]);(with_reducible refine(ba.calls kj7 _ _ t187 _ _ t193 q9_ (!a3) t201 t202 _ ?side1 ?side2 ?side3 ?side4 A20.out).mono ?_);(case side1=>repeat(first|exact(Kd.aT HO_9.out).2.2|(with_reducible refine Kd.dB ?_ _)|(with_reducible refine Kd.dQ ?_ _)|(with_reducible refine Kd.eX ?_)));(case side2=>exact(Kd.aT HO_9.out).2.1);(case side3=>repeat(first|exact(Kd.aT HO196.out).2.2|(with_reducible refine Kd.dB ?_ _)|(with_reducible refine Kd.dQ ?_ _)|(with_reducible refine Kd.eX ?_)));(case side4=>exact(Kd.aT HO196.out).2.1);rintro e w31 ⟨v203,rfl,ho0,hb⟩;refine⟨_,rfl,?_⟩;have n0_:=aa.mk (Kd.dp (bK HO_9.out) hb);have n1_:=aa.mk (Kd.dm (bK HO196.out) (Kd.dS ho0) hb);have n2_:=aa.mk (Kd.dm (bK HO200.out) (Kd.dS ho0) hb);have n3_:=aa.mk (Kd.bN (Kd.eD (Kd.eD ho0 (Kd.ik (bK HO196.out))) (Kd.ik (bK HO200.out))) (ai ak));have n4_:=aa.mk (aU BK185.out hb);have n5_:=aa.mk (ah ak hb);clear HO_9;clear HO196;clear HO200;clear BK185;clear HB;have HO_9:=n0_;have HO196:=n1_;have HO200:=n2_;have HO204:=n3_;have BK185:=n4_;have HB:=n5_;clear n0_ n1_ n2_ n3_ n4_ n5_;(try clear ho0);obtain⟨Ao32,co32,eo32⟩:=Kd.cb HO200.out;subst eo32)|(go_at_call 46;(with_reducible refine(bq.calls kj7 _ _ t193 _ _ t197 true _ ?side1 ?side2 ?side3 ?side4 A24.out).mono ?_);(case side1=>repeat(first|exact(Kd.aT HO196.out).2.2|(with_reducible refine Kd.dB ?_ _)|(with_reducible refine Kd.dQ ?_ _)|(with_reducible refine Kd.eX ?_)));(case side2=>exact(Kd.aT HO196.out).2.1);(case side3=>repeat(first|exact(Kd.aT HO200.out).2.2|(with_reducible refine Kd.dB ?_ _)|(with_reducible refine Kd.dQ ?_ _)|(with_reducible refine Kd.eX ?_)));(case side4=>exact(Kd.aT HO200.out).2.1);rintro e w' ⟨rfl,⟨nd,rfl⟩⟩;obtain⟨Ao33,co33,eo33⟩:=Kd.cb HO204.out;subst eo33)|(go_at_call 46;(with_reducible refine(bq.calls kj7 _ _ t201 _ _ l1 t206 _ ?side1 ?side2 ?side3 ?side4 A26.out).mono ?_);(case side1=>repeat(first|exact(Kd.aT HO204.out).2.2|(with_reducible refine Kd.dB ?_ _)|(with_reducible refine Kd.dQ ?_ _)|(with_reducible refine Kd.eX ?_)));(case side2=>exact(Kd.aT HO204.out).2.1);(case side3=>exact cw (Kd.bu HR1.out ak));(case side4=>exact HC1.out);rintro e w' ⟨rfl,⟨nd,rfl⟩⟩))
          go_ret
          exact⟨a8,ak⟩
         ·replace kY:=Bool.eq_false_iff.mpr kY
          subst kY
          have H1:=H;rw[if_neg (show¬(false=true) by decide)] at H1
          clear H
          have H:=H1
          clear H1
          exact absurd H (by simp)
        ·rw[if_neg jn] at H
         exact absurd H (by simp)
       ·rw[if_neg mA] at H
        exact absurd H (by simp)
      ·rw[if_neg mq] at H
       exact absurd H (by simp)
 ·replace c6:=Bool.eq_false_iff.mpr c6
  subst c6
  have H1:=H;rw[if_neg (show¬(false=true) by decide)] at H1
  clear H
  have H:=H1
  clear H1
  exact absurd H (by simp)
end Go.Proofs.YtndkmnjbjlfeaaaGreat.XE
end
section
namespace Go.Proofs.YtndkmnjbjlfeaaaGreat.D15
open Go Go.RowKit Go.Proofs.YtndkmnjbjlfeaaaGreatW.PrintWords Go.Proofs.YtndkmnjbjlfeaaaGreatW.PrintLast Go.Proofs.YtndkmnjbjlfeaaaGreatW.PrintMore Go.Proofs.YtndkmnjbjlfeaaaGreat.Given Go.Proofs.YtndkmnjbjlfeaaaGreat.M Go.Proofs.YtndkmnjbjlfeaaaGreat.Mont Go.Proofs.YtndkmnjbjlfeaaaGreat.XS Go.Proofs.YtndkmnjbjlfeaaaGreat.XT Go.Proofs.YtndkmnjbjlfeaaaGreat.XR Go.Proofs.YtndkmnjbjlfeaaaGreat.Num Go.Proofs.YtndkmnjbjlfeaaaGreat.F06 Go.Proofs.YtndkmnjbjlfeaaaGreat.T10 Go.Proofs.YtndkmnjbjlfeaaaGreat.D11 Go.Proofs.YtndkmnjbjlfeaaaGreat.XC Go.Proofs.YtndkmnjbjlfeaaaGreat.XE
set_option linter.unusedVariables false
theorem yS(d:Nat): ∀(n x:Nat),n<d→Ev (fun k=>bJ.l0 k (x:Int) (n:Int)) ((Nat.gcd x n:Nat):Int):=by
 induction d with
 |zero=>intro n x h;omega
 |succ d ih=>
  intro n x hd
  by_cases c:n=0
  ·subst c
   exact bX ⟨_,fun k=>by simp only[bJ.l0];rw[if_neg (by decide)],by rw[Nat.gcd_zero_right];exact Ev.now _⟩
  ·have p1:(n:Int)>0:=by omega
   have p2: ¬(n:Int)=0:=by omega
   have e:Int.tmod (x:Int) (n:Int)=((x%n:Nat):Int):=by rw[bH (Int.natCast_nonneg _),Int.natCast_emod]
   have hlt:x%n<n:=Nat.mod_lt _ (by omega)
   refine bX ⟨_,fun k=>by simp only[bJ.l0];rw[if_pos p1,if_neg p2,e],?_⟩
   have:=ih (x%n) n (by omega)
   rw[Nat.gcd_comm x n,Nat.gcd_rec n x,Nat.gcd_comm]
   exact this
def je(n a:Int):Bool:=decide (1<a∧a<n∧n%a=0∧Nat.gcd a.toNat (n/a).toNat=1)
theorem kV{n a:Int}(hn:n≤1100000):Ev (fun k=>bo.f k n a) (je n a):=by
 by_cases h0:n>1
 ·by_cases h1:a>1
  ·by_cases h2:a<n
   ·have a0: ¬a=0:=by omega
    have n0:0≤n:=by omega
    by_cases h3:n%a=0
    ·have q0:0≤n/a:=Int.ediv_nonneg n0 (by omega)
     have q1:n/a≤n:=Int.ediv_le_self _ n0
     have w1:IntKind.u64.wrap a=((a.toNat:Nat):Int):=by rw[aX _ (by omega) (by omega)];omega
     have w2:IntKind.u64.wrap (wrap64 (Int.tdiv n a))=(((n/a).toNat:Nat):Int):=by rw[dr n0,cY _ (by omega) (by omega),aX _ (by omega) (by omega)];omega
     have G:Ev (fun k=>cT.f k (IntKind.u64.wrap a) (IntKind.u64.wrap (wrap64 (Int.tdiv n a)))) (((Nat.gcd a.toNat (n/a).toNat:Nat):Int)==1):=by
      rw[w1,w2]
      exact Ev.congr (fun k=>rfl) (Ev.bind (yS _ _ _ (Nat.lt_succ_self _)) (Ev.now _))
     have e:je n a=(((Nat.gcd a.toNat (n/a).toNat:Nat):Int)==1):=by
      unfold je
      by_cases c:Nat.gcd a.toNat (n/a).toNat=1
      ·rw[decide_eq_true ⟨h1,h2,h3,c⟩,c];rfl
      ·rw[decide_eq_false (fun h=>c h.2.2.2)]
       symm
       exact beq_eq_false_iff_ne.2 (by omega)
     rw[e]
     exact Ev.congr (fun k=>by unfold bo.f;rw[if_pos h0,if_pos h1,if_pos h2,if_neg a0,if_pos (by rw[bH n0];exact h3)]) (Ev.bind G (Ev.now _))
    ·have e:je n a=false:=decide_eq_false fun h=>h3 h.2.2.1
     rw[e]
     exact Ev.congr (f:=fun _=>some false) (fun k=>by unfold bo.f;rw[if_pos h0,if_pos h1,if_pos h2,if_neg a0,if_neg (by rw[bH n0];exact h3)]) (Ev.now _)
   ·have e:je n a=false:=decide_eq_false fun h=>h2 h.2.1
    rw[e]
    exact Ev.congr (f:=fun _=>some false) (fun k=>by unfold bo.f;rw[if_pos h0,if_pos h1,if_neg h2]) (Ev.now _)
  ·have e:je n a=false:=decide_eq_false fun h=>h1 h.1
   rw[e]
   exact Ev.congr (f:=fun _=>some false) (fun k=>by unfold bo.f;rw[if_pos h0,if_neg h1]) (Ev.now _)
 ·have e:je n a=false:=decide_eq_false fun h=>by omega
  rw[e]
  exact Ev.congr (f:=fun _=>some false) (fun k=>by unfold bo.f;rw[if_neg h0]) (Ev.now _)
end Go.Proofs.YtndkmnjbjlfeaaaGreat.D15
end
section
namespace Go.Proofs.YtndkmnjbjlfeaaaGreat.D15
open Go Go.RowKit Go.Proofs.YtndkmnjbjlfeaaaGreatW.PrintWords Go.Proofs.YtndkmnjbjlfeaaaGreatW.PrintLast Go.Proofs.YtndkmnjbjlfeaaaGreatW.PrintMore Go.Proofs.YtndkmnjbjlfeaaaGreat.Given Go.Proofs.YtndkmnjbjlfeaaaGreat.M Go.Proofs.YtndkmnjbjlfeaaaGreat.Mont Go.Proofs.YtndkmnjbjlfeaaaGreat.XS Go.Proofs.YtndkmnjbjlfeaaaGreat.XT Go.Proofs.YtndkmnjbjlfeaaaGreat.XR Go.Proofs.YtndkmnjbjlfeaaaGreat.Num Go.Proofs.YtndkmnjbjlfeaaaGreat.F06 Go.Proofs.YtndkmnjbjlfeaaaGreat.T10 Go.Proofs.YtndkmnjbjlfeaaaGreat.D11 Go.Proofs.YtndkmnjbjlfeaaaGreat.XC Go.Proofs.YtndkmnjbjlfeaaaGreat.XE
set_option linter.unusedVariables false
theorem wb{n:Int}{a b:Nat}(ha:1≤a)(hn0:0≤n)(hq:n/(a:Int)=(b:Int))(hb:b≤1100000)(ha2:a≤1100000)(d:Nat): ∀i:Nat,2≤i→i+d=a+1→(∀e,2≤e→e<i→ ¬(e∣a∧e∣b))→
  Ev (fun k=>aw.l0 k n (a:Int) (i:Int)) (decide (Nat.gcd a b=1)):=by
 induction d with
 |zero=>
  intro i h2 hi hv
  have p1: ¬(i:Int)≤(a:Int):=by omega
  have e:decide (Nat.gcd a b=1)=true:=decide_eq_true (by
   have h0:0<Nat.gcd a b:=Nat.gcd_pos_of_pos_left _ ha
   have h1:Nat.gcd a b≤a:=Nat.le_of_dvd ha (Nat.gcd_dvd_left a b)
   by_cases c:2≤Nat.gcd a b
   ·exact absurd ⟨Nat.gcd_dvd_left a b,Nat.gcd_dvd_right a b⟩ (hv _ c (by omega))
   ·omega)
  rw[e]
  exact bX ⟨_,fun k=>by simp only[aw.l0];rw[if_neg p1],Ev.now _⟩
 |succ d ih=>
  intro i h2 hi hv
  have p1:(i:Int)≤(a:Int):=by omega
  have p2: ¬(i:Int)=0:=by omega
  have p3: ¬(a:Int)=0:=by omega
  have ws:wrap64 ((i:Int)+1)=((i+1:Nat):Int):=cA (by omega)
  have e1:Int.tmod (a:Int) (i:Int)=((a%i:Nat):Int):=by rw[bH (Int.natCast_nonneg _),Int.natCast_emod]
  have e2:Int.tmod (wrap64 (Int.tdiv n (a:Int))) (i:Int)=((b%i:Nat):Int):=by rw[dr hn0,hq,cY _ (by omega) (by omega),bH (Int.natCast_nonneg _),Int.natCast_emod]
  have next: ¬(i∣a∧i∣b)→Ev (fun k=>aw.j2 k n (a:Int) (i:Int) false) (decide (Nat.gcd a b=1)):=fun hc=>
   bX ⟨_,fun k=>by simp only[aw.j2];rw[if_neg Bool.false_ne_true,ws],ih (i+1) (by omega) (by omega) fun e he hlt=>by
    by_cases c:e=i
    ·subst c;exact hc
    ·exact hv e he (by omega)⟩
  by_cases c1:a%i=0
  ·have q1:Int.tmod (a:Int) (i:Int)=0:=by rw[e1,c1];rfl
   refine bX ⟨_,fun k=>by simp only[aw.l0];rw[if_pos p1,if_neg p2,if_pos q1,if_neg p3,e2],?_⟩
   by_cases c2:b%i=0
   ·rw[c2]
    have e:decide (Nat.gcd a b=1)=false:=decide_eq_false fun h=>by
     have:=Nat.dvd_gcd (Nat.dvd_of_mod_eq_zero c1) (Nat.dvd_of_mod_eq_zero c2)
     rw[h] at this
     have:=Nat.le_of_dvd (by decide) this
     omega
    rw[e]
    exact bX ⟨_,fun k=>by simp only[aw.j2];rw[if_pos (show(((0:Nat):Int)==0)=true from rfl)],Ev.now _⟩
   ·have:(((b%i:Nat):Int)==0)=false:=beq_eq_false_iff_ne.2 (by omega)
    rw[this]
    exact next fun h=>c2 (Nat.mod_eq_zero_of_dvd h.2)
  ·have q1: ¬Int.tmod (a:Int) (i:Int)=0:=by rw[e1];omega
   refine bX ⟨_,fun k=>by simp only[aw.l0];rw[if_pos p1,if_neg p2,if_neg q1],?_⟩
   exact next fun h=>c1 (Nat.mod_eq_zero_of_dvd h.1)
theorem vl{n a:Int}(hn:n≤1100000):Ev (fun k=>aw.f k n a) (je n a):=by
 have J:Ev (fun k=>aw.j0 k n a true) false:=bX ⟨_,fun k=>by simp only[aw.j0];rw[if_pos trivial],Ev.now _⟩
 by_cases c1:a≤1
 ·have e:je n a=false:=decide_eq_false fun h=>by omega
  rw[e]
  exact Ev.congr (fun k=>rfl) (dG c1 J)
 by_cases c2:a≥n
 ·have e:je n a=false:=decide_eq_false fun h=>by omega
  rw[e]
  exact Ev.congr (fun k=>rfl) (gy c1 (dG c2 J))
 have c3: ¬a=0:=by omega
 have et:Int.tmod n a=n%a:=bH (by omega)
 refine Ev.congr (fun k=>rfl) (gy c1 (gy c2 (gy c3 ?_)))
 rw[et]
 by_cases c4:n%a=0
 ·rw[c4]
  obtain⟨a',rfl⟩: ∃x:Nat,a=x:=⟨a.toNat,by omega⟩
  obtain⟨b,hb⟩: ∃x:Nat,n/(a':Int)=x:=⟨(n/(a':Int)).toNat,by have:0≤n/(a':Int):=Int.ediv_nonneg (by omega) (by omega);omega⟩
  have q1:n/(a':Int)≤n:=Int.ediv_le_self _ (by omega)
  have e:je n (a':Int)=decide (Nat.gcd a' b=1):=by
   unfold je
   rw[hb,Int.toNat_natCast,Int.toNat_natCast]
   by_cases c:Nat.gcd a' b=1
   ·rw[decide_eq_true ⟨by omega,by omega,c4,c⟩,decide_eq_true c]
   ·rw[decide_eq_false (fun h=>c h.2.2.2),decide_eq_false c]
  rw[e]
  refine bX ⟨fun k=>aw.l0 k n (a':Int) ((2:Nat):Int),fun k=>by simp only[aw.j0];rw[if_neg (show¬((0:Int) !=0)=true by decide)];rfl,?_⟩
  exact wb (by omega) (by omega) hb (by omega) (by omega) (a'-1) 2 (by omega) (by omega) fun e h h'=>by omega
 ·have e:je n a=false:=decide_eq_false fun h=>c4 h.2.2.1
  have e2:(n%a !=0)=true:=bne_iff_ne.2 c4
  rw[e,e2]
  exact J
theorem xR{n:Nat}{a:Int}(h:je (n:Int) a=true): ∃x b:Nat,a=x∧n=x*b∧2≤x∧2≤b∧Nat.Coprime x b:=by
 obtain⟨h1,h2,h3,h4⟩:=of_decide_eq_true h
 obtain⟨x,rfl⟩: ∃x:Nat,a=x:=⟨a.toNat,by omega⟩
 obtain⟨q,hq⟩:=Int.dvd_of_emod_eq_zero h3
 have hx:(x:Int)≠0:=by omega
 have e1:(n:Int)/(x:Int)=q:=by rw[hq];exact Int.mul_ediv_cancel_left _ hx
 have q0:0≤q:=by rw[←e1];exact Int.ediv_nonneg (Int.natCast_nonneg _) (Int.natCast_nonneg _)
 obtain⟨b,rfl⟩: ∃b:Nat,q=b:=⟨q.toNat,by omega⟩
 have en:n=x*b:=by rw[←Int.natCast_mul] at hq;exact Int.ofNat_inj.1 hq
 refine⟨x,b,rfl,en,by omega,?_,?_⟩
 ·rcases Nat.lt_or_ge b 2 with c|c
  ·have:b=0∨b=1:=by omega
   rcases this with rfl|rfl
   ·rw[Nat.mul_zero] at en;omega
   ·rw[Nat.mul_one] at en;omega
  ·exact c
 ·rw[e1,Int.toNat_natCast,Int.toNat_natCast] at h4
  exact h4
theorem q9{a b:Nat}(ha:2≤a)(hb:2≤b)(h:Nat.Coprime a b):je ((a*b:Nat):Int) (a:Int)=true:=by
 have e:((a*b:Nat):Int)/(a:Int)=(b:Int):=by rw[Int.natCast_mul];exact Int.mul_ediv_cancel_left _ (by omega)
 have hlt:a*1<a*b:=Nat.mul_lt_mul_of_pos_left (by omega) (by omega)
 refine decide_eq_true ⟨by omega,by omega,by rw[Int.natCast_mul];exact Int.mul_emod_right _ _,?_⟩
 rw[e,Int.toNat_natCast,Int.toNat_natCast]
 exact h
theorem fK{x:Nat}(h:x≤1000000000000):wrap64 (x:Int)=(x:Int):=cY _ (by omega) (by omega)
theorem xJ{x:Nat}(h:x≤1000000):jm (x:Int):=by unfold jm;omega
def ui(a b t:Nat):Nat:=(b*(t/b)+a*(t%b))% (a*b)
def sj(a b m:Nat):List Int:=(List.range m).map fun t=>((ui a b t:Nat):Int)
def nF(a b t:Nat):Nat:=t%a*b+t%b
def oT(a b m:Nat):List Int:=(List.range m).map fun t=>((nF a b t:Nat):Int)
theorem pc(a b m:Nat):(sj a b m).length=m:=by unfold sj;rw[List.length_map,List.length_range]
theorem kX(a b m:Nat):(oT a b m).length=m:=by unfold oT;rw[List.length_map,List.length_range]
theorem vv{a b i j:Nat}(hj:j<b):ui a b (i*b+j)=(b*i+a*j)% (a*b):=by
 have h1:(i*b+j)/b=i:=by rw[Nat.mul_comm i b,Nat.mul_add_div (by omega),Nat.div_eq_of_lt hj,Nat.add_zero]
 have h2:(i*b+j)%b=j:=by rw[Nat.mul_comm i b,Nat.mul_add_mod,Nat.mod_eq_of_lt hj]
 unfold ui
 rw[h1,h2]
theorem uN{a b m:Nat}:sj a b (m+1)=sj a b m++[((ui a b m:Nat):Int)]:=by
 unfold sj
 rw[List.range_succ,List.map_append]
 rfl
theorem Az{a b:Nat}(hb:1≤b)(ht:a*b≤1024){R:List Int}{i:Nat}(hi:i<a)(E:Ev (fun k=>aZ.l0 k (a:Int) (b:Int) ((a*b:Nat):Int) (sj a b ((i+1)*b)) ((i+1:Nat):Int)) R)(d:Nat): ∀j:Nat,j+d=b→
  Ev (fun k=>aZ.l1 k (a:Int) (b:Int) ((a*b:Nat):Int) (sj a b (i*b+j)) (i:Int) (j:Int)) R:=by
 have hib:i*b+b≤a*b:=by rw[←Nat.succ_mul];exact Nat.mul_le_mul_right _ hi
 have hia:i≤1024:=by
  have:i*1≤i*b:=Nat.mul_le_mul_left _ hb
  omega
 induction d with
 |zero=>
  intro j hj
  obtain rfl:j=b:=by omega
  have ws:wrap64 ((i:Int)+1)=((i+1:Nat):Int):=cA (by omega)
  refine bX ⟨_,fun k=>by simp only[aZ.l1];rw[if_neg (by omega),ws],?_⟩
  rw[←Nat.succ_mul]
  exact E
 |succ d ih=>
  intro j hj
  have hjb:j<b:=by omega
  have p1:(j:Int)<(b:Int):=by omega
  have p2: ¬((a*b:Nat):Int)=0:=by omega
  have haj:a*j≤a*b:=Nat.mul_le_mul_left _ (by omega)
  have hbi:b*i≤a*b:=by rw[Nat.mul_comm];omega
  have hbj:j≤b:=by omega
  have hb':b≤1024:=by omega
  have p3:(sj a b (i*b+j)).length<17592186044416:=by rw[pc];omega
  have ws:wrap64 ((j:Int)+1)=((j+1:Nat):Int):=cA (by omega)
  have e:Int.tmod (wrap64 (wrap64 ((b:Int)*(i:Int))+wrap64 ((a:Int)*(j:Int)))) ((a*b:Nat):Int)=((ui a b (i*b+j):Nat):Int):=by
   rw[vv hjb,←Int.natCast_mul,←Int.natCast_mul,fK (by omega),fK (by omega),←Int.natCast_add,fK (by omega),bH (Int.natCast_nonneg _),Int.natCast_emod]
  refine bX ⟨_,fun k=>by simp only[aZ.l1];rw[if_pos p1,if_neg p2,if_pos p3,e,ws],?_⟩
  have:=ih (j+1) (by omega)
  rw[←Nat.add_assoc,uN] at this
  exact this
theorem Av{a b:Nat}(hb:1≤b)(ht:a*b≤1024)(d:Nat): ∀i:Nat,i+d=a→Ev (fun k=>aZ.l0 k (a:Int) (b:Int) ((a*b:Nat):Int) (sj a b (i*b)) (i:Int)) (sj a b (a*b)):=by
 induction d with
 |zero=>
  intro i hi
  obtain rfl:i=a:=by omega
  exact bX ⟨_,fun k=>by simp only[aZ.l0];rw[if_neg (by omega)],Ev.now _⟩
 |succ d ih=>
  intro i hi
  have p1:(i:Int)<(a:Int):=by omega
  refine bX ⟨_,fun k=>by simp only[aZ.l0];rw[if_pos p1],?_⟩
  exact Az hb ht (by omega) (ih (i+1) (by omega)) b 0 (by omega)
theorem qj{a b:Nat}(ha:2≤a)(hb:2≤b)(ht:a*b≤1024):cV.f (a:Int) (b:Int)=some true:=by
 have h1:a*2≤a*b:=Nat.mul_le_mul_left _ hb
 have h2:2*b≤a*b:=Nat.mul_le_mul_right _ ha
 have e:wrap64 (Int.tdiv (1024:Int) (b:Int))=((1024/b:Nat):Int):=by
  rw[dr (by decide),show(1024:Int)=((1024:Nat):Int) from rfl,←Int.natCast_ediv]
  exact fK (by have:=Nat.div_le_self 1024 b;omega)
 unfold cV.f
 rw[if_pos (by omega),if_pos (by omega),if_neg (by omega),e,decide_eq_true]
 have:a≤1024/b:=(Nat.le_div_iff_mul_le (by omega)).2 ht
 omega
theorem Au{a b:Nat}(ha:2≤a)(hb:2≤b)(h:Nat.Coprime a b)(ht:a*b≤1024):Ev (fun k=>aZ.f k (a:Int) (b:Int)) (sj a b (a*b)):=by
 have w:wrap64 ((a:Int)*(b:Int))=((a*b:Nat):Int):=by rw[←Int.natCast_mul];exact fK (by omega)
 have F:=kV (n:=((a*b:Nat):Int)) (a:=(a:Int)) (by omega)
 rw[q9 ha hb h] at F
 refine Ev.congr (f:=fun k=>(some true).bind fun s=>if s=true then((bo.f k ((a*b:Nat):Int) (a:Int)).bind fun t=>if t=true then(if 0≤((a*b:Nat):Int)∧((a*b:Nat):Int)≤1024 then aZ.l0 k (a:Int) (b:Int) ((a*b:Nat):Int) [] 0 else none) else some []) else some []) (fun k=>by unfold aZ.f;rw[qj ha hb ht,w]) (kx rfl (dG rfl (Ev.bind F (dG rfl (dG ⟨Int.natCast_nonneg _,by omega⟩ ?_)))))
 have:=Av (a:=a) (b:=b) (by omega) ht a 0 (by omega)
 rw[Nat.zero_mul] at this
 exact this
def sF(b:Nat)(M:List (Int×Int×Int))(m:Nat):Prop:=M.length=m∧ ∀i j:Nat,j<b→i*b+j<m→gA M (i:Int) (j:Int)=((i*b+j:Nat):Int)
theorem zu{a b:Nat}(hb:1≤b)(ht:a*b≤1024){R:List Int}{i:Nat}(hi:i<a)(E: ∀M,sF b M ((i+1)*b)→Ev (fun k=>ax.l0 k (a:Int) (b:Int) ((a*b:Nat):Int) M ((i+1:Nat):Int)) R)(d:Nat): ∀(j:Nat) (M:List (Int×Int×Int)),j+d=b→sF b M (i*b+j)→
  Ev (fun k=>ax.l1 k (a:Int) (b:Int) ((a*b:Nat):Int) M (i:Int) (j:Int)) R:=by
 have hib:i*b+b≤a*b:=by rw[←Nat.succ_mul];exact Nat.mul_le_mul_right _ hi
 have hia:i≤1024:=by
  have:i*1≤i*b:=Nat.mul_le_mul_left _ hb
  omega
 induction d with
 |zero=>
  intro j M hj hM
  obtain rfl:j=b:=by omega
  have ws:wrap64 ((i:Int)+1)=((i+1:Nat):Int):=cA (by omega)
  refine bX ⟨_,fun k=>by simp only[ax.l1];rw[if_neg (by omega),ws],?_⟩
  exact E M (by rw[Nat.succ_mul];exact hM)
 |succ d ih=>
  intro j M hj hM
  have hjb:j<b:=by omega
  have j1:j+1+d=b:=by omega
  have p1:(j:Int)<(b:Int):=by omega
  have hb':b≤1024:=by omega
  have p3:M.length<17592186044416∧jm (i:Int)∧jm (j:Int):=⟨by rw[hM.1];omega,xJ (by omega),xJ (by omega)⟩
  have e:wrap64 (wrap64 ((i:Int)*(b:Int))+(j:Int))=((i*b+j:Nat):Int):=by
   rw[←Int.natCast_mul,fK (by omega),←Int.natCast_add,fK (by omega)]
  have j2:j≤1000000000:=by clear e p3;omega
  have ws:wrap64 ((j:Int)+1)=((j+1:Nat):Int):=cA j2
  refine bX ⟨_,fun k=>by simp only[ax.l1];rw[if_pos p1,if_pos p3,e,ws],?_⟩
  refine ih (j+1) _ j1 ⟨by rw[List.length_cons,hM.1];rfl,fun i' j' hj' hlt=>?_⟩
  clear ws e p3
  show(if(i:Int)=(i':Int)∧(j:Int)=(j':Int) then((i*b+j:Nat):Int) else gA M (i':Int) (j':Int))=_
  by_cases c:i'*b+j'=i*b+j
  ·have h1:i'=i:=by
    have e1:(i'*b+j')/b=i':=by rw[Nat.mul_comm i' b,Nat.mul_add_div (by omega),Nat.div_eq_of_lt hj',Nat.add_zero]
    have e2:(i*b+j)/b=i:=by rw[Nat.mul_comm i b,Nat.mul_add_div (by omega),Nat.div_eq_of_lt hjb,Nat.add_zero]
    rw[←e1,←e2,c]
   subst h1
   have h2:j'=j:=Nat.add_left_cancel c
   subst h2
   rw[if_pos ⟨rfl,rfl⟩]
  ·rw[if_neg fun h=>c (by
    have h1:=Int.ofNat_inj.1 h.1
    have h2:=Int.ofNat_inj.1 h.2
    rw[h1,h2])]
   exact hM.2 i' j' hj' (Nat.lt_of_le_of_ne (Nat.le_of_lt_succ hlt) c)
theorem yY{a b:Nat}(ha:1≤a)(hb:1≤b)(ht:a*b≤1024){M:List (Int×Int×Int)}(hM:sF b M (a*b))(d:Nat): ∀(t:Nat) (y:List Int),t+d=a*b→y.length=a*b→(∀s:Nat,s<t→rd y (s:Int)=((nF a b s:Nat):Int))→
  Ev (fun k=>ax.l2 k (a:Int) (b:Int) ((a*b:Nat):Int) M y (t:Int)) (oT a b (a*b)):=by
 induction d with
 |zero=>
  intro t y hy hl hv
  obtain rfl:t=a*b:=by omega
  have e:y=oT a b (a*b):=iJ (by rw[hl,kX]) fun s hs=>by
   rw[kX] at hs
   rw[hv s hs]
   show _=rd ((List.range (a*b)).map fun t=>((nF a b t:Nat):Int)) (s:Int)
   rw[fD hs]
  rw[e]
  exact bX ⟨_,fun k=>by simp only[ax.l2];rw[if_neg (by omega)],Ev.now _⟩
 |succ d ih=>
  intro t y hy hl hv
  have hlt:t<a*b:=by omega
  have t1:t+1+d=a*b:=by omega
  have p1:(t:Int)<((a*b:Nat):Int):=by omega
  have ea:Int.tmod (t:Int) (a:Int)=((t%a:Nat):Int):=by rw[bH (Int.natCast_nonneg _),Int.natCast_emod]
  have eb:Int.tmod (t:Int) (b:Int)=((t%b:Nat):Int):=by rw[bH (Int.natCast_nonneg _),Int.natCast_emod]
  have la:t%a<a:=Nat.mod_lt _ ha
  have lb:t%b<b:=Nat.mod_lt _ hb
  have ha':a*1≤a*b:=Nat.mul_le_mul_left _ hb
  have hb':1*b≤a*b:=Nat.mul_le_mul_right _ ha
  have p2:((a:Int)≠0∧(b:Int)≠0)∧(0≤(t:Int)∧(t:Int)<(y.length:Int))∧jm ((t%a:Nat):Int)∧jm ((t%b:Nat):Int):=⟨⟨by omega,by omega⟩,⟨by omega,by omega⟩,xJ (by omega),xJ (by omega)⟩
  have ws:wrap64 ((t:Int)+1)=((t+1:Nat):Int):=cA (by omega)
  have hin:t%a*b+t%b<a*b:=by
   have:t%a*b+b≤a*b:=by rw[←Nat.succ_mul];exact Nat.mul_le_mul_right _ la
   omega
  have el:gA M ((t%a:Nat):Int) ((t%b:Nat):Int)=((nF a b t:Nat):Int):=hM.2 _ _ lb hin
  refine bX ⟨_,fun k=>by simp only[ax.l2];rw[if_pos p1,ea,eb,if_pos p2,el,Int.toNat_natCast,ws],?_⟩
  refine ih (t+1) _ t1 (by rw[List.length_set];exact hl) fun s hs=>?_
  clear ws el p2 ea eb
  by_cases c:s=t
  ·subst c
   exact iX _ (by rw[hl];exact hlt)
  ·rw[eI _ fun e=>c e.symm]
   exact hv s (Nat.lt_of_le_of_ne (Nat.le_of_lt_succ hs) c)
theorem zK{a b:Nat}(ha:1≤a)(hb:1≤b)(ht:a*b≤1024)(d:Nat): ∀(i:Nat) (M:List (Int×Int×Int)),i+d=a→sF b M (i*b)→Ev (fun k=>ax.l0 k (a:Int) (b:Int) ((a*b:Nat):Int) M (i:Int)) (oT a b (a*b)):=by
 induction d with
 |zero=>
  intro i M hi hM
  obtain rfl:i=a:=by omega
  have p:0≤((i*b:Nat):Int)∧((i*b:Nat):Int)≤1024:=⟨by omega,by omega⟩
  refine bX ⟨_,fun k=>by simp only[ax.l0];rw[if_neg (by omega),if_pos p,Int.toNat_natCast],?_⟩
  exact yY ha hb ht hM (i*b) 0 _ (by omega) List.length_replicate fun s hs=>by omega
 |succ d ih=>
  intro i M hi hM
  have p1:(i:Int)<(a:Int):=by omega
  refine bX ⟨_,fun k=>by simp only[ax.l0];rw[if_pos p1],?_⟩
  exact zu hb ht (by omega) (fun M' h=>ih (i+1) M' (by omega) h) b 0 M (by omega) hM
theorem y6{a b:Nat}(ha:2≤a)(hb:2≤b)(h:Nat.Coprime a b)(ht:a*b≤1024):Ev (fun k=>ax.f k (a:Int) (b:Int)) (oT a b (a*b)):=by
 have w:wrap64 ((a:Int)*(b:Int))=((a*b:Nat):Int):=by rw[←Int.natCast_mul];exact fK (by omega)
 have F:=kV (n:=((a*b:Nat):Int)) (a:=(a:Int)) (by omega)
 rw[q9 ha hb h] at F
 refine Ev.congr (f:=fun k=>(some true).bind fun s=>if s=true then((bo.f k ((a*b:Nat):Int) (a:Int)).bind fun t=>if t=true then ax.l0 k (a:Int) (b:Int) ((a*b:Nat):Int) [] 0 else some []) else some []) (fun k=>by unfold ax.f;rw[qj ha hb ht,w]) (kx rfl (dG rfl (Ev.bind F (dG rfl ?_))))
 exact zK (by omega) (by omega) ht a 0 [] (by omega) ⟨by rw[Nat.zero_mul];rfl,fun i j _ h=>by omega⟩
end Go.Proofs.YtndkmnjbjlfeaaaGreat.D15
end
section
namespace Go.Proofs.YtndkmnjbjlfeaaaGreat.D15
open Go Go.RowKit Go.Proofs.YtndkmnjbjlfeaaaGreatW.PrintWords Go.Proofs.YtndkmnjbjlfeaaaGreatW.PrintLast Go.Proofs.YtndkmnjbjlfeaaaGreatW.PrintMore Go.Proofs.YtndkmnjbjlfeaaaGreat.Given Go.Proofs.YtndkmnjbjlfeaaaGreat.M Go.Proofs.YtndkmnjbjlfeaaaGreat.Mont Go.Proofs.YtndkmnjbjlfeaaaGreat.XS Go.Proofs.YtndkmnjbjlfeaaaGreat.XT Go.Proofs.YtndkmnjbjlfeaaaGreat.XR Go.Proofs.YtndkmnjbjlfeaaaGreat.Num Go.Proofs.YtndkmnjbjlfeaaaGreat.F06 Go.Proofs.YtndkmnjbjlfeaaaGreat.T10 Go.Proofs.YtndkmnjbjlfeaaaGreat.D11 Go.Proofs.YtndkmnjbjlfeaaaGreat.XW Go.Proofs.YtndkmnjbjlfeaaaGreat.XG Go.Proofs.YtndkmnjbjlfeaaaGreat.XM Go.Proofs.YtndkmnjbjlfeaaaGreat.XC Go.Proofs.YtndkmnjbjlfeaaaGreat.XE
set_option linter.unusedVariables false
theorem gD.xK{F:cn}{l:List Int}(h:gD F l):l.length≤1000000:=Nat.le_trans h.top (by decide)
theorem gD.Ag{F:cn}{l:List Int}(h:gD F l):gK F.p l.length 1024=0:=q6 (by have:=h.pos;omega) (by have:=h.top;omega) h.div
theorem xr{F:cn}(hg:aJ F){l:List Int}(h:gD F l)(inv:Bool):Ev (fun k=>eR.f k [F] l inv) (gT F l inv):=by
 obtain⟨L,b,P,_,hb⟩:=D14.yZ (l.length:Int)
 cases b with
 |false=>exact Ev.congr (fun k=>rfl) (Ev.bind (D14.tl (gD.xK h) inv (gD.Ag h) P) (dG rfl (Ev.bind (D11.zJ hg h inv) (Ev.now _))))
 |true=>
  obtain⟨rs,m,em,rfl,hR⟩:=hb rfl
  obtain rfl:l.length=m:=Int.ofNat_inj.1 em
  exact Ev.congr (fun k=>rfl) (Ev.bind (D14.ye hg h hR P inv) (gy (show¬(0:Int)=11 by decide) (Ev.now _)))
structure zy (S m st far n:Nat):Prop where
 lt: ∀s k,s<S→k<m→s*st+k*far<n
 one: ∀s k s' k',s<S→k<m→s'<S→k'<m→s*st+k*far=s'*st+k'*far→s=s'∧k=k'
 top:n≤1024
 sm:S≤1024∧m≤1024
def iH(y:List Int)(st far m s:Nat):List Int:=(List.range m).map fun k=>rd y ((s*st+k*far:Nat):Int)
theorem gu(y:List Int)(st far m s:Nat):(iH y st far m s).length=m:=by unfold iH;rw[List.length_map,List.length_range]
theorem pJ{s st k far:Nat}(h:s*st+k*far<1024):wrap64 (wrap64 ((s:Int)*(st:Int))+wrap64 ((k:Int)*(far:Int)))=((s*st+k*far:Nat):Int):=by
 rw[←Int.natCast_mul,←Int.natCast_mul,fK (by omega),fK (by omega),←Int.natCast_add,fK (by omega)]
section
variable {F:cn} {S m st far n s:Nat} {inv:Bool}
theorem wZ(hL:zy S m st far n)(hs:s<S){t:List Int}(ht:t.length=n){R:List Int}
  (E:Ev (fun k=>(eR.f k [F] (iH t st far m s) inv).bind fun z=>aE.l2 k [F] t (st:Int) (m:Int) (far:Int) inv (s:Int) (S:Int) (s:Int) z (z.length:Int) 0) R) (d:Nat):
  ∀(j:Nat) (x:List Int),j+d=m→x.length=m→(∀i:Nat,i<j→rd x (i:Int)=rd t ((s*st+i*far:Nat):Int))→
  Ev (fun k=>aE.l1 k [F] t (st:Int) (m:Int) (far:Int) inv (s:Int) x (S:Int) (s:Int) (m:Int) (j:Int)) R:=by
 induction d with
 |zero=>
  intro j x hj hl hv
  have e:x=iH t st far m s:=iJ (by rw[hl,gu]) fun i hi=>by
   rw[gu] at hi
   rw[hv i (by omega)]
   exact(fD (f:=fun k=>rd t ((s*st+k*far:Nat):Int)) hi).symm
  subst e
  exact bX ⟨_,fun k=>by simp only[aE.l1];rw[if_neg (by omega)],E⟩
 |succ d ih=>
  intro j x hj hl hv
  have hjm:j<m:=by omega
  have hj1:j+1+d=m:=by omega
  have hj2:j≤1000000000:=by have:=hL.sm;omega
  have hp:=hL.lt s j hs hjm
  have hp2:=Nat.lt_of_lt_of_le hp hL.top
  have p1:(j:Int)<(m:Int):=Int.ofNat_lt.2 hjm
  have p2:(0:Int)≤((s*st+j*far:Nat):Int):=Int.natCast_nonneg _
  have p3:((s*st+j*far:Nat):Int)<(t.length:Int):=by rw[ht];exact Int.ofNat_lt.2 hp
  have p4:(0:Int)≤(j:Int):=Int.natCast_nonneg _
  have p5:(j:Int)<(x.length:Int):=by rw[hl];exact p1
  have ws:wrap64 ((j:Int)+1)=((j+1:Nat):Int):=cA hj2
  have e:=pJ (s:=s) (st:=st) (k:=j) (far:=far) hp2
  refine bX ⟨_,fun k=>by simp only[aE.l1];rw[if_pos p1,e,if_pos p2,if_pos p3,if_pos p4,if_pos p5,ws,Int.toNat_natCast],?_⟩
  refine ih (j+1) _ hj1 (by rw[List.length_set];exact hl) fun i hi=>?_
  by_cases c:i=j
  ·subst c
   exact iX _ (by rw[hl];exact hjm)
  ·rw[eI _ fun e=>c e.symm]
   exact hv i (Nat.lt_of_le_of_ne (Nat.le_of_lt_succ hi) c)
theorem xE(hL:zy S m st far n)(hs:s<S){z t0:List Int}(hz:z.length=m)(d:Nat):
  ∀(j:Nat) (t:List Int),j+d=m→t.length=n→(∀i:Nat,i<j→rd t ((s*st+i*far:Nat):Int)=rd z (i:Int))→(∀u:Nat,(∀i:Nat,i<j→u≠s*st+i*far)→rd t (u:Int)=rd t0 (u:Int))→
  ∃t':List Int,t'.length=n∧(∀i:Nat,i<m→rd t' ((s*st+i*far:Nat):Int)=rd z (i:Int))∧(∀u:Nat,(∀i:Nat,i<m→u≠s*st+i*far)→rd t' (u:Int)=rd t0 (u:Int))∧
   ∀R,Ev (fun k=>aE.l0 k [F] t' (st:Int) (m:Int) (far:Int) inv (S:Int) ((s+1:Nat):Int)) R→Ev (fun k=>aE.l2 k [F] t (st:Int) (m:Int) (far:Int) inv (s:Int) (S:Int) (s:Int) z (m:Int) (j:Int)) R:=by
 have ht':=hL.top
 have hm':=hL.sm
 induction d with
 |zero=>
  intro j t hj hl h1 h2
  obtain rfl:j=m:=by omega
  have ws:wrap64 ((s:Int)+1)=((s+1:Nat):Int):=cA (by omega)
  exact⟨t,hl,h1,h2,fun R E=>bX ⟨_,fun k=>by simp only[aE.l2];rw[if_neg (by omega),ws],E⟩⟩
 |succ d ih=>
  intro j t hj hl h1 h2
  have hjm:j<m:=by omega
  have hj1:j+1+d=m:=by omega
  have hj2:j≤1000000000:=by omega
  have hp:=hL.lt s j hs hjm
  have hp2:=Nat.lt_of_lt_of_le hp ht'
  have p1:(j:Int)<(m:Int):=Int.ofNat_lt.2 hjm
  have p2:(0:Int)≤((s*st+j*far:Nat):Int):=Int.natCast_nonneg _
  have p3:((s*st+j*far:Nat):Int)<(t.length:Int):=by rw[hl];exact Int.ofNat_lt.2 hp
  have p4:(0:Int)≤(j:Int):=Int.natCast_nonneg _
  have p5:(j:Int)<(z.length:Int):=by rw[hz];exact p1
  have ws:wrap64 ((j:Int)+1)=((j+1:Nat):Int):=cA hj2
  have e:=pJ (s:=s) (st:=st) (k:=j) (far:=far) hp2
  obtain⟨t',g1,g2,g3,g4⟩:=ih (j+1) (t.set (s*st+j*far) (rd z (j:Int))) hj1 (by rw[List.length_set];exact hl) (fun i hi=>by
   by_cases c:i=j
   ·subst c
    exact iX _ (by rw[hl];exact hp)
   ·have hij:=Nat.lt_of_le_of_ne (Nat.le_of_lt_succ hi) c
    rw[eI _ fun e=>c (hL.one s i s j hs (Nat.lt_trans hij hjm) hs hjm e.symm).2]
    exact h1 i hij) (fun u hu=>by
   rw[eI _ fun e=>hu j (Nat.lt_succ_self j) e.symm]
   exact h2 u fun i hi=>hu i (Nat.lt_succ_of_lt hi))
  exact⟨t',g1,g2,g3,fun R E=>bX ⟨_,fun k=>by simp only[aE.l2];rw[if_pos p1,if_pos p4,if_pos p5,e,if_pos p2,if_pos p3,ws,Int.toNat_natCast],g4 R E⟩⟩
theorem uw(hg:aJ F)(hL:zy S m st far n){y:List Int}(hF: ∀s,s<S→gD F (iH y st far m s))(d:Nat):
  ∀(s:Nat) (t:List Int),s+d=S→t.length=n→(∀s' k:Nat,s'<s→k<m→rd t ((s'*st+k*far:Nat):Int)=rd (gT F (iH y st far m s') inv) (k:Int))→(∀s' k:Nat,s≤s'→s'<S→k<m→rd t ((s'*st+k*far:Nat):Int)=rd y ((s'*st+k*far:Nat):Int))→
  ∃z:List Int,Ev (fun k=>aE.l0 k [F] t (st:Int) (m:Int) (far:Int) inv (S:Int) (s:Int)) z∧z.length=n∧ ∀s k:Nat,s<S→k<m→rd z ((s*st+k*far:Nat):Int)=rd (gT F (iH y st far m s) inv) (k:Int):=by
 have ht':=hL.top
 have hm':=hL.sm
 induction d with
 |zero=>
  intro s t hs hl h1 h2
  obtain rfl:s=S:=by omega
  exact⟨t,bX ⟨_,fun k=>by simp only[aE.l0];rw[if_neg (by omega)],Ev.now _⟩,hl,h1⟩
 |succ d ih=>
  intro s t hs hl h1 h2
  have hsS:s<S:=by omega
  have e:iH t st far m s=iH y st far m s:=List.map_congr_left fun k hk=>h2 s k (Nat.le_refl _) hsS (List.mem_range.1 hk)
  have rl:(gT F (iH y st far m s) inv).length=m:=by rw[eY,gu]
  obtain⟨t',g1,g2,g3,g4⟩:=xE (F:=F) (inv:=inv) hL hsS rl m 0 t (Nat.zero_add _) hl (fun i hi=>absurd hi (Nat.not_lt_zero _)) (t0:=t) (fun u _=>rfl)
  have dis: ∀s' k,s'<S→k<m→s'≠s→ ∀i,i<m→s'*st+k*far≠s*st+i*far:=fun s' k h h' hne i hi e=>hne (hL.one s' k s i h h' hsS hi e).1
  obtain⟨z,z1,z2,z3⟩:=ih (s+1) t' (by omega) g1 (fun s' k h h'=>by
   by_cases c:s'=s
   ·subst c
    exact g2 k h'
   ·rw[g3 _ (dis s' k (by omega) h' c)]
    exact h1 s' k (by omega) h') (fun s' k h h2' h'=>by
   rw[g3 _ (dis s' k h2' h' (by omega))]
   exact h2 s' k (by omega) h2' h')
  have p1:(s:Int)<(S:Int):=by omega
  have p2:(0:Int)≤(m:Int):=Int.natCast_nonneg _
  have p3:(m:Int).toNat≤35184372088832:=by omega
  refine⟨z,bX ⟨_,fun k=>by simp only[aE.l0];rw[if_pos p1,if_pos p2,if_pos p3],kx rfl ?_⟩,z2,z3⟩
  rw[List.length_replicate,Int.toNat_natCast]
  refine wZ hL hsS hl ?_ m 0 _ (Nat.zero_add _) List.length_replicate fun i hi=>absurd hi (Nat.not_lt_zero _)
  rw[e]
  refine Ev.bind (xr hg (hF s hsS) inv) ?_
  rw[rl]
  exact g4 z z1
theorem pH(hg:aJ F)(hL:zy S m st far n){y:List Int}(hy:y.length=n)(hF: ∀s,s<S→gD F (iH y st far m s))(inv:Bool):
  ∃z:List Int,Ev (fun k=>aE.f k [F] y (S:Int) (st:Int) (m:Int) (far:Int) inv) z∧z.length=n∧ ∀s k:Nat,s<S→k<m→rd z ((s*st+k*far:Nat):Int)=rd (gT F (iH y st far m s) inv) (k:Int):=
 uw hg hL hF S 0 y (Nat.zero_add _) hy (fun s k h _=>absurd h (Nat.not_lt_zero _)) fun _ _ _ _ _=>rfl
theorem nt(hL:zy S m st far n)(hm:1≤m)(hd:(F.p-1)% (m:Int)=0){y:List Int}(hr: ∀u:Nat,u<n→0≤rd y (u:Int)∧rd y (u:Int)<F.p)(hs:s<S):gD F (iH y st far m s):=by
 refine⟨by rw[gu];exact hm,by rw[gu];exact hL.sm.2,by rw[gu];exact hd,fun x hx=>?_⟩
 obtain⟨k,hk,rfl⟩:=List.mem_map.1 hx
 exact hr _ (hL.lt s k hs (List.mem_range.1 hk))
end
theorem pq{a b:Nat}(ha:1≤a)(hb:1≤b)(ht:a*b≤1024):zy a b b 1 (a*b):=by
 have h1:a*1≤a*b:=Nat.mul_le_mul_left _ hb
 have h2:1*b≤a*b:=Nat.mul_le_mul_right _ ha
 refine⟨fun s k hs hk=>?_,fun s k s' k' hs hk hs' hk' e=>?_,ht,by omega,by omega⟩
 ·have:(s+1)*b≤a*b:=Nat.mul_le_mul_right _ hs
  rw[Nat.succ_mul] at this
  omega
 ·rw[Nat.mul_one,Nat.mul_one] at e
  have d:=congrArg (· /b) e
  simp only[Nat.mul_comm s b,Nat.mul_comm s' b,Nat.mul_add_div hb,Nat.div_eq_of_lt hk,Nat.div_eq_of_lt hk',Nat.add_zero] at d
  subst d
  exact⟨rfl,by omega⟩
theorem uK{a b:Nat}(ha:1≤a)(hb:1≤b)(ht:a*b≤1024):zy b a 1 b (a*b):=by
 have R:=pq ha hb ht
 refine⟨fun s k hs hk=>?_,fun s k s' k' hs hk hs' hk' e=>?_,ht,R.sm.2,R.sm.1⟩
 ·rw[Nat.mul_one,Nat.add_comm]
  have:=R.lt k s hk hs
  rwa[Nat.mul_one] at this
 ·obtain⟨h1,h2⟩:=R.one k s k' s' hk hs hk' hs' (by rw[Nat.mul_one,Nat.mul_one] at e ⊢;omega)
  exact⟨h2,h1⟩
theorem ze{n a b:Nat}(hn:n≤1024){z Y:List Int}(hz:z.length=n)(hY:Y.length=n)(ho: ∀u,u<n→nF a b u<n)(hv: ∀u:Nat,u<n→rd z ((nF a b u:Nat):Int)=rd Y (u:Int))(d:Nat): ∀(j:Nat) (y:List Int),j+d=n→y.length=n→(∀u:Nat,u<j→rd y (u:Int)=rd Y (u:Int))→
  Ev (fun k=>ba.l1 k z y (oT a b n) (n:Int) (j:Int)) (Y,0):=by
 induction d with
 |zero=>
  intro j y hj hl h
  obtain rfl:y=Y:=iJ (by rw[hl,hY]) fun i hi=>h i (by omega)
  exact bX ⟨_,fun k=>by simp only[ba.l1];rw[if_neg (by omega)],Ev.now _⟩
 |succ d ih=>
  intro j y hj hl h
  have hjn:j<n:=by omega
  have hj1:j+1+d=n:=by omega
  have hj2:j≤1000000000:=by omega
  have e:rd (oT a b n) (j:Int)=((nF a b j:Nat):Int):=fD hjn
  have p1:(j:Int)<(n:Int):=Int.ofNat_lt.2 hjn
  have p2:(0:Int)≤(j:Int):=Int.natCast_nonneg _
  have p3:(j:Int)<((oT a b n).length:Int):=by rw[kX];exact p1
  have p4:(0:Int)≤((nF a b j:Nat):Int):=Int.natCast_nonneg _
  have p5:((nF a b j:Nat):Int)<(z.length:Int):=by rw[hz];exact Int.ofNat_lt.2 (ho j hjn)
  have p6:(j:Int)<(y.length:Int):=by rw[hl];exact p1
  have ws:wrap64 ((j:Int)+1)=((j+1:Nat):Int):=cA hj2
  refine bX ⟨_,fun k=>by simp only[ba.l1];rw[if_pos p1,if_pos p2,if_pos p3,e,if_pos p4,if_pos p5,if_pos p6,ws,Int.toNat_natCast],?_⟩
  refine ih (j+1) _ hj1 (by rw[List.length_set];exact hl) fun i hi=>?_
  by_cases c:i=j
  ·subst c
   rw[iX _ (by rw[hl];exact hjn)]
   exact hv i hjn
  ·rw[eI _ fun e=>c e.symm]
   exact h i (Nat.lt_of_le_of_ne (Nat.le_of_lt_succ hi) c)
theorem yW{F:cn}{l:List Int}{n a b:Nat}(hn:n≤1024)(hl:l.length=n)(hi: ∀u,u<n→ui a b u<n){inv:Bool}{R:List Int×Int}
  (E: ∀t:List Int,t.length=n→(∀u:Nat,u<n→rd t (u:Int)=rd l ((ui a b u:Nat):Int))→Ev (fun k=>(aE.f k [F] t (a:Int) (b:Int) (b:Int) 1 inv).bind fun z=>(aE.f k [F] z (b:Int) 1 (a:Int) (b:Int) inv).bind fun z'=>if 0≤(n:Int) then(if(n:Int).toNat≤35184372088832 then(ax.f k (a:Int) (b:Int)).bind fun o=>ba.l1 k z' (List.replicate (n:Int).toNat 0) o (o.length:Int) 0 else none) else none) R) (d:Nat):
  ∀(j:Nat) (t:List Int),j+d=n→t.length=n→(∀u:Nat,u<j→rd t (u:Int)=rd l ((ui a b u:Nat):Int))→
  Ev (fun k=>ba.l0 k [F] l (a:Int) inv (n:Int) (b:Int) t (sj a b n) (n:Int) (j:Int)) R:=by
 induction d with
 |zero=>
  intro j t hj ht h
  obtain rfl:j=n:=by omega
  exact bX ⟨_,fun k=>by simp only[ba.l0];rw[if_neg (by omega)],E t ht h⟩
 |succ d ih=>
  intro j t hj ht h
  have hjn:j<n:=by omega
  have hj1:j+1+d=n:=by omega
  have hj2:j≤1000000000:=by omega
  have e:rd (sj a b n) (j:Int)=((ui a b j:Nat):Int):=fD hjn
  have p1:(j:Int)<(n:Int):=Int.ofNat_lt.2 hjn
  have p2:(0:Int)≤(j:Int):=Int.natCast_nonneg _
  have p3:(j:Int)<((sj a b n).length:Int):=by rw[pc];exact p1
  have p4:(0:Int)≤((ui a b j:Nat):Int):=Int.natCast_nonneg _
  have p5:((ui a b j:Nat):Int)<(l.length:Int):=by rw[hl];exact Int.ofNat_lt.2 (hi j hjn)
  have p6:(j:Int)<(t.length:Int):=by rw[ht];exact p1
  have ws:wrap64 ((j:Int)+1)=((j+1:Nat):Int):=cA hj2
  refine bX ⟨_,fun k=>by simp only[ba.l0];rw[if_pos p1,if_pos p2,if_pos p3,e,if_pos p4,if_pos p5,if_pos p6,ws,Int.toNat_natCast],?_⟩
  refine ih (j+1) _ hj1 (by rw[List.length_set];exact ht) fun i hi'=>?_
  by_cases c:i=j
  ·subst c
   exact iX _ (by rw[ht];exact hjn)
  ·rw[eI _ fun e=>c e.symm]
   exact h i (Nat.lt_of_le_of_ne (Nat.le_of_lt_succ hi') c)
theorem oR{F:cn}(hg:aJ F){l:List Int}(h:gD F l){a b:Nat}(hn:l.length=a*b)(ha:2≤a)(hb:2≤b)(hab:Nat.Coprime a b)(inv:Bool):Ev (fun k=>ba.f k [F] l (a:Int) inv) (gT F l inv,0):=by
 have ht:a*b≤1024:=by rw[←hn];exact h.top
 have hd:=h.div
 rw[hn] at hd
 have hd':(F.p-1)% ((b*a:Nat):Int)=0:=by rw[Nat.mul_comm];exact hd
 have hpos:0<a*b:=Nat.mul_pos (by omega) (by omega)
 have LR:=pq (a:=a) (b:=b) (by omega) (by omega) ht
 have LC:=uK (a:=a) (b:=b) (by omega) (by omega) ht
 have hin: ∀u,u<a*b→ui a b u<a*b:=fun u _=>Nat.mod_lt _ hpos
 have hout: ∀u,u<a*b→nF a b u<a*b:=fun u _=>by
  have:=LR.lt (u%a) (u%b) (Nat.mod_lt _ (by omega)) (Nat.mod_lt _ (by omega))
  rwa[Nat.mul_one] at this
 have hres: ∀u:Nat,u<a*b→0≤rd l (u:Int)∧rd l (u:Int)<F.p:=fun u hu=>h.res _ (gM (by rw[hn];exact hu))
 have C:=hH (F:=F) (most:=1024) (lT (gD.xK h))
 rw[gD.Ag h] at C
 have Fi:=kV (n:=(l.length:Int)) (a:=(a:Int)) (by have:=h.top;omega)
 rw[hn,q9 ha hb hab] at Fi
 have G:=mu (F:=F) (gD.xK h)
 rw[h.all] at G
 have wq:wrap64 (Int.tdiv ((a*b:Nat):Int) (a:Int))=(b:Int):=by
  rw[dr (Int.natCast_nonneg _),Int.natCast_mul,Int.mul_ediv_cancel_left _ (by omega)]
  exact fK (by have:=LR.sm.2;omega)
 have p0: ¬(a:Int)=0:=by omega
 have p1:(0:Int)≤((a*b:Nat):Int):=Int.natCast_nonneg _
 have p2:((a*b:Nat):Int).toNat≤35184372088832:=by rw[Int.toNat_natCast];omega
 have E:Ev (fun k=>(aZ.f k (a:Int) (b:Int)).bind fun t=>ba.l0 k [F] l (a:Int) inv ((a*b:Nat):Int) (b:Int) (List.replicate ((a*b:Nat):Int).toNat 0) t (t.length:Int) 0) (gT F l inv,0):=by
  refine Ev.bind (Au ha hb hab ht) ?_
  rw[pc,Int.toNat_natCast]
  refine yW ht hn hin (fun t lt ht1=>?_) (a*b) 0 _ (Nat.zero_add _) List.length_replicate fun u hu=>absurd hu (Nat.not_lt_zero _)
  obtain⟨z,Z,lz,hz⟩:=pH hg LR lt (fun s hs=>nt LR (by omega) (iT hd) (fun u hu=>by rw[ht1 u hu];exact hres _ (hin u hu)) hs) inv
  have rz: ∀u:Nat,u<a*b→0≤rd z (u:Int)∧rd z (u:Int)<F.p:=fun u hu=>by
   have q1:u/b<a:=Nat.div_lt_of_lt_mul (by rw[Nat.mul_comm];exact hu)
   have q2:u%b<b:=Nat.mod_lt _ (by omega)
   have f:=nt LR (by omega) (iT hd) (fun u hu=>by rw[ht1 u hu];exact hres _ (hin u hu)) q1 (F:=F)
   have e:=hz _ _ q1 q2
   rw[Nat.mul_one,Nat.div_add_mod'] at e
   rw[e]
   exact(qi hg f inv).res _ (gM (by rw[eY,gu];exact q2))
  obtain⟨z',Z',lz',hz'⟩:=pH hg LC lz (fun s hs=>nt LC (by omega) (iT hd') rz hs) inv
  refine Ev.bind Z (Ev.bind Z' (dG p1 (dG p2 (Ev.bind (y6 ha hb hab ht) ?_))))
  rw[kX,Int.toNat_natCast]
  refine ze ht lz' (by rw[eY];exact hn) hout (fun u hu=>?_) (a*b) 0 _ (Nat.zero_add _) List.length_replicate fun u hu=>absurd hu (Nat.not_lt_zero _)
  have q1:u%a<a:=Nat.mod_lt _ (by omega)
  have q2:u%b<b:=Nat.mod_lt _ (by omega)
  have e:=hz' _ _ q2 q1
  rw[Nat.mul_one,Nat.add_comm] at e
  refine e.trans ?_
  rw[tT hg h hn (by omega) (by omega) hab inv hu]
  refine(ng _ inv q1).trans ?_
  have ec: ∀i,i<a→rd z ((u%b*1+i*b:Nat):Int)=cO F b inv*cS (ca F b inv) (fun j=>rd l (((b*i+a*j)% (a*b):Nat):Int)) b (u%b)%F.p:=fun i hi=>by
   have e2:=hz i (u%b) hi q2
   rw[Nat.mul_one] at e2 ⊢
   rw[Nat.add_comm,e2]
   refine(ng _ inv q2).trans ?_
   have:cS (ca F b inv) (fun k=>rd t ((i*b+k*1:Nat):Int)) b (u%b)=cS (ca F b inv) (fun j=>rd l (((b*i+a*j)% (a*b):Nat):Int)) b (u%b):=by
    unfold cS
    refine cm fun j hj=>?_
    have hlt:=LR.lt i j hi hj
    show _*rd t ((i*b+j*1:Nat):Int)=_
    rw[ht1 _ hlt,Nat.mul_one,vv hj]
   rw[this]
  have:cS (ca F a inv) (fun k=>rd z ((u%b*1+k*b:Nat):Int)) a (u%a)=cS (ca F a inv) (fun i=>cO F b inv*cS (ca F b inv) (fun j=>rd l (((b*i+a*j)% (a*b):Nat):Int)) b (u%b)%F.p) a (u%a):=by
   unfold cS
   refine cm fun i hi=>?_
   show _*rd z ((u%b*1+i*b:Nat):Int)=_
   rw[ec i hi]
   rfl
  rw[this]
 refine Ev.congr (fun k=>by unfold ba.f;rw[hn]) ?_
 rw[hn] at C
 refine kx C (dG rfl (Ev.bind Fi (dG rfl (Ev.bind G (dG rfl (gy p0 (dG p1 (dG p2 ?_))))))))
 rw[wq]
 exact E
theorem wK{F:cn}{l:List Int}(hn:l.length≤1000000)(a:Int)(inv:Bool)(h:gK F.p l.length 1024≠0):Ev (fun k=>ba.f k [F] l a inv) ([],gK F.p l.length 1024):=
 Ev.congr (fun k=>rfl) (kx (hH (lT hn)) (gy h (Ev.now _)))
theorem tK{F:cn}{l:List Int}(hn:l.length≤1000000){a:Int}(inv:Bool)(h:gK F.p l.length 1024=0)(hf:je l.length a=false):Ev (fun k=>ba.f k [F] l a inv) ([],11):=by
 have C:=hH (F:=F) (most:=1024) (lT hn)
 rw[h] at C
 have Fi:=kV (n:=(l.length:Int)) (a:=a) (by omega)
 rw[hf] at Fi
 exact Ev.congr (fun k=>rfl) (kx C (dG rfl (Ev.bind Fi (gy Bool.false_ne_true (Ev.now _)))))
theorem wh{F:cn}{l:List Int}(hn:l.length≤1000000){a:Int}(inv:Bool)(h:gK F.p l.length 1024=0)(hf:je l.length a=true)(hb:mi F.p l=false):Ev (fun k=>ba.f k [F] l a inv) ([],9):=by
 have C:=hH (F:=F) (most:=1024) (lT hn)
 rw[h] at C
 have Fi:=kV (n:=(l.length:Int)) (a:=a) (by omega)
 rw[hf] at Fi
 have G:=mu (F:=F) hn
 rw[hb] at G
 exact Ev.congr (fun k=>rfl) (kx C (dG rfl (Ev.bind Fi (dG rfl (Ev.bind G (gy Bool.false_ne_true (Ev.now _)))))))
end Go.Proofs.YtndkmnjbjlfeaaaGreat.D15
end
section
namespace Go.Proofs.YtndkmnjbjlfeaaaGreat.F06.XE
open Go Go.RowKit Go.Proofs.YtndkmnjbjlfeaaaGreatW.PrintWords Go.Proofs.YtndkmnjbjlfeaaaGreatW.PrintLast Go.Proofs.YtndkmnjbjlfeaaaGreatW.PrintMore Go.Proofs.YtndkmnjbjlfeaaaGreat.Given Go.Proofs.YtndkmnjbjlfeaaaGreat.M Go.Proofs.YtndkmnjbjlfeaaaGreat.Mont Go.Proofs.YtndkmnjbjlfeaaaGreat.XS Go.Proofs.YtndkmnjbjlfeaaaGreat.XT Go.Proofs.YtndkmnjbjlfeaaaGreat.XR Go.Proofs.YtndkmnjbjlfeaaaGreat.Num Go.Proofs.YtndkmnjbjlfeaaaGreat.XK Go.Proofs.YtndkmnjbjlfeaaaGreat.T10 Go.Proofs.YtndkmnjbjlfeaaaGreat.D11 Go.Proofs.YtndkmnjbjlfeaaaGreat.XW Go.Proofs.YtndkmnjbjlfeaaaGreat.XE
theorem xX{l:List Int}(hn:l.length≤1000000)(d:Nat): ∀i:Nat,i+d=l.length→Ev (fun k=>bq.l0 k l l (l.length:Int) (i:Int)) true:=by
 induction d with
 |zero=>
  intro i hi
  exact bX ⟨_,fun k=>by simp only[bq.l0];rw[if_neg (by omega)],Ev.now _⟩
 |succ d ih=>
  intro i hi
  have p1:(i:Int)<(l.length:Int):=by omega
  have p2:(0:Int)≤(i:Int):=Int.natCast_nonneg _
  exact bX ⟨_,fun k=>by simp only[bq.l0];rw[if_pos p1,if_pos p2,if_pos p1,if_pos p1,if_pos trivial,cA (by omega)],ih (i+1) (by omega)⟩
theorem sA{l:List Int}(hn:l.length≤1000000):Ev (fun k=>bq.f k l l) true:=by
 have h:=xX hn l.length 0 (by omega)
 exact Ev.congr (fun k=>by unfold bq.f;rw[if_pos rfl];rfl) h
end Go.Proofs.YtndkmnjbjlfeaaaGreat.F06.XE
end
section
namespace Go.Proofs.YtndkmnjbjlfeaaaGreat.F06.XE
open Go Go.RowKit Go.Proofs.YtndkmnjbjlfeaaaGreatW.PrintWords Go.Proofs.YtndkmnjbjlfeaaaGreatW.PrintLast Go.Proofs.YtndkmnjbjlfeaaaGreatW.PrintMore Go.Proofs.YtndkmnjbjlfeaaaGreat.Given Go.Proofs.YtndkmnjbjlfeaaaGreat.M Go.Proofs.YtndkmnjbjlfeaaaGreat.Mont Go.Proofs.YtndkmnjbjlfeaaaGreat.XS Go.Proofs.YtndkmnjbjlfeaaaGreat.XT Go.Proofs.YtndkmnjbjlfeaaaGreat.XR Go.Proofs.YtndkmnjbjlfeaaaGreat.Num Go.Proofs.YtndkmnjbjlfeaaaGreat.XK Go.Proofs.YtndkmnjbjlfeaaaGreat.T10 Go.Proofs.YtndkmnjbjlfeaaaGreat.D11 Go.Proofs.YtndkmnjbjlfeaaaGreat.D15 Go.Proofs.YtndkmnjbjlfeaaaGreat.XW Go.Proofs.YtndkmnjbjlfeaaaGreat.XG Go.Proofs.YtndkmnjbjlfeaaaGreat.XM Go.Proofs.YtndkmnjbjlfeaaaGreat.XC Go.Proofs.YtndkmnjbjlfeaaaGreat.F06.XC Go.Proofs.YtndkmnjbjlfeaaaGreat.XE Go.Proofs.YtndkmnjbjlfeaaaGreat.fx
set_option linter.unusedVariables false
theorem wu:Ev (fun k=>bZ.f k) true:=Ev.of (g:=fun k=>bZ.f k) (fun k=>bZ.mono k) (k:=60) (by kernel_rfl)
theorem vI{F:cn}(hg:aJ F){l:List Int}(hn:l.length≤1100)(hu: ∀x∈l,U x)(a:Int): ∃v,Ev (fun k=>dy.f k F.p l a) v∧((v=0∧gD F l∧je (l.length:Int) a=true)∨(v≠0∧ ∀inv,Ev (fun k=>ba.f k [F] l a inv) ([],v))):=by
 have hn':l.length≤1000000:=by omega
 have C:=tx (most:=1024) hg.lo hg.hi (lT hn')
 by_cases h1:gK F.p l.length 1024=0
 ·rw[h1] at C
  obtain⟨c1,c2,c3⟩:=At h1
  have Fi:=vl (n:=(l.length:Int)) (a:=a) (by omega)
  by_cases h2:je (l.length:Int) a=true
  ·rw[h2] at Fi
   have G:=wz (p:=F.p) hn'
   by_cases h3:mi F.p l=true
   ·rw[h3] at G
    exact⟨0,Ev.congr (fun k=>rfl) (kx C (dG rfl (Ev.bind Fi (dG rfl (Ev.bind G (dG rfl (Ev.now _))))))), .inl ⟨rfl,⟨by omega,by omega,c3,fun x hx=>⟨(hu x hx).1,of_decide_eq_true h3 x hx⟩⟩,h2⟩⟩
   ·have h3':=Bool.eq_false_iff.2 h3
    rw[h3'] at G
    exact⟨9,Ev.congr (fun k=>rfl) (kx C (dG rfl (Ev.bind Fi (dG rfl (Ev.bind G (gy Bool.false_ne_true (Ev.now _))))))), .inr ⟨by decide,fun inv=>wh hn' inv h1 h2 h3'⟩⟩
  ·have h2':=Bool.eq_false_iff.2 h2
   rw[h2'] at Fi
   exact⟨11,Ev.congr (fun k=>rfl) (kx C (dG rfl (Ev.bind Fi (gy Bool.false_ne_true (Ev.now _))))), .inr ⟨by decide,fun inv=>tK hn' inv h1 h2'⟩⟩
 ·exact⟨_,Ev.congr (fun k=>rfl) (kx C (gy h1 (Ev.now _))), .inr ⟨h1,fun inv=>wK hn' a inv h1⟩⟩
theorem wS{L:List RE}(hL:iw L)(b c d:Int){l:List Int}(hu: ∀x∈l,U x)(a:Int)(inv:Bool):Ev (fun k=>aY.f k b c d L l a inv) true:=by
 refine Ev.congr (fun k=>rfl) (Ev.bind wu (dG rfl ?_))
 have J: ∀F,Ev (fun k=>aY.j0 k l a inv F true) true:=fun F=>bX ⟨_,fun k=>by simp only[aY.j0];rw[if_pos trivial],Ev.now _⟩
 rcases yb hL b c d with M|⟨F,M,hg⟩
 ·exact Ev.bind M (dG rfl (J _))
 refine Ev.bind M (gy hg.ne ?_)
 by_cases h1:(l.length:Int)>240
 ·exact dG h1 (J _)
 refine gy h1 ?_
 have hn:l.length≤1000000:=by omega
 obtain⟨v,V,⟨rfl,h,hf⟩|⟨hv,R⟩⟩:=vI hg (by omega) hu a
 ·refine Ev.bind V ?_
  obtain⟨x,y,rfl,en,hx,hy,hc⟩:=xR hf
  have en':l.length=y*x:=by rw[Nat.mul_comm];exact en
  have p0: ¬(x:Int)=0:=by omega
  have hxy:1*y≤x*y:=Nat.mul_le_mul_right _ (by omega)
  have wq:wrap64 (Int.tdiv (l.length:Int) (x:Int))=(y:Int):=by
   rw[dr (Int.natCast_nonneg _),en,Int.natCast_mul,Int.mul_ediv_cancel_left _ p0]
   exact fK (by omega)
  have R3:=oR hg (qi hg h inv) (by rw[eY];exact en') hy hx hc.symm (!inv)
  rw[uu hg h inv] at R3
  refine bX ⟨_,fun k=>by simp only[aY.j0];rw[if_neg (show¬((0:Int) !=0)=true by decide),if_neg p0,wq],?_⟩
  exact Ev.bind (oR hg h en hx hy hc inv) (Ev.bind (oR hg h en' hy hx hc.symm inv) (Ev.bind R3 (dG rfl (dG rfl (dG rfl (Ev.bind (sA (by rw[eY];exact hn)) (dG rfl (Ev.bind (sA hn) (Ev.now _)))))))))
 ·refine Ev.bind V ?_
  rw[bne_iff_ne.2 hv]
  exact J _
theorem vZ:fx Tryz.prog 26 (Kd.slice 22 (Kd.int .u64)) (fun l=>(∀x∈l,(Lit.int .u64 x).wf=true)∧l.length*Tryz.prog.bytesOf 22≤reachBytes):=
 jE Tryz.underlying26 (by kernel_rfl) (iO Tryz.underlying22)
section
variable {a b c:Int} {A:Option Addr} {cap:Nat} {l:List RE} {x:Int} {z:Bool} {W:World} {A1:Option Addr} {c1:Nat} {l1:List Int}
def AW(f:Nat)(a b c:Int)(A:Option Addr)(cap:Nat)(l:List RE)(more:List Value)(W:World):Prop:=Calls Tryz.prog f (.agg #[.int .i64 a, .int .i64 b, .int .u64 c, .slice A l.length cap]::more).toArray W fun e w'=>e= .returned (.bool true)∧Below W.heap.size W w'
def AN(l:List Int):Prop:=(∀x∈l,(Lit.int .u64 x).wf=true)∧l.length*Tryz.prog.bytesOf 22≤reachBytes
theorem AN.u{l:List Int}(h:AN l): ∀x∈l,U x:=fun x hx=>xp (h.1 x hx)
theorem rT(hc:l.length≤cap)(hr:Kd.C ku W A l.length l)(ho:iw l)(hc1:l1.length≤c1)(hr1:Kd.C (Kd.int .u64) W A1 l1.length l1)(ho1:AN l1)(_hx:(Lit.int .i64 x).wf=true):AW 15 a b c A cap l [.slice A1 l1.length c1, .int .i64 x, .bool z] W:=by
 obtain⟨k,hk⟩:=Ev.rounds (wS ho a b c ho1.u x z)
 exact aY.calls k a b c A cap l A1 c1 l1 x z W hr hc hr1 hc1 hk
end
end Go.Proofs.YtndkmnjbjlfeaaaGreat.F06.XE
end
