/- Parts of this claim's texts, packed by wip/tools/prune.py: what the proof does not reach is left out. -/
import Derived.Test.YtndkmnjbjlfeaaaGreatPCt5
import Derived.Laws.Externs
section
namespace Go.Proofs.YtndkmnjbjlfeaaaGreat.Given
open Go Go.RowKit Go.Proofs.YtndkmnjbjlfeaaaGreatW.PrintWords Go.Proofs.YtndkmnjbjlfeaaaGreatW.PrintLast Go.Proofs.YtndkmnjbjlfeaaaGreatW.PrintMore
theorem qA{e:Ending}{w:World}{a b:Nat}:e=e∧ ∃k,(w.drewN a).drewN b=w.drewN k:=⟨rfl,_,World.drewN_drewN _ _ _⟩
theorem qB{e:Ending}{w:World}{a b c:Nat}:e=e∧ ∃k,(w.drewN (a+b)).drewN c=w.drewN (a+k):=⟨rfl,b+c,(World.drewN_drewN _ _ _).trans (congrArg (World.drewN _) (Nat.add_assoc _ _ _))⟩
def dJ.f(a b c:Int):Option (Int×Int):=
 if 0≤a∧0≤b∧0≤c∧c≤1 then some ((a+b+c)%18446744073709551616,(a+b+c)/18446744073709551616) else none
theorem dJ.run(a b c r1 r2:Int)(w:World)(h:dJ.f a b c=some (r1,r2)):
  (callFunc 155 #[.int .u64 a, .int .u64 b, .int .u64 c]).run Tryz.prog w= .ok (.value (.tuple #[.int .u64 r1, .int .u64 r2])) w:=by
 unfold dJ.f at h
 by_cases h0:0≤a∧0≤b∧0≤c∧c≤1
 ·rw[if_pos h0] at h
  obtain⟨h0,h1,h2,h3⟩:=h0
  simp only[Option.some.injEq,Prod.mk.injEq] at h
  obtain⟨rfl,rfl⟩:=h
  rw[run_callFunc_extern Tryz.func155 (by kernel_rfl) (by kernel_rfl) (by kernel_rfl) (e:=add64Entry) (by kernel_rfl),run_add64 a b c h0 h1 h2 h3]
  rfl
 ·rw[if_neg h0] at h;cases h
def bits_Mul64.f(a b:Int):Option (Int×Int):=
 if 0≤a∧a<18446744073709551616∧0≤b∧b<18446744073709551616 then some (a*b/18446744073709551616,a*b%18446744073709551616) else none
theorem bits_Mul64.calls(a0 a1 r1 r2:Int)(w:World)(h:bits_Mul64.f a0 a1=some (r1,r2)):
  Calls Tryz.prog 125 #[.int .u64 a0, .int .u64 a1] w fun e w'=>e= .returned (.tuple #[.int .u64 r1, .int .u64 r2])∧au w w':=by
 unfold bits_Mul64.f at h
 by_cases h0:0≤a0∧a0<18446744073709551616∧0≤a1∧a1<18446744073709551616
 ·rw[if_pos h0] at h
  obtain⟨h0,h1,h2,h3⟩:=h0
  simp only[Option.some.injEq,Prod.mk.injEq] at h
  obtain⟨rfl,rfl⟩:=h
  obtain⟨x,rfl⟩:=Int.eq_ofNat_of_zero_le h0
  obtain⟨y,rfl⟩:=Int.eq_ofNat_of_zero_le h2
  refine(Tryz.bits_Mul64 x y (by omega) (by omega) w).mono ?_
  rintro e w' ⟨rfl,rfl⟩
  refine⟨?_,au.refl _⟩
  rw[Int.natCast_ediv,Int.natCast_emod,Int.natCast_mul]
  rfl
 ·rw[if_neg h0] at h;cases h
def bits_LeadingZeros64.f(a:Int):Option Int:=
 if 0≤a∧a≤18446744073709551615 then some (64-(Lib.bitLen a.toNat:Int)) else none
theorem bits_LeadingZeros64.calls(a0 r:Int)(w:World)(h:bits_LeadingZeros64.f a0=some r):
  Calls Tryz.prog 167 #[.int .u64 a0] w fun e w'=>e= .returned (.int .i64 r)∧au w w':=by
 unfold bits_LeadingZeros64.f at h
 by_cases h0:0≤a0∧a0≤18446744073709551615
 ·rw[if_pos h0] at h
  obtain rfl:=Option.some.inj h
  refine(Tryz.bits_LeadingZeros64 a0 w h0.1 h0.2).mono ?_
  rintro e w' ⟨rfl,rfl⟩
  exact⟨rfl,au.refl _⟩
 ·rw[if_neg h0] at h;cases h
end Go.Proofs.YtndkmnjbjlfeaaaGreat.Given
end
section
namespace Go.Proofs.YtndkmnjbjlfeaaaGreat.XS
open Go.RowKit Go.Proofs.YtndkmnjbjlfeaaaGreat.Given Go.Proofs.YtndkmnjbjlfeaaaGreatW.PrintWords Go.Proofs.YtndkmnjbjlfeaaaGreatW.PrintLast Go.Proofs.YtndkmnjbjlfeaaaGreatW.PrintMore
attribute [local go_sem] bU bS ct cr bw bz bP bT
set_option linter.unusedVariables false
set_option linter.unusedSimpArgs false
mutual
def av.j0:Nat→Int→Bool→Option ((List (bO)))
 |0,_,_=>none
 |k+1,x0,x11=>if x11=true then(some ([]:List (bO))) else(av.l0 k x0 ([]:List (bO)) 2)
def av.l0:Nat→Int→List (bO)→Int→Option ((List (bO)))
 |0,_,_,_=>none
 |k+1,x0,x3,x4=>if x0>1 then(if(IntKind.u64.wrap (x4*x4))>x0 then(av.j2 k x0 x3 x0) else(av.j2 k x0 x3 x4)) else(some x3)
def av.j2:Nat→Int→List (bO)→Int→Option ((List (bO)))
 |0,_,_,_=>none
 |k+1,x0,x3,x4=>av.l1 k x0 x3 x4 0
def av.l1:Nat→Int→List (bO)→Int→Int→Option ((List (bO)))
 |0,_,_,_,_=>none
 |k+1,x0,x3,x4,x5=>if x4=0 then(none) else(if(Int.tmod x0 x4)=0 then(av.l1 k (IntKind.u64.wrap (Int.tdiv x0 x4)) x3 x4 (wrap64 (x5+1))) else(if x5>0 then(if x3.length<8796093022208 then(av.l0 k x0 (x3++[(⟨x4,x5⟩:bO)]) (IntKind.u64.wrap (x4+1))) else(none)) else(av.l0 k x0 x3 (IntKind.u64.wrap (x4+1)))))
end
def av.f(k:Nat)(a0:Int):Option ((List (bO))):=if a0<2 then(av.j0 k a0 true) else(av.j0 k a0 (decide (a0>4294967296)))
set_option maxHeartbeats 8000000 in
set_option maxRecDepth 100000 in
theorem av.calls(k:Nat)(a0:Int)(r:List (bO))(w:World)(h:av.f k a0=some r):
  Calls Tryz.prog 143 #[.int .u64 a0] w fun e w'=> ∃v0_:Value,e= .returned (v0_)∧Kd.R ei 147 w' w.heap.size (fun _=>True) v0_ r∧Below w.heap.size w w':=by
 have hu147:=Tryz.underlying147
 have HB:=aa.mk (Below.refl w.heap.size w)
 have H:=h;unfold av.f at H
 clear h
 have HC2:=aa.mk H
 clear H
 go_enter Tryz.func143,Tryz.ntmps143
 go_upto_region 1 with(fail)
 go_cut [11] (fun v11 wc=> ∃(kq:Nat) (x11_1:Bool),v11= .bool x11_1∧aa (av.j0 kq a0 x11_1=some r)∧aa (kq≤k)∧aa (Below w.heap.size w wc))
 case first=>
  have H:=HC2.out
  clear HC2
  by_cases c3:a0<2
  ·rw[if_pos c3] at H
   have c3b0:=decide_eq_true c3
   clear c3
   (first|rw[c3b0]|(simp only[bp,bQ];rw[c3b0])|skip)
   have H':=aa.mk H
   clear H
   go_wp2
   go_meet
   case rel=>exact⟨_,(true),a8,H',⟨by first|omega|exact Nat.le_refl _⟩,⟨ak⟩⟩
  ·rw[if_neg c3] at H
   have c3b0:=decide_eq_false c3
   clear c3
   (first|rw[c3b0]|(simp only[bp,bQ];rw[c3b0])|skip)
   have H':=aa.mk H
   clear H
   go_wp2
   go_meet
   case rel=>exact⟨_,(decide (a0>4294967296)),a8,H',⟨by first|omega|exact Nat.le_refl _⟩,⟨ak⟩⟩
 case rest=>
  clear HC2
  obtain⟨kq,x11_1,rfl,HA,HJ1,HB⟩:=hcut
  cases kq with
  |zero=>exact absurd HA.out (by simp[av.j0])
  |succ kj1=>
   have H:=HA.out
   clear HA
   simp only[av.j0] at H
   by_cases c4:x11_1=true
   ·subst c4
    have H1:=H;rw[if_pos rfl] at H1
    clear H
    have H:=H1
    clear H1
    obtain rfl:=Option.some.inj H
    go_wp2
    go_ret
    exact⟨_,a8,tO,ak⟩
   ·replace c4:=Bool.eq_false_iff.mpr c4
    subst c4
    have H1:=H;rw[if_neg (show¬(false=true) by decide)] at H1
    clear H
    have H:=H1
    clear H1
    have H':=aa.mk H
    clear H
    go_wp2
    go_loopg [0,3,4] kj1 (fun kq v0 v3 v4 w'=> ∃(x0_2:Int) (x3_2:List (bO)) (x4_2:Int),v0= .int .u64 x0_2∧v4= .int .u64 x4_2∧aa (av.l0 kq x0_2 x3_2 x4_2=some r)∧aa (kq≤kj1)∧aa (Kd.R ei 147 w' w.heap.size (fun _=>True) v3 x3_2)∧aa (Below w.heap.size w w'))
    case atStart=>exact⟨(a0),(([]:List (bO))),(2),a8,a8,H',⟨Nat.le_refl _⟩,⟨tO⟩,⟨ak⟩⟩
    case round=>
     clear H'
     obtain⟨x0_2,x3_2,x4_2,rfl,rfl,HA,HK2,HO_3,HB⟩:=hrel
     cases gk with
     |zero=>exact absurd HA.out (by simp[av.l0])
     |succ k2=>
      have H:=HA.out
      clear HA
      simp only[av.l0] at H
      by_cases c5:x0_2>1
      ·rw[if_pos c5] at H
       have c5b0:=decide_eq_true c5
       clear c5
       have HC6:=aa.mk H
       clear H
       go_upto_if 20 with(fail)
       go_cut [4] (fun v4 wc=> ∃(kq:Nat) (x4_5:Int),v4= .int .u64 x4_5∧aa (av.j2 kq x0_2 x3_2 x4_5=some r)∧aa (kq≤k2)∧aa (Kd.R ei 147 wc w.heap.size (fun _=>True) u3 x3_2)∧aa (Below w.heap.size w wc))
       case first=>
        have H:=HC6.out
        clear HC6
        by_cases c7:(IntKind.u64.wrap (x4_2*x4_2))>x0_2
        ·rw[if_pos c7] at H
         have c7b0:=decide_eq_true c7
         clear c7
         (first|rw[c7b0]|(simp only[bp,bQ];rw[c7b0])|skip)
         have H':=aa.mk H
         clear H
         go_wp2
         go_meet
         case rel=>exact⟨_,(x0_2),a8,H',⟨by have:=HJ1.out;have:=HK2.out;first|omega|exact Nat.le_refl _⟩,⟨bK HO_3.out⟩,⟨ak⟩⟩
        ·rw[if_neg c7] at H
         have c7b0:=decide_eq_false c7
         clear c7
         (first|rw[c7b0]|(simp only[bp,bQ];rw[c7b0])|skip)
         have H':=aa.mk H
         clear H
         go_wp2
         go_meet
         case rel=>exact⟨_,(x4_2),a8,H',⟨by have:=HJ1.out;have:=HK2.out;first|omega|exact Nat.le_refl _⟩,⟨bK HO_3.out⟩,⟨ak⟩⟩
       case rest=>
        clear HC6
        obtain⟨kq,x4_5,rfl,HA,HJ5,HO_3,HB⟩:=hcut
        cases kq with
        |zero=>exact absurd HA.out (by simp[av.j2])
        |succ kj5=>
         have H:=HA.out
         clear HA
         simp only[av.j2] at H
         have H':=aa.mk H
         clear H
         go_wp2
         go_loopg [0,5] kj5 (fun kq v0 v5 w'=> ∃(x0_4:Int) (x5_4:Int),v0= .int .u64 x0_4∧v5= .int .i64 x5_4∧aa (av.l1 kq x0_4 x3_2 x4_5 x5_4=some r)∧aa (kq≤kj5)∧aa (Kd.R ei 147 w' w.heap.size (fun _=>True) u3 x3_2)∧aa (Below w.heap.size w w'))
         case atStart=>exact⟨(x0_2),(0),a8,a8,H',⟨Nat.le_refl _⟩,⟨bK HO_3.out⟩,⟨ak⟩⟩
         case round=>
          clear H'
          obtain⟨x0_4,x5_4,rfl,rfl,HA,HK4,HO_3,HB⟩:=hrel
          cases gk with
          |zero=>exact absurd HA.out (by simp[av.l1])
          |succ k4=>
           have H:=HA.out
           clear HA
           simp only[av.l1] at H
           by_cases c8:x4_5=0
           ·rw[if_pos c8] at H
            exact absurd H (by simp)
           ·rw[if_neg c8] at H
            have c8b0:=beq_eq_false_iff_ne.mpr c8
            have c8b1:=bne_iff_ne.mpr c8
            by_cases c9:(Int.tmod x0_4 x4_5)=0
            ·rw[if_pos c9] at H
             have c9b0:=beq_iff_eq.mpr c9
             have c9b1:=bne_eq_false_iff_eq.mpr c9
             clear c9
             have H':=aa.mk H
             clear H
             go_wp2
             go_roundg k4
             case measure=>have:=HJ1.out;have:=HK2.out;have:=HJ5.out;have:=HK4.out;omega
             case rel=>exact⟨(IntKind.u64.wrap (Int.tdiv x0_4 x4_5)),(wrap64 (x5_4+1)),a8,a8,H',⟨by have:=HJ1.out;have:=HK2.out;have:=HJ5.out;have:=HK4.out;omega⟩,⟨bK HO_3.out⟩,⟨ak⟩⟩
            ·rw[if_neg c9] at H
             have c9b0:=beq_eq_false_iff_ne.mpr c9
             have c9b1:=bne_iff_ne.mpr c9
             by_cases ek:x5_4>0
             ·rw[if_pos ek] at H
              have c10b0:=decide_eq_true ek
              clear ek
              by_cases eW:x3_2.length<8796093022208
              ·rw[if_pos eW] at H
               have LMc11:=aa.mk eW
               clear eW
               obtain⟨y101,hy101⟩: ∃y_:List (bO),y_=(x3_2++[(⟨x4_5,x5_4⟩:bO)]):=⟨_,rfl⟩
               replace H:(av.l0 k4 x0_4 y101 (IntKind.u64.wrap (x4_5+1)))=some r:=by first|(rw[hy101];with_reducible exact H)|(have H2_:=(Option.bind_some _ _).symm.trans H;rw[hy101];with_reducible exact H2_)|(have H2_:=(Option.bind_some _ _).symm.trans H;with_reducible exact H2_)|with_reducible exact H|(rw[hy101];exact H)|exact H
               have Ny101:=aa.mk hy101
               clear hy101
               have H':=aa.mk H
               clear H
               go_wp2_with (first|((with_reducible refine eO (b:= .append) (xs:= #[.tmp 33, .tmp 37]) rfl ?_);at_builtin;refine Kd.jH ei (w0:=w) w.heap.size rfl (.tmp 33) (.tmp 37) 92 147 (.agg #[(.int .u64 0),(.int .i64 0)]) 16 rfl Tryz.underlying92 jO rfl (by decide) (by omega) u3 x3_2 (⟨x4_5,x5_4⟩:bO) [.int .u64 x4_5, .int .i64 x5_4] (fun _=>True) (fun _=>False) rfl rfl ?aP (fun _ hk=>hk.elim) ?aF ?aO ?aB ?aS ?aL ?_;(case aP=>exact kU _ _ _ (⟨x4_5,x5_4⟩:bO));(case aB=>exact ak);(case aF=>exact(fun _ _=>trivial));(case aO=>exact(bK HO_3.out));(case aS=>exact(ai ak));(case aL=>have:=LMc11.out;omega);intro v102 w12 ho hb hg hat;rw[←Ny101.out] at ho;have n0_:=aa.mk (hb);have n1_:=aa.mk (ho);clear HB;clear HO_3;have HB:=n0_;have HO103:=n1_;clear n0_ n1_;clear ho hb hg hat))
               go_roundg k4
               case measure=>have:=HJ1.out;have:=HK2.out;have:=HJ5.out;have:=HK4.out;omega
               case rel=>exact⟨(x0_4),(y101),(IntKind.u64.wrap (x4_5+1)),a8,a8,H',⟨by have:=HJ1.out;have:=HK2.out;have:=HJ5.out;have:=HK4.out;omega⟩,⟨bK HO103.out⟩,⟨ak⟩⟩
              ·rw[if_neg eW] at H
               exact absurd H (by simp)
             ·rw[if_neg ek] at H
              have c10b0:=decide_eq_false ek
              clear ek
              have H':=aa.mk H
              clear H
              go_wp2
              go_roundg k4
              case measure=>have:=HJ1.out;have:=HK2.out;have:=HJ5.out;have:=HK4.out;omega
              case rel=>exact⟨(x0_4),(x3_2),(IntKind.u64.wrap (x4_5+1)),a8,a8,H',⟨by have:=HJ1.out;have:=HK2.out;have:=HJ5.out;have:=HK4.out;omega⟩,⟨bK HO_3.out⟩,⟨ak⟩⟩
      ·rw[if_neg c5] at H
       have c5b0:=decide_eq_false c5
       clear c5
       obtain rfl:=Option.some.inj H
       go_wp2
       go_ret
       exact⟨_,a8,bK HO_3.out,ak⟩
def fj.f(k:Nat)(a0:Int):Option (Bool):=(av.f k a0).bind fun t104=>(if(t104.length:Int)=1 then(if 0<(t104.length:Int) then(some (((bg t104 0).f1)==1)) else(none)) else(some false))
set_option maxHeartbeats 8000000 in
set_option maxRecDepth 100000 in
theorem fj.calls(k:Nat)(a0:Int)(r:Bool)(w:World)(h:fj.f k a0=some r):
  Calls Tryz.prog 142 #[.int .u64 a0] w fun e w'=>e= .returned (.bool r)∧Below w.heap.size w w':=by
 have HB:=aa.mk (Below.refl w.heap.size w)
 have H:=h;unfold fj.f at H
 clear h
 replace H:=Option.bind_eq_some_iff.mp H
 obtain⟨t104,A20,H⟩:=H
 (try dsimp only at H)
 have A2:=aa.mk A20
 clear A20
 by_cases c3:(t104.length:Int)=1
 ·rw[if_pos c3] at H
  have c3b0:=beq_iff_eq.mpr c3
  have c3b1:=bne_eq_false_iff_eq.mpr c3
  clear c3
  by_cases c4:0<(t104.length:Int)
  ·rw[if_pos c4] at H
   have c4b0:=decide_eq_true c4
   have c4b1:decide (0<t104.length)=true:=decide_eq_true (by omega)
   clear c4
   obtain rfl:=Option.some.inj H
   go_enter Tryz.func142,Tryz.ntmps142
   go_wp2_with (first|(refine fh 5 Tryz.func143 #[.int .u64 a0] rfl ?_;(with_reducible refine(av.calls k a0 t104 _ A2.out).mono ?_);rintro e w5 ⟨v105,rfl,ho0,hb⟩;refine⟨_,rfl,?_⟩;have n0_:=aa.mk (Kd.bN ho0 (ai ak));have n1_:=aa.mk (ah ak hb);clear HB;have HO106:=n0_;have HB:=n1_;clear n0_ n1_;(try clear ho0);obtain⟨Ao6,co6,eo6⟩:=Kd.cb HO106.out;subst eo6;have p107:0≤(0:Int):=(by omega);have q107:0<(t104.length:Int):=of_decide_eq_true (by assumption);obtain⟨ad107,e107,hx107_0,hx107_1⟩:=iz (Kd.aT HO106.out).2.2 0 p107 q107;cases e107;have qi107:(0<t104.length)=True:=eq_true (by omega);(try rw[show((0:Int)).toNat=0 from rfl] at hx107_0);(try rw[show 0*2=0 from rfl] at hx107_0);(try rw[Addr.add_zero'] at hx107_0);(try rw[show((0:Int)).toNat=0 from rfl] at hx107_1);(try rw[show 0*2=0 from rfl] at hx107_1);(try rw[Addr.add_zero'] at hx107_1);replace p107:=eq_true p107;replace q107:=eq_true q107))
   go_ret
   exact⟨a8,ak⟩
  ·rw[if_neg c4] at H
   exact absurd H (by simp)
 ·rw[if_neg c3] at H
  have c3b0:=beq_eq_false_iff_ne.mpr c3
  have c3b1:=bne_iff_ne.mpr c3
  obtain rfl:=Option.some.inj H
  go_enter Tryz.func142,Tryz.ntmps142
  go_wp2_with (first|(refine fh 5 Tryz.func143 #[.int .u64 a0] rfl ?_;(with_reducible refine(av.calls k a0 t104 _ A2.out).mono ?_);rintro e w7 ⟨v105,rfl,ho0,hb⟩;refine⟨_,rfl,?_⟩;have n0_:=aa.mk (Kd.bN ho0 (ai ak));have n1_:=aa.mk (ah ak hb);clear HB;have HO106:=n0_;have HB:=n1_;clear n0_ n1_;(try clear ho0);obtain⟨Ao8,co8,eo8⟩:=Kd.cb HO106.out;subst eo8))
  go_ret
  exact⟨a8,ak⟩
def ep.f(k:Nat)(a0:Int):Option (Bool):=if a0>2 then(if a0≤65536 then((fj.f k a0).bind fun t108=>(some t108)) else(some false)) else(some false)
set_option maxHeartbeats 8000000 in
set_option maxRecDepth 100000 in
theorem ep.calls(k:Nat)(a0:Int)(r:Bool)(w:World)(h:ep.f k a0=some r):
  Calls Tryz.prog 116 #[.int .u64 a0] w fun e w'=>e= .returned (.bool r)∧Below w.heap.size w w':=by
 have HB:=aa.mk (Below.refl w.heap.size w)
 have H:=h;unfold ep.f at H
 clear h
 by_cases c2:a0>2
 ·rw[if_pos c2] at H
  have c2b0:=decide_eq_true c2
  clear c2
  by_cases c3:a0≤65536
  ·rw[if_pos c3] at H
   have c3b0:=decide_eq_true c3
   clear c3
   replace H:=Option.bind_eq_some_iff.mp H
   obtain⟨t108,A40,H⟩:=H
   (try dsimp only at H)
   have A4:=aa.mk A40
   clear A40
   obtain rfl:=Option.some.inj H
   go_enter Tryz.func116,Tryz.ntmps116
   go_wp2_with (first|(go_at_call 142;(with_reducible refine(fj.calls k a0 t108 _ A4.out).mono ?_);rintro e w5 ⟨rfl,hb⟩;have n0_:=aa.mk (ah ak hb);clear HB;have HB:=n0_;clear n0_))
   go_ret
   exact⟨a8,ak⟩
  ·rw[if_neg c3] at H
   have c3b0:=decide_eq_false c3
   clear c3
   obtain rfl:=Option.some.inj H
   go_enter Tryz.func116,Tryz.ntmps116
   go_wp2
   go_ret
   exact⟨a8,ak⟩
 ·rw[if_neg c2] at H
  have c2b0:=decide_eq_false c2
  clear c2
  obtain rfl:=Option.some.inj H
  go_enter Tryz.func116,Tryz.ntmps116
  go_wp2
  go_ret
  exact⟨a8,ak⟩
end Go.Proofs.YtndkmnjbjlfeaaaGreat.XS
end
section
namespace Go.Proofs.YtndkmnjbjlfeaaaGreat.XS
open Go.RowKit Go.Proofs.YtndkmnjbjlfeaaaGreat.Given Go.Proofs.YtndkmnjbjlfeaaaGreatW.PrintWords Go.Proofs.YtndkmnjbjlfeaaaGreatW.PrintLast Go.Proofs.YtndkmnjbjlfeaaaGreatW.PrintMore
attribute [local go_sem] bU bS ct cr bw bz bP bT
set_option linter.unusedVariables false
set_option linter.unusedSimpArgs false
mutual
def aC.j2:Nat→Int→Int→Int→Int→Int→Int→Int→Int→Option (Int×Int)
 |0,_,_,_,_,_,_,_,_=>none
 |k+1,x2,x8,x9,x10,x11,x13,x14,x15=>if x9=0 then(none) else(aC.l1 k x2 x8 x9 x10 x14 x15 (IntKind.u64.wrap ((IntKind.u64.wrap ((IntKind.u64.wrap ((IntKind.u64.wrap (x11*4294967296))+x13))-(IntKind.u64.wrap (x15*x2))))-(IntKind.u64.wrap ((IntKind.u64.wrap (Int.tdiv (IntKind.u64.wrap ((IntKind.u64.wrap ((IntKind.u64.wrap (x11*4294967296))+x13))-(IntKind.u64.wrap (x15*x2)))) x9))*x9)))) (IntKind.u64.wrap ((IntKind.u64.wrap ((IntKind.u64.wrap (x11*4294967296))+x13))-(IntKind.u64.wrap (x15*x2)))) (IntKind.u64.wrap (Int.tdiv (IntKind.u64.wrap ((IntKind.u64.wrap ((IntKind.u64.wrap (x11*4294967296))+x13))-(IntKind.u64.wrap (x15*x2)))) x9)))
def aC.l1:Nat→Int→Int→Int→Int→Int→Int→Int→Int→Int→Option (Int×Int)
 |0,_,_,_,_,_,_,_,_,_=>none
 |k+1,x2,x8,x9,x10,x14,x15,x16,x17,x18=>if x18≥4294967296 then(aC.j4 k x2 x8 x9 x10 x14 x15 x16 x17 x18 true) else(aC.j4 k x2 x8 x9 x10 x14 x15 x16 x17 x18 (decide ((IntKind.u64.wrap (x18*x10))>(IntKind.u64.wrap ((IntKind.u64.wrap (4294967296*x16))+x14)))))
def aC.j4:Nat→Int→Int→Int→Int→Int→Int→Int→Int→Int→Bool→Option (Int×Int)
 |0,_,_,_,_,_,_,_,_,_,_=>none
 |k+1,x2,x8,x9,x10,x14,x15,x16,x17,x18,x113=>if x113=true then(if(IntKind.u64.wrap (x16+x9))≥4294967296 then(if 0≤x8 then(some (IntKind.u64.wrap ((IntKind.u64.wrap (x15*4294967296))+(IntKind.u64.wrap (x18-1))),shr .u64 (IntKind.u64.wrap ((IntKind.u64.wrap ((IntKind.u64.wrap (x17*4294967296))+x14))-(IntKind.u64.wrap ((IntKind.u64.wrap (x18-1))*x2)))) x8)) else(none)) else(aC.l1 k x2 x8 x9 x10 x14 x15 (IntKind.u64.wrap (x16+x9)) x17 (IntKind.u64.wrap (x18-1)))) else(if 0≤x8 then(some (IntKind.u64.wrap ((IntKind.u64.wrap (x15*4294967296))+x18),shr .u64 (IntKind.u64.wrap ((IntKind.u64.wrap ((IntKind.u64.wrap (x17*4294967296))+x14))-(IntKind.u64.wrap (x18*x2)))) x8)) else(none))
def aC.l0:Nat→Int→Int→Int→Int→Int→Int→Int→Int→Int→Option (Int×Int)
 |0,_,_,_,_,_,_,_,_,_=>none
 |k+1,x2,x8,x9,x10,x11,x13,x14,x15,x16=>if x15≥4294967296 then(aC.j1 k x2 x8 x9 x10 x11 x13 x14 x15 x16 true) else(aC.j1 k x2 x8 x9 x10 x11 x13 x14 x15 x16 (decide ((IntKind.u64.wrap (x15*x10))>(IntKind.u64.wrap ((IntKind.u64.wrap (4294967296*x16))+x13)))))
def aC.j1:Nat→Int→Int→Int→Int→Int→Int→Int→Int→Int→Bool→Option (Int×Int)
 |0,_,_,_,_,_,_,_,_,_,_=>none
 |k+1,x2,x8,x9,x10,x11,x13,x14,x15,x16,x78=>if x78=true then(if(IntKind.u64.wrap (x16+x9))≥4294967296 then(aC.j2 k x2 x8 x9 x10 x11 x13 x14 (IntKind.u64.wrap (x15-1))) else(aC.l0 k x2 x8 x9 x10 x11 x13 x14 (IntKind.u64.wrap (x15-1)) (IntKind.u64.wrap (x16+x9)))) else(aC.j2 k x2 x8 x9 x10 x11 x13 x14 x15)
end
def aC.f(k:Nat)(a0:Int)(a1:Int)(a2:Int):Option (Int×Int):=if a2=0 then(none) else(if a2≤a0 then(none) else(if a0=0 then(some (IntKind.u64.wrap (Int.tdiv a1 a2),Int.tmod a1 a2)) else((bits_LeadingZeros64.f a2).bind fun t109=>(if 0≤(IntKind.u64.wrap (t109)) then(if 0≤(IntKind.u64.wrap (64-(IntKind.u64.wrap (t109)))) then(if((shl .u64 a2 (IntKind.u64.wrap (t109)))/4294967296)=0 then(none) else(aC.l0 k (shl .u64 a2 (IntKind.u64.wrap (t109))) (IntKind.u64.wrap (t109)) ((shl .u64 a2 (IntKind.u64.wrap (t109)))/4294967296) (Go.bits .and .u64 (shl .u64 a2 (IntKind.u64.wrap (t109))) 4294967295) (Go.bits .or .u64 (shl .u64 a0 (IntKind.u64.wrap (t109))) (shr .u64 a1 (IntKind.u64.wrap (64-(IntKind.u64.wrap (t109)))))) ((shl .u64 a1 (IntKind.u64.wrap (t109)))/4294967296) (Go.bits .and .u64 (shl .u64 a1 (IntKind.u64.wrap (t109))) 4294967295) (IntKind.u64.wrap (Int.tdiv (Go.bits .or .u64 (shl .u64 a0 (IntKind.u64.wrap (t109))) (shr .u64 a1 (IntKind.u64.wrap (64-(IntKind.u64.wrap (t109)))))) ((shl .u64 a2 (IntKind.u64.wrap (t109)))/4294967296))) (IntKind.u64.wrap ((Go.bits .or .u64 (shl .u64 a0 (IntKind.u64.wrap (t109))) (shr .u64 a1 (IntKind.u64.wrap (64-(IntKind.u64.wrap (t109))))))-(IntKind.u64.wrap ((IntKind.u64.wrap (Int.tdiv (Go.bits .or .u64 (shl .u64 a0 (IntKind.u64.wrap (t109))) (shr .u64 a1 (IntKind.u64.wrap (64-(IntKind.u64.wrap (t109)))))) ((shl .u64 a2 (IntKind.u64.wrap (t109)))/4294967296)))*((shl .u64 a2 (IntKind.u64.wrap (t109)))/4294967296))))))) else(none)) else(none)))))
set_option maxHeartbeats 8000000 in
set_option maxRecDepth 100000 in
theorem aC.calls(k:Nat)(a0:Int)(a1:Int)(a2:Int)(r1:Int)(r2:Int)(w:World)(h:aC.f k a0 a1 a2=some (r1,r2)):
  Calls Tryz.prog 152 #[.int .u64 a0, .int .u64 a1, .int .u64 a2] w fun e w'=>e= .returned (.tuple #[.int .u64 r1, .int .u64 r2])∧au w w':=by
 have H:=h;unfold aC.f at H
 clear h
 by_cases c4:a2=0
 ·rw[if_pos c4] at H
  exact absurd H (by simp)
 ·rw[if_neg c4] at H
  have c4b0:=beq_eq_false_iff_ne.mpr c4
  have c4b1:=bne_iff_ne.mpr c4
  by_cases c5:a2≤a0
  ·rw[if_pos c5] at H
   exact absurd H (by simp)
  ·rw[if_neg c5] at H
   have c5b0:=decide_eq_false c5
   clear c5
   by_cases c6:a0=0
   ·rw[if_pos c6] at H
    have c6b0:=beq_iff_eq.mpr c6
    have c6b1:=bne_eq_false_iff_eq.mpr c6
    clear c6
    simp only[Option.some.injEq,Prod.mk.injEq] at H
    obtain⟨rfl,rfl⟩:=H
    go_enter Tryz.func152,Tryz.ntmps152
    go_wp2
    repeat(go_quiet (fail);try go_wp2)
    go_ret2
    exact⟨a8,dk⟩
   ·rw[if_neg c6] at H
    have c6b0:=beq_eq_false_iff_ne.mpr c6
    have c6b1:=bne_iff_ne.mpr c6
    replace H:=Option.bind_eq_some_iff.mp H
    obtain⟨t109,A70,H⟩:=H
    (try dsimp only at H)
    have A7:=aa.mk A70
    clear A70
    obtain⟨ji8,hji8⟩: ∃j_:Int,(IntKind.u64.wrap (t109))=j_:=⟨_,rfl⟩
    (first|rw[hji8] at H|simp only[hji8] at H)
    (try rw[hji8] at A7)
    by_cases c9:0≤(ji8)
    ·rw[if_pos c9] at H
     have c9b0:=eq_true c9
     have c9b1:=decide_eq_true c9
     clear c9
     obtain⟨ji10,hji10⟩: ∃j_:Int,(shl .u64 a2 (ji8))=j_:=⟨_,rfl⟩
     (first|rw[hji10] at H|simp only[hji10] at H)
     (try rw[hji10] at A7)
     have hji10_:(IntKind.u64.wrap (a2*2^min (ji8).toNat 64))=ji10:=hji10
     have hji10z:(ji8)≤64→(IntKind.u64.wrap (a2*2^(ji8).toNat))=ji10:=lF hji10
     have c11b0:=eq_true (of_decide_eq_true (by assumption):0≤(ji8))
     obtain⟨ji12,hji12⟩: ∃j_:Int,(shl .u64 a0 (ji8))=j_:=⟨_,rfl⟩
     (first|rw[hji12] at H|simp only[hji12] at H)
     (try rw[hji12] at A7)
     have hji12_:(IntKind.u64.wrap (a0*2^min (ji8).toNat 64))=ji12:=hji12
     have hji12z:(ji8)≤64→(IntKind.u64.wrap (a0*2^(ji8).toNat))=ji12:=lF hji12
     obtain⟨ji13,hji13⟩: ∃j_:Int,(IntKind.u64.wrap (64-(ji8)))=j_:=⟨_,rfl⟩
     (first|rw[hji13] at H|simp only[hji13] at H)
     (try rw[hji13] at A7)
     by_cases fa:0≤(ji13)
     ·rw[if_pos fa] at H
      have c14b0:=eq_true fa
      have c14b1:=decide_eq_true fa
      clear fa
      obtain⟨ji15,hji15⟩: ∃j_:Int,(shr .u64 a1 (ji13))=j_:=⟨_,rfl⟩
      (first|rw[hji15] at H|simp only[hji15] at H)
      (try rw[hji15] at A7)
      have hji15_:(a1/2^min (ji13).toNat 64)=ji15:=hji15
      have hji15z:(ji13)≤64→(a1/2^(ji13).toNat)=ji15:=lC hji15
      have c16b0:=eq_true (of_decide_eq_true (by assumption):0≤(ji8))
      obtain⟨ji17,hji17⟩: ∃j_:Int,(shl .u64 a1 (ji8))=j_:=⟨_,rfl⟩
      (first|rw[hji17] at H|simp only[hji17] at H)
      (try rw[hji17] at A7)
      have hji17_:(IntKind.u64.wrap (a1*2^min (ji8).toNat 64))=ji17:=hji17
      have hji17z:(ji8)≤64→(IntKind.u64.wrap (a1*2^(ji8).toNat))=ji17:=lF hji17
      by_cases ji:((ji10)/4294967296)=0
      ·rw[if_pos ji] at H
       exact absurd H (by simp)
      ·rw[if_neg ji] at H
       have c18b0:=beq_eq_false_iff_ne.mpr ji
       have c18b1:=bne_iff_ne.mpr ji
       have HC19:=aa.mk H
       clear H
       go_enter Tryz.func152,Tryz.ntmps152
       go_upto_block 0 with(first|(go_at_call 167;(with_reducible refine(bits_LeadingZeros64.calls a2 t109 _ A7.out).mono ?_);rintro e w' ⟨rfl,⟨nd,rfl⟩⟩;(try first|exact⟨rfl,_,World.drewN_drewN _ _ _⟩|exact⟨rfl,_,Eq.trans (World.drewN_drewN _ _ _) (congrArg (World.drewN _) (Nat.add_assoc _ _ _))⟩)))
       (try simp only[Act.put,List.setIfInBounds_toArray,List.set_cons_zero,List.set_cons_succ])
       (try simp only[hji8,hji10,hji12,hji13,hji15,hji17])
       go_cut [15] (fun v15 wc=> ∃(kq:Nat) (x15_18:Int),v15= .int .u64 x15_18∧aa (aC.j2 kq ji10 ji8 ((ji10)/4294967296) (Go.bits .and .u64 (ji10) 4294967295) (Go.bits .or .u64 (ji12) (ji15)) ((ji17)/4294967296) (Go.bits .and .u64 (ji17) 4294967295) x15_18=some (r1,r2))∧aa (kq≤k)∧au w wc)
       case first=>
        have H:=HC19.out
        clear HC19
        have H':=aa.mk H
        clear H
        go_wp2
        (try simp only[hji8,hji10,hji12,hji13,hji15,hji17])
        go_loopg [15,16] k (fun kq v15 v16 w'=> ∃(x15_1:Int) (x16_1:Int),v15= .int .u64 x15_1∧v16= .int .u64 x16_1∧aa (aC.l0 kq ji10 ji8 ((ji10)/4294967296) (Go.bits .and .u64 (ji10) 4294967295) (Go.bits .or .u64 (ji12) (ji15)) ((ji17)/4294967296) (Go.bits .and .u64 (ji17) 4294967295) x15_1 x16_1=some (r1,r2))∧aa (kq≤k)∧au w w')
        case atStart=>exact⟨(IntKind.u64.wrap (Int.tdiv (Go.bits .or .u64 (ji12) (ji15)) ((ji10)/4294967296))),(IntKind.u64.wrap ((Go.bits .or .u64 (ji12) (ji15))-(IntKind.u64.wrap ((IntKind.u64.wrap (Int.tdiv (Go.bits .or .u64 (ji12) (ji15)) ((ji10)/4294967296)))*((ji10)/4294967296))))),(by first|rfl|(simp;done)|(simp only[←hji10,←hji12,←hji15]<;>(first|rfl|simp))|(simp[*];done)),(by first|rfl|(simp;done)|(simp only[←hji10,←hji12,←hji15]<;>(first|rfl|simp))|(simp[*];done)),H',⟨Nat.le_refl _⟩,dk⟩
        case round=>
         clear H'
         obtain⟨x15_1,x16_1,rfl,rfl,HA,HK1,⟨m1,rfl⟩⟩:=hrel
         cases gk with
         |zero=>exact absurd HA.out (by simp[aC.l0])
         |succ k1=>
          have H:=HA.out
          clear HA
          simp only[aC.l0] at H
          have HC20:=aa.mk H
          clear H
          go_upto_region 17 with(fail)
          (try simp only[hji8,hji10,hji12,hji13,hji15,hji17])
          go_cut [78] (fun v78 wc=> ∃(kq:Nat) (x78_19:Bool),v78= .bool x78_19∧aa (aC.j1 kq ji10 ji8 ((ji10)/4294967296) (Go.bits .and .u64 (ji10) 4294967295) (Go.bits .or .u64 (ji12) (ji15)) ((ji17)/4294967296) (Go.bits .and .u64 (ji17) 4294967295) x15_1 x16_1 x78_19=some (r1,r2))∧aa (kq≤k1)∧au w wc)
          case first=>
           have H:=HC20.out
           clear HC20
           by_cases mq:x15_1≥4294967296
           ·rw[if_pos mq] at H
            have c21b0:=decide_eq_true mq
            clear mq
            (first|rw[c21b0]|(simp only[bp,bQ];rw[c21b0])|skip)
            have H':=aa.mk H
            clear H
            go_wp2
            go_meet
            case rel=>exact⟨_,(true),a8,H',⟨by have:=HK1.out;first|omega|exact Nat.le_refl _⟩,dk⟩
           ·rw[if_neg mq] at H
            have c21b0:=decide_eq_false mq
            clear mq
            (first|rw[c21b0]|(simp only[bp,bQ];rw[c21b0])|skip)
            have H':=aa.mk H
            clear H
            go_wp2
            go_meet
            case rel=>exact⟨_,(decide ((IntKind.u64.wrap (x15_1*(Go.bits .and .u64 (ji10) 4294967295)))>(IntKind.u64.wrap ((IntKind.u64.wrap (4294967296*x16_1))+((ji17)/4294967296))))),(by first|rfl|(simp;done)|(simp only[←hji10,←hji17]<;>(first|rfl|simp))|(simp[*];done)),H',⟨by have:=HK1.out;first|omega|exact Nat.le_refl _⟩,dk⟩
          case rest=>
           clear HC20
           obtain⟨kq,x78_19,rfl,HA,HJ19,⟨mc19,rfl⟩⟩:=hcut
           cases kq with
           |zero=>exact absurd HA.out (by simp[aC.j1])
           |succ kj19=>
            have H:=HA.out
            clear HA
            simp only[aC.j1] at H
            by_cases mA:x78_19=true
            ·subst mA
             have H1:=H;rw[if_pos rfl] at H1
             clear H
             have H:=H1
             clear H1
             by_cases jn:(IntKind.u64.wrap (x16_1+((ji10)/4294967296)))≥4294967296
             ·rw[if_pos jn] at H
              have c23b0:=decide_eq_true jn
              clear jn
              have H':=aa.mk H
              clear H
              go_wp2
              go_meet
              case rel=>exact⟨_,(IntKind.u64.wrap (x15_1-1)),a8,H',⟨by have:=HK1.out;have:=HJ19.out;first|omega|exact Nat.le_refl _⟩,dk⟩
             ·rw[if_neg jn] at H
              have c23b0:=decide_eq_false jn
              clear jn
              have H':=aa.mk H
              clear H
              go_wp2
              go_roundg kj19
              case measure=>have:=HK1.out;have:=HJ19.out;omega
              case rel=>exact⟨(IntKind.u64.wrap (x15_1-1)),(IntKind.u64.wrap (x16_1+((ji10)/4294967296))),a8,(by first|rfl|(simp;done)|(simp only[←hji10]<;>(first|rfl|simp))|(simp[*];done)),H',⟨by have:=HK1.out;have:=HJ19.out;omega⟩,dk⟩
            ·replace mA:=Bool.eq_false_iff.mpr mA
             subst mA
             have H1:=H;rw[if_neg (show¬(false=true) by decide)] at H1
             clear H
             have H:=H1
             clear H1
             have H':=aa.mk H
             clear H
             go_wp2
             go_meet
             case rel=>exact⟨_,(x15_1),a8,H',⟨by have:=HK1.out;have:=HJ19.out;first|omega|exact Nat.le_refl _⟩,dk⟩
       case rest=>
        clear HC19
        obtain⟨kq,x15_18,rfl,HA,HJ18,⟨mc18,rfl⟩⟩:=hcut
        cases kq with
        |zero=>exact absurd HA.out (by simp[aC.j2])
        |succ kj18=>
         have H:=HA.out
         clear HA
         simp only[aC.j2] at H
         by_cases mC:((ji10)/4294967296)=0
         ·rw[if_pos mC] at H
          exact absurd H (by simp)
         ·rw[if_neg mC] at H
          have c24b0:=beq_eq_false_iff_ne.mpr mC
          have c24b1:=bne_iff_ne.mpr mC
          have H':=aa.mk H
          clear H
          go_wp2
          (try simp only[hji8,hji10,hji12,hji13,hji15,hji17])
          go_loopg [16,18] kj18 (fun kq v16 v18 w'=> ∃(x16_2:Int) (x18_2:Int),v16= .int .u64 x16_2∧v18= .int .u64 x18_2∧aa (aC.l1 kq ji10 ji8 ((ji10)/4294967296) (Go.bits .and .u64 (ji10) 4294967295) (Go.bits .and .u64 (ji17) 4294967295) x15_18 x16_2 (IntKind.u64.wrap ((IntKind.u64.wrap ((IntKind.u64.wrap ((Go.bits .or .u64 (ji12) (ji15))*4294967296))+((ji17)/4294967296)))-(IntKind.u64.wrap (x15_18*ji10)))) x18_2=some (r1,r2))∧aa (kq≤kj18)∧au w w')
          case atStart=>exact⟨(IntKind.u64.wrap ((IntKind.u64.wrap ((IntKind.u64.wrap ((IntKind.u64.wrap ((Go.bits .or .u64 (ji12) (ji15))*4294967296))+((ji17)/4294967296)))-(IntKind.u64.wrap (x15_18*ji10))))-(IntKind.u64.wrap ((IntKind.u64.wrap (Int.tdiv (IntKind.u64.wrap ((IntKind.u64.wrap ((IntKind.u64.wrap ((Go.bits .or .u64 (ji12) (ji15))*4294967296))+((ji17)/4294967296)))-(IntKind.u64.wrap (x15_18*ji10)))) ((ji10)/4294967296)))*((ji10)/4294967296))))),(IntKind.u64.wrap (Int.tdiv (IntKind.u64.wrap ((IntKind.u64.wrap ((IntKind.u64.wrap ((Go.bits .or .u64 (ji12) (ji15))*4294967296))+((ji17)/4294967296)))-(IntKind.u64.wrap (x15_18*ji10)))) ((ji10)/4294967296))),(by first|rfl|(simp;done)|(simp only[←hji10,←hji12,←hji15,←hji17]<;>(first|rfl|simp))|(simp[*];done)),(by first|rfl|(simp;done)|(simp only[←hji10,←hji12,←hji15,←hji17]<;>(first|rfl|simp))|(simp[*];done)),H',⟨Nat.le_refl _⟩,dk⟩
          case round=>
           clear H'
           obtain⟨x16_2,x18_2,rfl,rfl,HA,HK2,⟨m2,rfl⟩⟩:=hrel
           cases gk with
           |zero=>exact absurd HA.out (by simp[aC.l1])
           |succ k2=>
            have H:=HA.out
            clear HA
            simp only[aC.l1] at H
            have HC25:=aa.mk H
            clear H
            go_upto_region 24 with(fail)
            (try simp only[hji8,hji10,hji12,hji13,hji15,hji17])
            go_cut [113] (fun v113 wc=> ∃(kq:Nat) (x113_24:Bool),v113= .bool x113_24∧aa (aC.j4 kq ji10 ji8 ((ji10)/4294967296) (Go.bits .and .u64 (ji10) 4294967295) (Go.bits .and .u64 (ji17) 4294967295) x15_18 x16_2 (IntKind.u64.wrap ((IntKind.u64.wrap ((IntKind.u64.wrap ((Go.bits .or .u64 (ji12) (ji15))*4294967296))+((ji17)/4294967296)))-(IntKind.u64.wrap (x15_18*ji10)))) x18_2 x113_24=some (r1,r2))∧aa (kq≤k2)∧au w wc)
            case first=>
             have H:=HC25.out
             clear HC25
             by_cases ou:x18_2≥4294967296
             ·rw[if_pos ou] at H
              have c26b0:=decide_eq_true ou
              clear ou
              (first|rw[c26b0]|(simp only[bp,bQ];rw[c26b0])|skip)
              have H':=aa.mk H
              clear H
              go_wp2
              go_meet
              case rel=>exact⟨_,(true),a8,H',⟨by have:=HJ18.out;have:=HK2.out;first|omega|exact Nat.le_refl _⟩,dk⟩
             ·rw[if_neg ou] at H
              have c26b0:=decide_eq_false ou
              clear ou
              (first|rw[c26b0]|(simp only[bp,bQ];rw[c26b0])|skip)
              have H':=aa.mk H
              clear H
              go_wp2
              go_meet
              case rel=>exact⟨_,(decide ((IntKind.u64.wrap (x18_2*(Go.bits .and .u64 (ji10) 4294967295)))>(IntKind.u64.wrap ((IntKind.u64.wrap (4294967296*x16_2))+(Go.bits .and .u64 (ji17) 4294967295))))),(by first|rfl|(simp;done)|(simp only[←hji10,←hji17]<;>(first|rfl|simp))|(simp[*];done)),H',⟨by have:=HJ18.out;have:=HK2.out;first|omega|exact Nat.le_refl _⟩,dk⟩
            case rest=>
             clear HC25
             obtain⟨kq,x113_24,rfl,HA,HJ24,⟨mc24,rfl⟩⟩:=hcut
             cases kq with
             |zero=>exact absurd HA.out (by simp[aC.j4])
             |succ kj24=>
              have H:=HA.out
              clear HA
              simp only[aC.j4] at H
              by_cases ke:x113_24=true
              ·subst ke
               have H1:=H;rw[if_pos rfl] at H1
               clear H
               have H:=H1
               clear H1
               by_cases tr:(IntKind.u64.wrap (x16_2+((ji10)/4294967296)))≥4294967296
               ·rw[if_pos tr] at H
                have c28b0:=decide_eq_true tr
                clear tr
                by_cases mo:0≤ji8
                ·rw[if_pos mo] at H
                 have c29b0:=eq_true mo
                 have c29b1:=decide_eq_true mo
                 clear mo
                 obtain⟨ji30,hji30⟩: ∃j_:Int,(shr .u64 (IntKind.u64.wrap ((IntKind.u64.wrap ((IntKind.u64.wrap ((IntKind.u64.wrap ((IntKind.u64.wrap ((IntKind.u64.wrap ((Go.bits .or .u64 (ji12) (ji15))*4294967296))+((ji17)/4294967296)))-(IntKind.u64.wrap (x15_18*ji10))))*4294967296))+(Go.bits .and .u64 (ji17) 4294967295)))-(IntKind.u64.wrap ((IntKind.u64.wrap (x18_2-1))*ji10)))) ji8)=j_:=⟨_,rfl⟩
                 (first|rw[hji30] at H|simp only[hji30] at H)
                 have hji30_:((IntKind.u64.wrap ((IntKind.u64.wrap ((IntKind.u64.wrap ((IntKind.u64.wrap ((IntKind.u64.wrap ((IntKind.u64.wrap ((Go.bits .or .u64 (ji12) (ji15))*4294967296))+((ji17)/4294967296)))-(IntKind.u64.wrap (x15_18*ji10))))*4294967296))+(Go.bits .and .u64 (ji17) 4294967295)))-(IntKind.u64.wrap ((IntKind.u64.wrap (x18_2-1))*ji10))))/2^min ji8.toNat 64)=ji30:=hji30
                 have hji30z:ji8≤64→((IntKind.u64.wrap ((IntKind.u64.wrap ((IntKind.u64.wrap ((IntKind.u64.wrap ((IntKind.u64.wrap ((IntKind.u64.wrap ((Go.bits .or .u64 (ji12) (ji15))*4294967296))+((ji17)/4294967296)))-(IntKind.u64.wrap (x15_18*ji10))))*4294967296))+(Go.bits .and .u64 (ji17) 4294967295)))-(IntKind.u64.wrap ((IntKind.u64.wrap (x18_2-1))*ji10))))/2^ji8.toNat)=ji30:=lC hji30
                 simp only[Option.some.injEq,Prod.mk.injEq] at H
                 obtain⟨rfl,rfl⟩:=H
                 go_wp2
                 go_ret2
                 exact⟨by first|rfl|(simp;done)|(simp only[←hji8,←hji10,←hji12,←hji13,←hji15,←hji17,←hji30]<;>(first|rfl|simp))|(simp[*];done),dk⟩
                ·rw[if_neg mo] at H
                 exact absurd H (by simp)
               ·rw[if_neg tr] at H
                have c28b0:=decide_eq_false tr
                clear tr
                have H':=aa.mk H
                clear H
                go_wp2
                go_roundg kj24
                case measure=>have:=HJ18.out;have:=HK2.out;have:=HJ24.out;omega
                case rel=>exact⟨(IntKind.u64.wrap (x16_2+((ji10)/4294967296))),(IntKind.u64.wrap (x18_2-1)),(by first|rfl|(simp;done)|(simp only[←hji10]<;>(first|rfl|simp))|(simp[*];done)),a8,H',⟨by have:=HJ18.out;have:=HK2.out;have:=HJ24.out;omega⟩,dk⟩
              ·replace ke:=Bool.eq_false_iff.mpr ke
               subst ke
               have H1:=H;rw[if_neg (show¬(false=true) by decide)] at H1
               clear H
               have H:=H1
               clear H1
               by_cases kv:0≤ji8
               ·rw[if_pos kv] at H
                have c31b0:=eq_true kv
                have c31b1:=decide_eq_true kv
                clear kv
                obtain⟨ji32,hji32⟩: ∃j_:Int,(shr .u64 (IntKind.u64.wrap ((IntKind.u64.wrap ((IntKind.u64.wrap ((IntKind.u64.wrap ((IntKind.u64.wrap ((IntKind.u64.wrap ((Go.bits .or .u64 (ji12) (ji15))*4294967296))+((ji17)/4294967296)))-(IntKind.u64.wrap (x15_18*ji10))))*4294967296))+(Go.bits .and .u64 (ji17) 4294967295)))-(IntKind.u64.wrap (x18_2*ji10)))) ji8)=j_:=⟨_,rfl⟩
                (first|rw[hji32] at H|simp only[hji32] at H)
                have hji32_:((IntKind.u64.wrap ((IntKind.u64.wrap ((IntKind.u64.wrap ((IntKind.u64.wrap ((IntKind.u64.wrap ((IntKind.u64.wrap ((Go.bits .or .u64 (ji12) (ji15))*4294967296))+((ji17)/4294967296)))-(IntKind.u64.wrap (x15_18*ji10))))*4294967296))+(Go.bits .and .u64 (ji17) 4294967295)))-(IntKind.u64.wrap (x18_2*ji10))))/2^min ji8.toNat 64)=ji32:=hji32
                have hji32z:ji8≤64→((IntKind.u64.wrap ((IntKind.u64.wrap ((IntKind.u64.wrap ((IntKind.u64.wrap ((IntKind.u64.wrap ((IntKind.u64.wrap ((Go.bits .or .u64 (ji12) (ji15))*4294967296))+((ji17)/4294967296)))-(IntKind.u64.wrap (x15_18*ji10))))*4294967296))+(Go.bits .and .u64 (ji17) 4294967295)))-(IntKind.u64.wrap (x18_2*ji10))))/2^ji8.toNat)=ji32:=lC hji32
                simp only[Option.some.injEq,Prod.mk.injEq] at H
                obtain⟨rfl,rfl⟩:=H
                go_wp2
                go_ret2
                exact⟨by first|rfl|(simp;done)|(simp only[←hji8,←hji10,←hji12,←hji13,←hji15,←hji17,←hji32]<;>(first|rfl|simp))|(simp[*];done),dk⟩
               ·rw[if_neg kv] at H
                exact absurd H (by simp)
     ·rw[if_neg fa] at H
      exact absurd H (by simp)
    ·rw[if_neg c9] at H
     exact absurd H (by simp)
def dD.f(k:Nat)(a0:Int)(a1:Int)(a2:Int):Option (Int):=if a2=0 then(none) else((aC.f k (Int.tmod a0 a2) a1 a2).bind fun bt110=>(some bt110.2))
set_option maxHeartbeats 8000000 in
set_option maxRecDepth 100000 in
theorem dD.calls(k:Nat)(a0:Int)(a1:Int)(a2:Int)(r:Int)(w:World)(h:dD.f k a0 a1 a2=some r):
  Calls Tryz.prog 126 #[.int .u64 a0, .int .u64 a1, .int .u64 a2] w fun e w'=>e= .returned (.int .u64 r)∧au w w':=by
 have H:=h;unfold dD.f at H
 clear h
 by_cases c4:a2=0
 ·rw[if_pos c4] at H
  exact absurd H (by simp)
 ·rw[if_neg c4] at H
  have c4b0:=beq_eq_false_iff_ne.mpr c4
  have c4b1:=bne_iff_ne.mpr c4
  replace H:=Option.bind_eq_some_iff.mp H
  obtain⟨⟨t110,t111⟩,A50,H⟩:=H
  (try dsimp only at H)
  have A5:=aa.mk A50
  clear A50
  obtain rfl:=Option.some.inj H
  go_enter Tryz.func126,Tryz.ntmps126
  go_wp2_with (first|(refine fh 15 Tryz.func152 #[.int .u64 (Int.tmod a0 a2), .int .u64 a1, .int .u64 a2] rfl ?_;(with_reducible refine(aC.calls k (Int.tmod a0 a2) a1 a2 t110 t111 _ A5.out).mono ?_);rintro e w' ⟨rfl,⟨nd,rfl⟩⟩;refine⟨_,rfl,?_⟩))
  go_ret
  exact⟨a8,dk⟩
def du.f(k:Nat)(a0:Int)(a1:Int)(a2:Int):Option (Int):=if a2=0 then(some 0) else((bits_Mul64.f a0 a1).bind fun bt112=>((dD.f k bt112.1 bt112.2 a2).bind fun t114=>(some t114)))
set_option maxHeartbeats 8000000 in
set_option maxRecDepth 100000 in
theorem du.calls(k:Nat)(a0:Int)(a1:Int)(a2:Int)(r:Int)(w:World)(h:du.f k a0 a1 a2=some r):
  Calls Tryz.prog 129 #[.int .u64 a0, .int .u64 a1, .int .u64 a2] w fun e w'=>e= .returned (.int .u64 r)∧au w w':=by
 have H:=h;unfold du.f at H
 clear h
 by_cases c4:a2=0
 ·rw[if_pos c4] at H
  have c4b0:=beq_iff_eq.mpr c4
  have c4b1:=bne_eq_false_iff_eq.mpr c4
  clear c4
  obtain rfl:=Option.some.inj H
  go_enter Tryz.func129,Tryz.ntmps129
  go_wp2
  go_ret
  exact⟨a8,dk⟩
 ·rw[if_neg c4] at H
  have c4b0:=beq_eq_false_iff_ne.mpr c4
  have c4b1:=bne_iff_ne.mpr c4
  replace H:=Option.bind_eq_some_iff.mp H
  obtain⟨⟨t112,t113⟩,A50,H⟩:=H
  (try dsimp only at H)
  have A5:=aa.mk A50
  clear A50
  replace H:=Option.bind_eq_some_iff.mp H
  obtain⟨t114,A60,H⟩:=H
  (try dsimp only at H)
  have A6:=aa.mk A60
  clear A60
  obtain rfl:=Option.some.inj H
  go_enter Tryz.func129,Tryz.ntmps129
  go_wp2_with (first|(refine fh 14 Tryz.func125 #[.int .u64 a0, .int .u64 a1] rfl ?_;(with_reducible refine(bits_Mul64.calls a0 a1 t112 t113 _ A5.out).mono ?_);rintro e w' ⟨rfl,⟨nd,rfl⟩⟩;refine⟨_,rfl,?_⟩)|(refine fh 20 Tryz.func126 #[.int .u64 t112, .int .u64 t113, .int .u64 a2] rfl ?_;(with_reducible refine(dD.calls k t112 t113 a2 t114 _ A6.out).mono ?_);rintro e w' ⟨rfl,⟨nd,rfl⟩⟩;refine⟨_,rfl,?_⟩))
  go_ret
  exact⟨a8,dk⟩
def cD.l0:Nat→Int→Int→Int→Int→Option (Int)
 |0,_,_,_,_=>none
 |k+1,x0,x1,x2,x7=>if x1>0 then(if(Go.bits .and .u64 x1 1)=1 then((du.f k x7 x0 x2).bind fun t115=>((du.f k x0 x0 x2).bind fun t116=>(cD.l0 k t116 (x1/2) x2 t115))) else((du.f k x0 x0 x2).bind fun t117=>(cD.l0 k t117 (x1/2) x2 x7))) else(some x7)
def cD.f(k:Nat)(a0:Int)(a1:Int)(a2:Int):Option (Int):=if a2=0 then(some 0) else(cD.l0 k a0 a1 a2 ((1:Int)%a2))
set_option maxHeartbeats 8000000 in
set_option maxRecDepth 100000 in
theorem cD.calls(k:Nat)(a0:Int)(a1:Int)(a2:Int)(r:Int)(w:World)(h:cD.f k a0 a1 a2=some r):
  Calls Tryz.prog 162 #[.int .u64 a0, .int .u64 a1, .int .u64 a2] w fun e w'=>e= .returned (.int .u64 r)∧au w w':=by
 have H:=h;unfold cD.f at H
 clear h
 by_cases c4:a2=0
 ·rw[if_pos c4] at H
  have c4b0:=beq_iff_eq.mpr c4
  have c4b1:=bne_eq_false_iff_eq.mpr c4
  clear c4
  obtain rfl:=Option.some.inj H
  go_enter Tryz.func162,Tryz.ntmps162
  go_wp2
  go_ret
  exact⟨a8,dk⟩
 ·rw[if_neg c4] at H
  have c4b0:=beq_eq_false_iff_ne.mpr c4
  have c4b1:=bne_iff_ne.mpr c4
  have H':=aa.mk H
  clear H
  go_enter Tryz.func162,Tryz.ntmps162
  go_wp2
  go_loopg [0,1,7] k (fun kq v0 v1 v7 w'=> ∃(x0_1:Int) (x1_1:Int) (x7_1:Int),v0= .int .u64 x0_1∧v1= .int .u64 x1_1∧v7= .int .u64 x7_1∧aa (cD.l0 kq x0_1 x1_1 a2 x7_1=some r)∧aa (kq≤k)∧au w w')
  case atStart=>exact⟨(a0),(a1),((1:Int)%a2),a8,a8,a8,H',⟨Nat.le_refl _⟩,dk⟩
  case round=>
   clear H'
   obtain⟨x0_1,x1_1,x7_1,rfl,rfl,rfl,HA,HK1,⟨m1,rfl⟩⟩:=hrel
   cases gk with
   |zero=>exact absurd HA.out (by simp[cD.l0])
   |succ k1=>
    have H:=HA.out
    clear HA
    simp only[cD.l0] at H
    by_cases c5:x1_1>0
    ·rw[if_pos c5] at H
     have c5b0:=decide_eq_true c5
     clear c5
     by_cases c6:(Go.bits .and .u64 x1_1 1)=1
     ·rw[if_pos c6] at H
      have c6b0:=beq_iff_eq.mpr c6
      have c6b1:=bne_eq_false_iff_eq.mpr c6
      clear c6
      replace H:=Option.bind_eq_some_iff.mp H
      obtain⟨t115,A70,H⟩:=H
      (try dsimp only at H)
      have A7:=aa.mk A70
      clear A70
      replace H:=Option.bind_eq_some_iff.mp H
      obtain⟨t116,A80,H⟩:=H
      (try dsimp only at H)
      have A8:=aa.mk A80
      clear A80
      have H':=aa.mk H
      clear H
      go_wp2_with (first|(refine fh 22 Tryz.func129 #[.int .u64 x7_1, .int .u64 x0_1, .int .u64 a2] rfl ?_;(with_reducible refine(du.calls k1 x7_1 x0_1 a2 t115 _ A7.out).mono ?_);rintro e w' ⟨rfl,⟨nd,rfl⟩⟩;refine⟨_,rfl,?_⟩)|(refine fh 26 Tryz.func129 #[.int .u64 x0_1, .int .u64 x0_1, .int .u64 a2] rfl ?_;(with_reducible refine(du.calls k1 x0_1 x0_1 a2 t116 _ A8.out).mono ?_);rintro e w' ⟨rfl,⟨nd,rfl⟩⟩;refine⟨_,rfl,?_⟩))
      go_roundg k1
      case measure=>have:=HK1.out;omega
      case rel=>exact⟨(t116),(x1_1/2),(t115),a8,a8,a8,H',⟨by have:=HK1.out;omega⟩,dk⟩
     ·rw[if_neg c6] at H
      have c6b0:=beq_eq_false_iff_ne.mpr c6
      have c6b1:=bne_iff_ne.mpr c6
      replace H:=Option.bind_eq_some_iff.mp H
      obtain⟨t117,A90,H⟩:=H
      (try dsimp only at H)
      have A9:=aa.mk A90
      clear A90
      have H':=aa.mk H
      clear H
      go_wp2_with (first|(refine fh 26 Tryz.func129 #[.int .u64 x0_1, .int .u64 x0_1, .int .u64 a2] rfl ?_;(with_reducible refine(du.calls k1 x0_1 x0_1 a2 t117 _ A9.out).mono ?_);rintro e w' ⟨rfl,⟨nd,rfl⟩⟩;refine⟨_,rfl,?_⟩))
      go_roundg k1
      case measure=>have:=HK1.out;omega
      case rel=>exact⟨(t117),(x1_1/2),(x7_1),a8,a8,a8,H',⟨by have:=HK1.out;omega⟩,dk⟩
    ·rw[if_neg c5] at H
     have c5b0:=decide_eq_false c5
     clear c5
     obtain rfl:=Option.some.inj H
     go_wp2
     go_ret
     exact⟨a8,dk⟩
def fp.f(k:Nat)(a0:Int)(a1:Int)(a2:Int):Option (Int):=if a2=0 then(some 0) else((dJ.f (Int.tmod a0 a2) (Int.tmod a1 a2) 0).bind fun bt118=>((dD.f k bt118.2 bt118.1 a2).bind fun t120=>(some t120)))
set_option maxHeartbeats 8000000 in
set_option maxRecDepth 100000 in
theorem fp.calls(k:Nat)(a0:Int)(a1:Int)(a2:Int)(r:Int)(w:World)(h:fp.f k a0 a1 a2=some r):
  Calls Tryz.prog 153 #[.int .u64 a0, .int .u64 a1, .int .u64 a2] w fun e w'=>e= .returned (.int .u64 r)∧au w w':=by
 have H:=h;unfold fp.f at H
 clear h
 by_cases c4:a2=0
 ·rw[if_pos c4] at H
  have c4b0:=beq_iff_eq.mpr c4
  have c4b1:=bne_eq_false_iff_eq.mpr c4
  clear c4
  obtain rfl:=Option.some.inj H
  go_enter Tryz.func153,Tryz.ntmps153
  go_wp2
  go_ret
  exact⟨a8,dk⟩
 ·rw[if_neg c4] at H
  have c4b0:=beq_eq_false_iff_ne.mpr c4
  have c4b1:=bne_iff_ne.mpr c4
  replace H:=Option.bind_eq_some_iff.mp H
  obtain⟨⟨t118,t119⟩,A50,H⟩:=H
  (try dsimp only at H)
  have A5:=aa.mk A50
  clear A50
  replace H:=Option.bind_eq_some_iff.mp H
  obtain⟨t120,A60,H⟩:=H
  (try dsimp only at H)
  have A6:=aa.mk A60
  clear A60
  obtain rfl:=Option.some.inj H
  have XA5:=fun W=>dJ.run (Int.tmod a0 a2) (Int.tmod a1 a2) 0 t118 t119 W A5.out
  go_enter Tryz.func153,Tryz.ntmps153
  go_wp2_with (first|(go_at_call 126;(with_reducible refine(dD.calls k t119 t118 a2 t120 _ A6.out).mono ?_);rintro e w' ⟨rfl,⟨nd,rfl⟩⟩;(try first|exact⟨rfl,_,World.drewN_drewN _ _ _⟩|exact⟨rfl,_,Eq.trans (World.drewN_drewN _ _ _) (congrArg (World.drewN _) (Nat.add_assoc _ _ _))⟩)))
  repeat(go_quiet (first|(go_at_call 126;(with_reducible refine(dD.calls k t119 t118 a2 t120 _ A6.out).mono ?_);rintro e w' ⟨rfl,⟨nd,rfl⟩⟩;(try first|exact⟨rfl,_,World.drewN_drewN _ _ _⟩|exact⟨rfl,_,Eq.trans (World.drewN_drewN _ _ _) (congrArg (World.drewN _) (Nat.add_assoc _ _ _))⟩)));try go_wp2_with (first|(go_at_call 126;(with_reducible refine(dD.calls k t119 t118 a2 t120 _ A6.out).mono ?_);rintro e w' ⟨rfl,⟨nd,rfl⟩⟩;(try first|exact⟨rfl,_,World.drewN_drewN _ _ _⟩|exact⟨rfl,_,Eq.trans (World.drewN_drewN _ _ _) (congrArg (World.drewN _) (Nat.add_assoc _ _ _))⟩))))
  go_ret
  exact⟨a8,dk⟩
end Go.Proofs.YtndkmnjbjlfeaaaGreat.XS
end
section
namespace Go.Proofs.YtndkmnjbjlfeaaaGreat.XS
open Go.RowKit Go.Proofs.YtndkmnjbjlfeaaaGreat.Given Go.Proofs.YtndkmnjbjlfeaaaGreatW.PrintWords Go.Proofs.YtndkmnjbjlfeaaaGreatW.PrintLast Go.Proofs.YtndkmnjbjlfeaaaGreatW.PrintMore
attribute [local go_sem] bU bS ct cr bw bz bP bT
set_option linter.unusedVariables false
set_option linter.unusedSimpArgs false
def dh.j0:Nat→Int→Int→Bool→Option (Int)
 |0,_,_,_=>none
 |k+1,x0,x1,x12=>if x12=true then(some 0) else(if x1=0 then(none) else(some (IntKind.u64.wrap (x1-(Int.tmod x0 x1)))))
def dh.f(k:Nat)(a0:Int)(a1:Int):Option (Int):=if a1=0 then(dh.j0 k a0 a1 true) else(dh.j0 k a0 a1 ((Int.tmod a0 a1)==0))
set_option maxHeartbeats 8000000 in
set_option maxRecDepth 100000 in
theorem dh.calls(k:Nat)(a0:Int)(a1:Int)(r:Int)(w:World)(h:dh.f k a0 a1=some r):
  Calls Tryz.prog 154 #[.int .u64 a0, .int .u64 a1] w fun e w'=>e= .returned (.int .u64 r)∧au w w':=by
 have H:=h;unfold dh.f at H
 clear h
 have HC3:=aa.mk H
 clear H
 go_enter Tryz.func154,Tryz.ntmps154
 go_upto_region 1 with(fail)
 go_cut [12] (fun v12 wc=> ∃(kq:Nat) (x12_2:Bool),v12= .bool x12_2∧aa (dh.j0 kq a0 a1 x12_2=some r)∧aa (kq≤k)∧au w wc)
 case first=>
  have H:=HC3.out
  clear HC3
  by_cases c4:a1=0
  ·rw[if_pos c4] at H
   have c4b0:=beq_iff_eq.mpr c4
   have c4b1:=bne_eq_false_iff_eq.mpr c4
   clear c4
   (first|rw[c4b0]|(simp only[bp,bQ];rw[c4b0])|skip)
   have H':=aa.mk H
   clear H
   go_wp2
   go_meet
   case rel=>exact⟨_,(true),a8,H',⟨by first|omega|exact Nat.le_refl _⟩,dk⟩
  ·rw[if_neg c4] at H
   have c4b0:=beq_eq_false_iff_ne.mpr c4
   have c4b1:=bne_iff_ne.mpr c4
   (first|rw[c4b0]|(simp only[bp,bQ];rw[c4b0])|skip)
   have H':=aa.mk H
   clear H
   go_wp2
   go_meet
   case rel=>exact⟨_,(((Int.tmod a0 a1)==0)),a8,H',⟨by first|omega|exact Nat.le_refl _⟩,dk⟩
 case rest=>
  clear HC3
  obtain⟨kq,x12_2,rfl,HA,HJ2,⟨mc2,rfl⟩⟩:=hcut
  cases kq with
  |zero=>exact absurd HA.out (by simp[dh.j0])
  |succ kj2=>
   have H:=HA.out
   clear HA
   simp only[dh.j0] at H
   by_cases c5:x12_2=true
   ·subst c5
    have H1:=H;rw[if_pos rfl] at H1
    clear H
    have H:=H1
    clear H1
    obtain rfl:=Option.some.inj H
    go_wp2
    go_ret
    exact⟨a8,dk⟩
   ·replace c5:=Bool.eq_false_iff.mpr c5
    subst c5
    have H1:=H;rw[if_neg (show¬(false=true) by decide)] at H1
    clear H
    have H:=H1
    clear H1
    by_cases c6:a1=0
    ·rw[if_pos c6] at H
     exact absurd H (by simp)
    ·rw[if_neg c6] at H
     have c6b0:=beq_eq_false_iff_ne.mpr c6
     have c6b1:=bne_iff_ne.mpr c6
     obtain rfl:=Option.some.inj H
     go_wp2
     go_ret
     exact⟨a8,dk⟩
def fR.f(k:Nat)(a0:Int)(a1:Int)(a2:Int):Option (Int):=(dh.f k a1 a2).bind fun t121=>((fp.f k a0 t121 a2).bind fun t122=>(some t122))
set_option maxHeartbeats 8000000 in
set_option maxRecDepth 100000 in
theorem fR.calls(k:Nat)(a0:Int)(a1:Int)(a2:Int)(r:Int)(w:World)(h:fR.f k a0 a1 a2=some r):
  Calls Tryz.prog 128 #[.int .u64 a0, .int .u64 a1, .int .u64 a2] w fun e w'=>e= .returned (.int .u64 r)∧au w w':=by
 have H:=h;unfold fR.f at H
 clear h
 replace H:=Option.bind_eq_some_iff.mp H
 obtain⟨t121,A40,H⟩:=H
 (try dsimp only at H)
 have A4:=aa.mk A40
 clear A40
 replace H:=Option.bind_eq_some_iff.mp H
 obtain⟨t122,A50,H⟩:=H
 (try dsimp only at H)
 have A5:=aa.mk A50
 clear A50
 obtain rfl:=Option.some.inj H
 go_enter Tryz.func128,Tryz.ntmps128
 go_wp2_with (first|(refine fh 10 Tryz.func154 #[.int .u64 a1, .int .u64 a2] rfl ?_;(with_reducible refine(dh.calls k a1 a2 t121 _ A4.out).mono ?_);rintro e w' ⟨rfl,⟨nd,rfl⟩⟩;refine⟨_,rfl,?_⟩)|(refine fh 12 Tryz.func153 #[.int .u64 a0, .int .u64 t121, .int .u64 a2] rfl ?_;(with_reducible refine(fp.calls k a0 t121 a2 t122 _ A5.out).mono ?_);rintro e w' ⟨rfl,⟨nd,rfl⟩⟩;refine⟨_,rfl,?_⟩))
 go_ret
 exact⟨a8,dk⟩
def cu.l0:Nat→Int→Int→Int→Int→Int→Option (Int×Bool)
 |0,_,_,_,_,_=>none
 |k+1,x1,x6,x7,x8,x9=>if x7>0 then(if x7=0 then(none) else((du.f k (IntKind.u64.wrap (Int.tdiv x6 x7)) x9 x1).bind fun t123=>((fR.f k x8 t123 x1).bind fun t124=>(cu.l0 k x1 x7 (IntKind.u64.wrap (x6-(IntKind.u64.wrap ((IntKind.u64.wrap (Int.tdiv x6 x7))*x7)))) x9 t124)))) else(if x6=1 then(some (x8,true)) else(some (0,false)))
def cu.f(k:Nat)(a0:Int)(a1:Int):Option (Int×Bool):=if a1<2 then(some (0,false)) else(if a1=0 then(none) else(cu.l0 k a1 a1 (Int.tmod a0 a1) 0 1))
set_option maxHeartbeats 8000000 in
set_option maxRecDepth 100000 in
theorem cu.calls(k:Nat)(a0:Int)(a1:Int)(r1:Int)(r2:Bool)(w:World)(h:cu.f k a0 a1=some (r1,r2)):
  Calls Tryz.prog 99 #[.int .u64 a0, .int .u64 a1] w fun e w'=>e= .returned (.tuple #[.int .u64 r1, .bool r2])∧au w w':=by
 have H:=h;unfold cu.f at H
 clear h
 by_cases c3:a1<2
 ·rw[if_pos c3] at H
  have c3b0:=decide_eq_true c3
  clear c3
  simp only[Option.some.injEq,Prod.mk.injEq] at H
  obtain⟨rfl,rfl⟩:=H
  go_enter Tryz.func99,Tryz.ntmps99
  go_wp2
  go_ret2
  exact⟨a8,dk⟩
 ·rw[if_neg c3] at H
  have c3b0:=decide_eq_false c3
  clear c3
  by_cases c4:a1=0
  ·rw[if_pos c4] at H
   exact absurd H (by simp)
  ·rw[if_neg c4] at H
   have c4b0:=beq_eq_false_iff_ne.mpr c4
   have c4b1:=bne_iff_ne.mpr c4
   have H':=aa.mk H
   clear H
   go_enter Tryz.func99,Tryz.ntmps99
   go_wp2
   repeat(go_quiet (fail);try go_wp2)
   go_loopg [6,7,8,9] k (fun kq v6 v7 v8 v9 w'=> ∃(x6_1:Int) (x7_1:Int) (x8_1:Int) (x9_1:Int),v6= .int .u64 x6_1∧v7= .int .u64 x7_1∧v8= .int .u64 x8_1∧v9= .int .u64 x9_1∧aa (cu.l0 kq a1 x6_1 x7_1 x8_1 x9_1=some (r1,r2))∧aa (kq≤k)∧au w w')
   case atStart=>exact⟨(a1),(Int.tmod a0 a1),(0),(1),a8,a8,a8,a8,H',⟨Nat.le_refl _⟩,dk⟩
   case round=>
    clear H'
    obtain⟨x6_1,x7_1,x8_1,x9_1,rfl,rfl,rfl,rfl,HA,HK1,⟨m1,rfl⟩⟩:=hrel
    cases gk with
    |zero=>exact absurd HA.out (by simp[cu.l0])
    |succ k1=>
     have H:=HA.out
     clear HA
     simp only[cu.l0] at H
     by_cases c5:x7_1>0
     ·rw[if_pos c5] at H
      have c5b0:=decide_eq_true c5
      clear c5
      by_cases c6:x7_1=0
      ·rw[if_pos c6] at H
       exact absurd H (by simp)
      ·rw[if_neg c6] at H
       have c6b0:=beq_eq_false_iff_ne.mpr c6
       have c6b1:=bne_iff_ne.mpr c6
       replace H:=Option.bind_eq_some_iff.mp H
       obtain⟨t123,A70,H⟩:=H
       (try dsimp only at H)
       have A7:=aa.mk A70
       clear A70
       replace H:=Option.bind_eq_some_iff.mp H
       obtain⟨t124,A80,H⟩:=H
       (try dsimp only at H)
       have A8:=aa.mk A80
       clear A80
       have H':=aa.mk H
       clear H
       go_wp2_with (first|(go_at_call 129;(with_reducible refine(du.calls k1 (IntKind.u64.wrap (Int.tdiv x6_1 x7_1)) x9_1 a1 t123 _ A7.out).mono ?_);rintro e w' ⟨rfl,⟨nd,rfl⟩⟩;(try first|exact⟨rfl,_,World.drewN_drewN _ _ _⟩|exact⟨rfl,_,Eq.trans (World.drewN_drewN _ _ _) (congrArg (World.drewN _) (Nat.add_assoc _ _ _))⟩))|(go_at_call 128;(with_reducible refine(fR.calls k1 x8_1 t123 a1 t124 _ A8.out).mono ?_);rintro e w' ⟨rfl,⟨nd,rfl⟩⟩;(try first|exact⟨rfl,_,World.drewN_drewN _ _ _⟩|exact⟨rfl,_,Eq.trans (World.drewN_drewN _ _ _) (congrArg (World.drewN _) (Nat.add_assoc _ _ _))⟩)))
       go_roundg k1
       case measure=>have:=HK1.out;omega
       case rel=>exact⟨(x7_1),(IntKind.u64.wrap (x6_1-(IntKind.u64.wrap ((IntKind.u64.wrap (Int.tdiv x6_1 x7_1))*x7_1)))),(x9_1),(t124),a8,a8,a8,a8,H',⟨by have:=HK1.out;omega⟩,dk⟩
     ·rw[if_neg c5] at H
      have c5b0:=decide_eq_false c5
      clear c5
      by_cases c9:x6_1=1
      ·rw[if_pos c9] at H
       have c9b0:=beq_iff_eq.mpr c9
       have c9b1:=bne_eq_false_iff_eq.mpr c9
       clear c9
       simp only[Option.some.injEq,Prod.mk.injEq] at H
       obtain⟨rfl,rfl⟩:=H
       go_wp2
       go_ret2
       exact⟨a8,dk⟩
      ·rw[if_neg c9] at H
       have c9b0:=beq_eq_false_iff_ne.mpr c9
       have c9b1:=bne_iff_ne.mpr c9
       simp only[Option.some.injEq,Prod.mk.injEq] at H
       obtain⟨rfl,rfl⟩:=H
       go_wp2
       go_ret2
       exact⟨a8,dk⟩
mutual
def az.j0:Nat→Int→Bool→Option (Bool)
 |0,_,_=>none
 |k+1,x0,x9=>if x9=true then(some false) else(az.l0 k x0 2)
def az.l0:Nat→Int→Int→Option (Bool)
 |0,_,_=>none
 |k+1,x0,x3=>if(IntKind.u64.wrap (x3*x3))≤x0 then(if x3=0 then(none) else(if(Int.tmod x0 x3)=0 then(some false) else(az.l0 k x0 (IntKind.u64.wrap (x3+1))))) else(some true)
end
def az.f(k:Nat)(a0:Int):Option (Bool):=if a0<2 then(az.j0 k a0 true) else(az.j0 k a0 (decide (a0>4294967296)))
set_option maxHeartbeats 8000000 in
set_option maxRecDepth 100000 in
theorem az.calls(k:Nat)(a0:Int)(r:Bool)(w:World)(h:az.f k a0=some r):
  Calls Tryz.prog 120 #[.int .u64 a0] w fun e w'=>e= .returned (.bool r)∧au w w':=by
 have H:=h;unfold az.f at H
 clear h
 have HC2:=aa.mk H
 clear H
 go_enter Tryz.func120,Tryz.ntmps120
 go_upto_region 1 with(fail)
 go_cut [9] (fun v9 wc=> ∃(kq:Nat) (x9_1:Bool),v9= .bool x9_1∧aa (az.j0 kq a0 x9_1=some r)∧aa (kq≤k)∧au w wc)
 case first=>
  have H:=HC2.out
  clear HC2
  by_cases c3:a0<2
  ·rw[if_pos c3] at H
   have c3b0:=decide_eq_true c3
   clear c3
   (first|rw[c3b0]|(simp only[bp,bQ];rw[c3b0])|skip)
   have H':=aa.mk H
   clear H
   go_wp2
   go_meet
   case rel=>exact⟨_,(true),a8,H',⟨by first|omega|exact Nat.le_refl _⟩,dk⟩
  ·rw[if_neg c3] at H
   have c3b0:=decide_eq_false c3
   clear c3
   (first|rw[c3b0]|(simp only[bp,bQ];rw[c3b0])|skip)
   have H':=aa.mk H
   clear H
   go_wp2
   go_meet
   case rel=>exact⟨_,(decide (a0>4294967296)),a8,H',⟨by first|omega|exact Nat.le_refl _⟩,dk⟩
 case rest=>
  clear HC2
  obtain⟨kq,x9_1,rfl,HA,HJ1,⟨mc1,rfl⟩⟩:=hcut
  cases kq with
  |zero=>exact absurd HA.out (by simp[az.j0])
  |succ kj1=>
   have H:=HA.out
   clear HA
   simp only[az.j0] at H
   by_cases c4:x9_1=true
   ·subst c4
    have H1:=H;rw[if_pos rfl] at H1
    clear H
    have H:=H1
    clear H1
    obtain rfl:=Option.some.inj H
    go_wp2
    go_ret
    exact⟨a8,dk⟩
   ·replace c4:=Bool.eq_false_iff.mpr c4
    subst c4
    have H1:=H;rw[if_neg (show¬(false=true) by decide)] at H1
    clear H
    have H:=H1
    clear H1
    have H':=aa.mk H
    clear H
    go_wp2
    go_loopg [3] kj1 (fun kq v3 w'=> ∃(x3_2:Int),v3= .int .u64 x3_2∧aa (az.l0 kq a0 x3_2=some r)∧aa (kq≤kj1)∧au w w')
    case atStart=>exact⟨(2),a8,H',⟨Nat.le_refl _⟩,dk⟩
    case round=>
     clear H'
     obtain⟨x3_2,rfl,HA,HK2,⟨m2,rfl⟩⟩:=hrel
     cases gk with
     |zero=>exact absurd HA.out (by simp[az.l0])
     |succ k2=>
      have H:=HA.out
      clear HA
      simp only[az.l0] at H
      by_cases c5:(IntKind.u64.wrap (x3_2*x3_2))≤a0
      ·rw[if_pos c5] at H
       have c5b0:=decide_eq_true c5
       clear c5
       by_cases c6:x3_2=0
       ·rw[if_pos c6] at H
        exact absurd H (by simp)
       ·rw[if_neg c6] at H
        have c6b0:=beq_eq_false_iff_ne.mpr c6
        have c6b1:=bne_iff_ne.mpr c6
        by_cases c7:(Int.tmod a0 x3_2)=0
        ·rw[if_pos c7] at H
         have c7b0:=beq_iff_eq.mpr c7
         have c7b1:=bne_eq_false_iff_eq.mpr c7
         clear c7
         obtain rfl:=Option.some.inj H
         go_wp2
         go_ret
         exact⟨a8,dk⟩
        ·rw[if_neg c7] at H
         have c7b0:=beq_eq_false_iff_ne.mpr c7
         have c7b1:=bne_iff_ne.mpr c7
         have H':=aa.mk H
         clear H
         go_wp2
         go_roundg k2
         case measure=>have:=HJ1.out;have:=HK2.out;omega
         case rel=>exact⟨(IntKind.u64.wrap (x3_2+1)),a8,H',⟨by have:=HJ1.out;have:=HK2.out;omega⟩,dk⟩
      ·rw[if_neg c5] at H
       have c5b0:=decide_eq_false c5
       clear c5
       obtain rfl:=Option.some.inj H
       go_wp2
       go_ret
       exact⟨a8,dk⟩
def cf.f(k:Nat)(a0:Int):Option (Bool):=if a0>2 then(if a0≤65536 then((az.f k a0).bind fun t125=>(some t125)) else(some false)) else(some false)
set_option maxHeartbeats 8000000 in
set_option maxRecDepth 100000 in
theorem cf.calls(k:Nat)(a0:Int)(r:Bool)(w:World)(h:cf.f k a0=some r):
  Calls Tryz.prog 89 #[.int .u64 a0] w fun e w'=>e= .returned (.bool r)∧au w w':=by
 have H:=h;unfold cf.f at H
 clear h
 by_cases c2:a0>2
 ·rw[if_pos c2] at H
  have c2b0:=decide_eq_true c2
  clear c2
  by_cases c3:a0≤65536
  ·rw[if_pos c3] at H
   have c3b0:=decide_eq_true c3
   clear c3
   replace H:=Option.bind_eq_some_iff.mp H
   obtain⟨t125,A40,H⟩:=H
   (try dsimp only at H)
   have A4:=aa.mk A40
   clear A40
   obtain rfl:=Option.some.inj H
   go_enter Tryz.func89,Tryz.ntmps89
   go_wp2_with (first|(go_at_call 120;(with_reducible refine(az.calls k a0 t125 _ A4.out).mono ?_);rintro e w' ⟨rfl,⟨nd,rfl⟩⟩))
   go_ret
   exact⟨a8,dk⟩
  ·rw[if_neg c3] at H
   have c3b0:=decide_eq_false c3
   clear c3
   obtain rfl:=Option.some.inj H
   go_enter Tryz.func89,Tryz.ntmps89
   go_wp2
   go_ret
   exact⟨a8,dk⟩
 ·rw[if_neg c2] at H
  have c2b0:=decide_eq_false c2
  clear c2
  obtain rfl:=Option.some.inj H
  go_enter Tryz.func89,Tryz.ntmps89
  go_wp2
  go_ret
  exact⟨a8,dk⟩
def bd.l0:Nat→Int→Int→Int→Int→Option (Int)
 |0,_,_,_,_=>none
 |k+1,x0,x1,x5,x6=>if x6=1 then(some x5) else(if x1=0 then(none) else(bd.l0 k x0 x1 (IntKind.u64.wrap (x5+1)) (Int.tmod (IntKind.u64.wrap (x6*x0)) x1)))
def bd.f(k:Nat)(a0:Int)(a1:Int):Option (Int):=if a1=0 then(none) else(bd.l0 k a0 a1 1 (Int.tmod a0 a1))
set_option maxHeartbeats 8000000 in
set_option maxRecDepth 100000 in
theorem bd.calls(k:Nat)(a0:Int)(a1:Int)(r:Int)(w:World)(h:bd.f k a0 a1=some r):
  Calls Tryz.prog 121 #[.int .u64 a0, .int .u64 a1] w fun e w'=>e= .returned (.int .u64 r)∧au w w':=by
 have H:=h;unfold bd.f at H
 clear h
 by_cases c3:a1=0
 ·rw[if_pos c3] at H
  exact absurd H (by simp)
 ·rw[if_neg c3] at H
  have c3b0:=beq_eq_false_iff_ne.mpr c3
  have c3b1:=bne_iff_ne.mpr c3
  have H':=aa.mk H
  clear H
  go_enter Tryz.func121,Tryz.ntmps121
  go_wp2
  go_loopg [5,6] k (fun kq v5 v6 w'=> ∃(x5_1:Int) (x6_1:Int),v5= .int .u64 x5_1∧v6= .int .u64 x6_1∧aa (bd.l0 kq a0 a1 x5_1 x6_1=some r)∧aa (kq≤k)∧au w w')
  case atStart=>exact⟨(1),(Int.tmod a0 a1),a8,a8,H',⟨Nat.le_refl _⟩,dk⟩
  case round=>
   clear H'
   obtain⟨x5_1,x6_1,rfl,rfl,HA,HK1,⟨m1,rfl⟩⟩:=hrel
   cases gk with
   |zero=>exact absurd HA.out (by simp[bd.l0])
   |succ k1=>
    have H:=HA.out
    clear HA
    simp only[bd.l0] at H
    by_cases c4:x6_1=1
    ·rw[if_pos c4] at H
     have c4b0:=beq_iff_eq.mpr c4
     have c4b1:=bne_eq_false_iff_eq.mpr c4
     clear c4
     obtain rfl:=Option.some.inj H
     go_wp2
     go_ret
     exact⟨a8,dk⟩
    ·rw[if_neg c4] at H
     have c4b0:=beq_eq_false_iff_ne.mpr c4
     have c4b1:=bne_iff_ne.mpr c4
     by_cases c5:a1=0
     ·rw[if_pos c5] at H
      exact absurd H (by simp)
     ·rw[if_neg c5] at H
      have c5b0:=beq_eq_false_iff_ne.mpr c5
      have c5b1:=bne_iff_ne.mpr c5
      have H':=aa.mk H
      clear H
      go_wp2
      go_roundg k1
      case measure=>have:=HK1.out;omega
      case rel=>exact⟨(IntKind.u64.wrap (x5_1+1)),(Int.tmod (IntKind.u64.wrap (x6_1*a0)) a1),a8,a8,H',⟨by have:=HK1.out;omega⟩,dk⟩
def aA.l0:Nat→Int→Int→Option (Int)
 |0,_,_=>none
 |k+1,x0,x3=>if x3<x0 then((bd.f k x3 x0).bind fun t127=>(if t127=(IntKind.u64.wrap (x0-1)) then(some x3) else(aA.l0 k x0 (IntKind.u64.wrap (x3+1))))) else(some 0)
def aA.f(k:Nat)(a0:Int):Option (Int):=(cf.f k a0).bind fun t126=>(if t126=true then(aA.l0 k a0 2) else(some 0))
set_option maxHeartbeats 8000000 in
set_option maxRecDepth 100000 in
theorem aA.calls(k:Nat)(a0:Int)(r:Int)(w:World)(h:aA.f k a0=some r):
  Calls Tryz.prog 90 #[.int .u64 a0] w fun e w'=>e= .returned (.int .u64 r)∧au w w':=by
 have H:=h;unfold aA.f at H
 clear h
 replace H:=Option.bind_eq_some_iff.mp H
 obtain⟨t126,A20,H⟩:=H
 (try dsimp only at H)
 have A2:=aa.mk A20
 clear A20
 by_cases c3:t126=true
 ·subst c3
  have H1:=H;rw[if_pos rfl] at H1
  clear H
  have H:=H1
  clear H1
  have H':=aa.mk H
  clear H
  go_enter Tryz.func90,Tryz.ntmps90
  go_wp2_with (first|(refine fh 5 Tryz.func89 #[.int .u64 a0] rfl ?_;(with_reducible refine(cf.calls k a0 true _ A2.out).mono ?_);rintro e w' ⟨rfl,⟨nd,rfl⟩⟩;refine⟨_,rfl,?_⟩))
  go_loopg [3] k (fun kq v3 w'=> ∃(x3_1:Int),v3= .int .u64 x3_1∧aa (aA.l0 kq a0 x3_1=some r)∧aa (kq≤k)∧au w w')
  case atStart=>exact⟨(2),a8,H',⟨Nat.le_refl _⟩,dk⟩
  case round=>
   clear H'
   obtain⟨x3_1,rfl,HA,HK1,⟨m1,rfl⟩⟩:=hrel
   cases gk with
   |zero=>exact absurd HA.out (by simp[aA.l0])
   |succ k1=>
    have H:=HA.out
    clear HA
    simp only[aA.l0] at H
    by_cases c4:x3_1<a0
    ·rw[if_pos c4] at H
     have c4b0:=decide_eq_true c4
     clear c4
     replace H:=Option.bind_eq_some_iff.mp H
     obtain⟨t127,A50,H⟩:=H
     (try dsimp only at H)
     have A5:=aa.mk A50
     clear A50
     by_cases c6:t127=(IntKind.u64.wrap (a0-1))
     ·rw[if_pos c6] at H
      have c6b0:=beq_iff_eq.mpr c6
      have c6b1:=bne_eq_false_iff_eq.mpr c6
      clear c6
      obtain rfl:=Option.some.inj H
      go_wp2_with (first|(refine fh 14 Tryz.func121 #[.int .u64 x3_1, .int .u64 a0] rfl ?_;(with_reducible refine(bd.calls k1 x3_1 a0 t127 _ A5.out).mono ?_);rintro e w' ⟨rfl,⟨nd,rfl⟩⟩;refine⟨_,rfl,?_⟩))
      go_ret
      exact⟨a8,dk⟩
     ·rw[if_neg c6] at H
      have c6b0:=beq_eq_false_iff_ne.mpr c6
      have c6b1:=bne_iff_ne.mpr c6
      have H':=aa.mk H
      clear H
      go_wp2_with (first|(refine fh 14 Tryz.func121 #[.int .u64 x3_1, .int .u64 a0] rfl ?_;(with_reducible refine(bd.calls k1 x3_1 a0 t127 _ A5.out).mono ?_);rintro e w' ⟨rfl,⟨nd,rfl⟩⟩;refine⟨_,rfl,?_⟩))
      go_roundg k1
      case measure=>have:=HK1.out;omega
      case rel=>exact⟨(IntKind.u64.wrap (x3_1+1)),a8,H',⟨by have:=HK1.out;omega⟩,dk⟩
    ·rw[if_neg c4] at H
     have c4b0:=decide_eq_false c4
     clear c4
     obtain rfl:=Option.some.inj H
     go_wp2
     go_ret
     exact⟨a8,dk⟩
 ·replace c3:=Bool.eq_false_iff.mpr c3
  subst c3
  have H1:=H;rw[if_neg (show¬(false=true) by decide)] at H1
  clear H
  have H:=H1
  clear H1
  obtain rfl:=Option.some.inj H
  go_enter Tryz.func90,Tryz.ntmps90
  go_wp2_with (first|(refine fh 5 Tryz.func89 #[.int .u64 a0] rfl ?_;(with_reducible refine(cf.calls k a0 false _ A2.out).mono ?_);rintro e w' ⟨rfl,⟨nd,rfl⟩⟩;refine⟨_,rfl,?_⟩))
  go_ret
  exact⟨a8,dk⟩
def cH.f(a0:Int)(a1:Int)(a2:Int):Option (Int):=if a2=0 then(none) else(if(Int.tmod a0 a2)≥(IntKind.u64.wrap (a2-(Int.tmod a1 a2))) then(some (IntKind.u64.wrap ((Int.tmod a0 a2)-(IntKind.u64.wrap (a2-(Int.tmod a1 a2)))))) else(some (IntKind.u64.wrap ((Int.tmod a0 a2)+(Int.tmod a1 a2)))))
set_option maxHeartbeats 8000000 in
set_option maxRecDepth 100000 in
theorem cH.calls(a0:Int)(a1:Int)(a2:Int)(r:Int)(w:World)(h:cH.f a0 a1 a2=some r):
  Calls Tryz.prog 28 #[.int .u64 a0, .int .u64 a1, .int .u64 a2] w fun e w'=>e= .returned (.int .u64 r)∧au w w':=by
 have H:=h;unfold cH.f at H
 clear h
 by_cases c4:a2=0
 ·rw[if_pos c4] at H
  exact absurd H (by simp)
 ·rw[if_neg c4] at H
  have c4b0:=beq_eq_false_iff_ne.mpr c4
  have c4b1:=bne_iff_ne.mpr c4
  by_cases c5:(Int.tmod a0 a2)≥(IntKind.u64.wrap (a2-(Int.tmod a1 a2)))
  ·rw[if_pos c5] at H
   have c5b0:=decide_eq_true c5
   clear c5
   obtain rfl:=Option.some.inj H
   go_enter Tryz.func28,Tryz.ntmps28
   go_wp2
   go_ret
   exact⟨a8,dk⟩
  ·rw[if_neg c5] at H
   have c5b0:=decide_eq_false c5
   clear c5
   obtain rfl:=Option.some.inj H
   go_enter Tryz.func28,Tryz.ntmps28
   go_wp2
   go_ret
   exact⟨a8,dk⟩
def aV.l0:Nat→Int→Int→Int→Int→Option (Int)
 |0,_,_,_,_=>none
 |k+1,x0,x1,x2,x7=>if x1>0 then(if(Int.tmod x1 2)=1 then((cH.f x7 x0 x2).bind fun t128=>((cH.f x0 x0 x2).bind fun t129=>(aV.l0 k t129 (IntKind.u64.wrap (Int.tdiv x1 2)) x2 t128))) else((cH.f x0 x0 x2).bind fun t130=>(aV.l0 k t130 (IntKind.u64.wrap (Int.tdiv x1 2)) x2 x7))) else(some x7)
def aV.f(k:Nat)(a0:Int)(a1:Int)(a2:Int):Option (Int):=if a2=0 then(none) else(aV.l0 k (Int.tmod a0 a2) a1 a2 0)
set_option maxHeartbeats 8000000 in
set_option maxRecDepth 100000 in
theorem aV.calls(k:Nat)(a0:Int)(a1:Int)(a2:Int)(r:Int)(w:World)(h:aV.f k a0 a1 a2=some r):
  Calls Tryz.prog 26 #[.int .u64 a0, .int .u64 a1, .int .u64 a2] w fun e w'=>e= .returned (.int .u64 r)∧au w w':=by
 have H:=h;unfold aV.f at H
 clear h
 by_cases c4:a2=0
 ·rw[if_pos c4] at H
  exact absurd H (by simp)
 ·rw[if_neg c4] at H
  have c4b0:=beq_eq_false_iff_ne.mpr c4
  have c4b1:=bne_iff_ne.mpr c4
  have H':=aa.mk H
  clear H
  go_enter Tryz.func26,Tryz.ntmps26
  go_wp2
  go_loopg [0,1,7] k (fun kq v0 v1 v7 w'=> ∃(x0_1:Int) (x1_1:Int) (x7_1:Int),v0= .int .u64 x0_1∧v1= .int .u64 x1_1∧v7= .int .u64 x7_1∧aa (aV.l0 kq x0_1 x1_1 a2 x7_1=some r)∧aa (kq≤k)∧au w w')
  case atStart=>exact⟨(Int.tmod a0 a2),(a1),(0),a8,a8,a8,H',⟨Nat.le_refl _⟩,dk⟩
  case round=>
   clear H'
   obtain⟨x0_1,x1_1,x7_1,rfl,rfl,rfl,HA,HK1,⟨m1,rfl⟩⟩:=hrel
   cases gk with
   |zero=>exact absurd HA.out (by simp[aV.l0])
   |succ k1=>
    have H:=HA.out
    clear HA
    simp only[aV.l0] at H
    by_cases c5:x1_1>0
    ·rw[if_pos c5] at H
     have c5b0:=decide_eq_true c5
     clear c5
     by_cases c6:(Int.tmod x1_1 2)=1
     ·rw[if_pos c6] at H
      have c6b0:=beq_iff_eq.mpr c6
      have c6b1:=bne_eq_false_iff_eq.mpr c6
      clear c6
      replace H:=Option.bind_eq_some_iff.mp H
      obtain⟨t128,A70,H⟩:=H
      (try dsimp only at H)
      have A7:=aa.mk A70
      clear A70
      replace H:=Option.bind_eq_some_iff.mp H
      obtain⟨t129,A80,H⟩:=H
      (try dsimp only at H)
      have A8:=aa.mk A80
      clear A80
      have H':=aa.mk H
      clear H
      go_wp2_with (first|(refine fh 19 Tryz.func28 #[.int .u64 x7_1, .int .u64 x0_1, .int .u64 a2] rfl ?_;(with_reducible refine(cH.calls x7_1 x0_1 a2 t128 _ A7.out).mono ?_);rintro e w' ⟨rfl,⟨nd,rfl⟩⟩;refine⟨_,rfl,?_⟩)|(refine fh 23 Tryz.func28 #[.int .u64 x0_1, .int .u64 x0_1, .int .u64 a2] rfl ?_;(with_reducible refine(cH.calls x0_1 x0_1 a2 t129 _ A8.out).mono ?_);rintro e w' ⟨rfl,⟨nd,rfl⟩⟩;refine⟨_,rfl,?_⟩))
      go_roundg k1
      case measure=>have:=HK1.out;omega
      case rel=>exact⟨(t129),(IntKind.u64.wrap (Int.tdiv x1_1 2)),(t128),a8,a8,a8,H',⟨by have:=HK1.out;omega⟩,dk⟩
     ·rw[if_neg c6] at H
      have c6b0:=beq_eq_false_iff_ne.mpr c6
      have c6b1:=bne_iff_ne.mpr c6
      replace H:=Option.bind_eq_some_iff.mp H
      obtain⟨t130,A90,H⟩:=H
      (try dsimp only at H)
      have A9:=aa.mk A90
      clear A90
      have H':=aa.mk H
      clear H
      go_wp2_with (first|(refine fh 23 Tryz.func28 #[.int .u64 x0_1, .int .u64 x0_1, .int .u64 a2] rfl ?_;(with_reducible refine(cH.calls x0_1 x0_1 a2 t130 _ A9.out).mono ?_);rintro e w' ⟨rfl,⟨nd,rfl⟩⟩;refine⟨_,rfl,?_⟩))
      go_roundg k1
      case measure=>have:=HK1.out;omega
      case rel=>exact⟨(t130),(IntKind.u64.wrap (Int.tdiv x1_1 2)),(x7_1),a8,a8,a8,H',⟨by have:=HK1.out;omega⟩,dk⟩
    ·rw[if_neg c5] at H
     have c5b0:=decide_eq_false c5
     clear c5
     obtain rfl:=Option.some.inj H
     go_wp2
     go_ret
     exact⟨a8,dk⟩
end Go.Proofs.YtndkmnjbjlfeaaaGreat.XS
end
section
namespace Go.Proofs.YtndkmnjbjlfeaaaGreat.XS
open Go.RowKit Go.Proofs.YtndkmnjbjlfeaaaGreat.Given Go.Proofs.YtndkmnjbjlfeaaaGreatW.PrintWords Go.Proofs.YtndkmnjbjlfeaaaGreatW.PrintLast Go.Proofs.YtndkmnjbjlfeaaaGreatW.PrintMore
attribute [local go_sem] bU bS ct cr bw bz bP bT
set_option linter.unusedVariables false
set_option linter.unusedSimpArgs false
def br.f:Nat→Int→Int→Int→Option (Int)
 |0,_,_,_=>none
 |k+1,a0,a1,a2=>if a1=0 then(if a2=0 then(none) else(some ((1:Int)%a2))) else((br.f k a0 (IntKind.u64.wrap (Int.tdiv a1 2)) a2).bind fun t131=>((aV.f k t131 t131 a2).bind fun t132=>(if(Int.tmod a1 2)=1 then((aV.f k t132 a0 a2).bind fun t133=>(some t133)) else(some t132))))
set_option maxHeartbeats 8000000 in
set_option maxRecDepth 100000 in
theorem br.calls(k:Nat): ∀(a0:Int) (a1:Int) (a2:Int) (r:Int) (w:World) (h:br.f k a0 a1 a2=some r),
  Calls Tryz.prog 30 #[.int .u64 a0, .int .u64 a1, .int .u64 a2] w fun e w'=>e= .returned (.int .u64 r)∧au w w':=by
 induction k using Nat.strongRecOn with
 |_ k ih=>
 intro a0 a1 a2 r w h
 cases k with
 |zero=>exact absurd h (by simp[br.f])
 |succ k=>
 simp only[br.f] at h
 have H:(if a1=0 then(if a2=0 then(none) else(some ((1:Int)%a2))) else((br.f k a0 (IntKind.u64.wrap (Int.tdiv a1 2)) a2).bind fun t131=>((aV.f k t131 t131 a2).bind fun t132=>(if(Int.tmod a1 2)=1 then((aV.f k t132 a0 a2).bind fun t133=>(some t133)) else(some t132)))))=some r:=h
 clear h
 by_cases c4:a1=0
 ·rw[if_pos c4] at H
  have c4b0:=beq_iff_eq.mpr c4
  have c4b1:=bne_eq_false_iff_eq.mpr c4
  clear c4
  by_cases c5:a2=0
  ·rw[if_pos c5] at H
   exact absurd H (by simp)
  ·rw[if_neg c5] at H
   have c5b0:=beq_eq_false_iff_ne.mpr c5
   have c5b1:=bne_iff_ne.mpr c5
   obtain rfl:=Option.some.inj H
   go_enter Tryz.func30,Tryz.ntmps30
   go_wp2
   go_ret
   exact⟨a8,dk⟩
 ·rw[if_neg c4] at H
  have c4b0:=beq_eq_false_iff_ne.mpr c4
  have c4b1:=bne_iff_ne.mpr c4
  replace H:=Option.bind_eq_some_iff.mp H
  obtain⟨t131,A60,H⟩:=H
  replace H:((aV.f k t131 t131 a2).bind fun t132=>(if(Int.tmod a1 2)=1 then((aV.f k t132 a0 a2).bind fun t133=>(some t133)) else(some t132)))=some r:=H
  have A6:=aa.mk A60
  clear A60
  replace H:=Option.bind_eq_some_iff.mp H
  obtain⟨t132,A70,H⟩:=H
  replace H:(if(Int.tmod a1 2)=1 then((aV.f k t132 a0 a2).bind fun t133=>(some t133)) else(some t132))=some r:=H
  have A7:=aa.mk A70
  clear A70
  by_cases c8:(Int.tmod a1 2)=1
  ·rw[if_pos c8] at H
   have c8b0:=beq_iff_eq.mpr c8
   have c8b1:=bne_eq_false_iff_eq.mpr c8
   clear c8
   replace H:=Option.bind_eq_some_iff.mp H
   obtain⟨t133,A90,H⟩:=H
   replace H:(some t133)=some r:=H
   have A9:=aa.mk A90
   clear A90
   obtain rfl:=Option.some.inj H
   go_enter Tryz.func30,Tryz.ntmps30
   go_wp2_with (first|(refine fh 17 Tryz.func30 #[.int .u64 a0, .int .u64 (IntKind.u64.wrap (Int.tdiv a1 2)), .int .u64 a2] rfl ?_;(with_reducible refine(ih k (by omega) a0 (IntKind.u64.wrap (Int.tdiv a1 2)) a2 t131 _ A6.out).mono ?_);rintro e w' ⟨rfl,⟨nd,rfl⟩⟩;refine⟨_,rfl,?_⟩)|(refine fh 21 Tryz.func26 #[.int .u64 t131, .int .u64 t131, .int .u64 a2] rfl ?_;(with_reducible refine(aV.calls k t131 t131 a2 t132 _ A7.out).mono ?_);rintro e w' ⟨rfl,⟨nd,rfl⟩⟩;refine⟨_,rfl,?_⟩)|(refine fh 28 Tryz.func26 #[.int .u64 t132, .int .u64 a0, .int .u64 a2] rfl ?_;(with_reducible refine(aV.calls k t132 a0 a2 t133 _ A9.out).mono ?_);rintro e w' ⟨rfl,⟨nd,rfl⟩⟩;refine⟨_,rfl,?_⟩))
   go_ret
   exact⟨a8,dk⟩
  ·rw[if_neg c8] at H
   have c8b0:=beq_eq_false_iff_ne.mpr c8
   have c8b1:=bne_iff_ne.mpr c8
   obtain rfl:=Option.some.inj H
   go_enter Tryz.func30,Tryz.ntmps30
   go_wp2_with (first|(refine fh 17 Tryz.func30 #[.int .u64 a0, .int .u64 (IntKind.u64.wrap (Int.tdiv a1 2)), .int .u64 a2] rfl ?_;(with_reducible refine(ih k (by omega) a0 (IntKind.u64.wrap (Int.tdiv a1 2)) a2 t131 _ A6.out).mono ?_);rintro e w' ⟨rfl,⟨nd,rfl⟩⟩;refine⟨_,rfl,?_⟩)|(refine fh 21 Tryz.func26 #[.int .u64 t131, .int .u64 t131, .int .u64 a2] rfl ?_;(with_reducible refine(aV.calls k t131 t131 a2 t132 _ A7.out).mono ?_);rintro e w' ⟨rfl,⟨nd,rfl⟩⟩;refine⟨_,rfl,?_⟩))
   go_ret
   exact⟨a8,dk⟩
end Go.Proofs.YtndkmnjbjlfeaaaGreat.XS
end
section

end
section
namespace Go.Proofs.YtndkmnjbjlfeaaaGreat.XR
open Go.RowKit Go.Proofs.YtndkmnjbjlfeaaaGreat.Given Go.Proofs.YtndkmnjbjlfeaaaGreat.XS Go.Proofs.YtndkmnjbjlfeaaaGreatW.PrintWords Go.Proofs.YtndkmnjbjlfeaaaGreatW.PrintLast Go.Proofs.YtndkmnjbjlfeaaaGreatW.PrintMore
attribute [local go_sem] bU bS ct cr bw bz bP bT
set_option linter.unusedVariables false
set_option linter.unusedSimpArgs false
def a7.l0:Nat→Int→List (dq)→Int→Int→Option (Bool)
 |0,_,_,_,_=>none
 |k+1,x1,x7,x8,x9=>if x9<x8 then(if 0≤x9 then(if x9<(x7.length:Int) then(if((ag x7 x9).f0)=x1 then(some true) else(a7.l0 k x1 x7 x8 (wrap64 (x9+1)))) else(none)) else(none)) else(some false)
def a7.f(k:Nat)(l0:List (dq))(a1:Int):Option (Bool):=a7.l0 k a1 l0 (l0.length:Int) 0
set_option maxHeartbeats 8000000 in
set_option maxRecDepth 100000 in
theorem a7.calls(k:Nat)(A0:Option Addr)(c0:Nat)(l0:List (dq))(a1:Int)(r:Bool)(w:World)(hr0:Kd.C ku w A0 l0.length l0)(hc0:l0.length≤c0)(h:a7.f k l0 a1=some r):
  Calls Tryz.prog 148 #[.slice A0 l0.length c0, .int .u64 a1] w fun e w'=>e= .returned (.bool r)∧Below w.heap.size w w':=by
 have hu134:=Tryz.underlying134
 have HR0:=aa.mk hr0
 have HC0:=aa.mk hc0
 clear hr0 hc0
 have HB:=aa.mk (Below.refl w.heap.size w)
 have H:=h;unfold a7.f at H
 clear h
 have H':=aa.mk H
 clear H
 go_enter Tryz.func148,Tryz.ntmps148
 go_wp2
 go_loopg [9] k (fun kq v9 w'=> ∃(x9_1:Int),v9= .int .i64 x9_1∧aa (a7.l0 kq a1 l0 (l0.length:Int) x9_1=some r)∧aa (kq≤k)∧aa (Below w.heap.size w w'))
 case atStart=>exact⟨(0),a8,H',⟨Nat.le_refl _⟩,⟨ak⟩⟩
 case round=>
  clear H'
  obtain⟨x9_1,rfl,HA,HK1,HB⟩:=hrel
  cases gk with
  |zero=>exact absurd HA.out (by simp[a7.l0])
  |succ k1=>
   have H:=HA.out
   clear HA
   simp only[a7.l0] at H
   by_cases c3:x9_1<(l0.length:Int)
   ·rw[if_pos c3] at H
    have c3b0:=decide_eq_true c3
    clear c3
    by_cases c4:0≤x9_1
    ·rw[if_pos c4] at H
     have c4b0:=decide_eq_true c4
     clear c4
     by_cases c5:x9_1<(l0.length:Int)
     ·rw[if_pos c5] at H
      have c5b0:=decide_eq_true c5
      clear c5
      by_cases c6:((ag l0 x9_1).f0)=a1
      ·rw[if_pos c6] at H
       have c6b0:=beq_iff_eq.mpr c6
       have c6b1:=bne_eq_false_iff_eq.mpr c6
       clear c6
       obtain rfl:=Option.some.inj H
       have p101:0≤(x9_1:Int):=of_decide_eq_true (by assumption)
       have q101:x9_1<(l0.length:Int):=of_decide_eq_true (by assumption)
       obtain⟨ad101,A101_2,c101_2,e101,hx101_0,hx101_1,hx101_2,hl101_2,hi101_2⟩:=gS HR0.out x9_1 p101 q101
       cases e101
       replace hx101_0:=dP HB.out hx101_0
       replace hx101_1:=dP HB.out hx101_1
       replace hx101_2:=dP HB.out hx101_2
       have HR101_2:=aa.mk hi101_2
       have HC101_2:=aa.mk hl101_2
       clear hi101_2 hl101_2
       replace p101:=eq_true p101
       replace q101:=eq_true q101
       go_wp2_with (first|((with_reducible refine bk (N:=6) rfl ?_);refine jg 6 #[.int .u64 0, .int .u64 0, .slice none 0 0] 134 ?_;intro gb102 hg w7 hbox hb;have n0_:=aa.mk (ah ak hb);have n1_:=aa.mk (hbox);have n2_:=aa.mk ((by rw[hg];exact(ai ak):w.heap.size≤gb102));have n3_:=aa.mk ((by rw[hg];exact(ai ak):w.heap.size≤gb102));clear HB;have HB:=n0_;have BK102:=n1_;have GW102:=n2_;have GE102:=n3_;clear n0_ n1_ n2_ n3_;clear hb hbox hg;have hcz8_0:=bt BK102.out 0 rfl;have hcz8_1:=bt BK102.out 1 rfl;have hcz8_2:=bt BK102.out 2 rfl;have hfz8_0:=ab BK102.out 0;have hfz8_1:=ab BK102.out 1;have hfz8_2:=ab BK102.out 2))
       go_ret
       exact⟨a8,ak⟩
      ·rw[if_neg c6] at H
       have c6b0:=beq_eq_false_iff_ne.mpr c6
       have c6b1:=bne_iff_ne.mpr c6
       have H':=aa.mk H
       clear H
       have p101:0≤(x9_1:Int):=of_decide_eq_true (by assumption)
       have q101:x9_1<(l0.length:Int):=of_decide_eq_true (by assumption)
       obtain⟨ad101,A101_2,c101_2,e101,hx101_0,hx101_1,hx101_2,hl101_2,hi101_2⟩:=gS HR0.out x9_1 p101 q101
       cases e101
       replace hx101_0:=dP HB.out hx101_0
       replace hx101_1:=dP HB.out hx101_1
       replace hx101_2:=dP HB.out hx101_2
       have HR101_2:=aa.mk hi101_2
       have HC101_2:=aa.mk hl101_2
       clear hi101_2 hl101_2
       replace p101:=eq_true p101
       replace q101:=eq_true q101
       go_wp2_with (first|((with_reducible refine bk (N:=6) rfl ?_);refine jg 6 #[.int .u64 0, .int .u64 0, .slice none 0 0] 134 ?_;intro gb102 hg w9 hbox hb;have n0_:=aa.mk (ah ak hb);have n1_:=aa.mk (hbox);have n2_:=aa.mk ((by rw[hg];exact(ai ak):w.heap.size≤gb102));have n3_:=aa.mk ((by rw[hg];exact(ai ak):w.heap.size≤gb102));clear HB;have HB:=n0_;have BK102:=n1_;have GW102:=n2_;have GE102:=n3_;clear n0_ n1_ n2_ n3_;clear hb hbox hg;have hcz10_0:=bt BK102.out 0 rfl;have hcz10_1:=bt BK102.out 1 rfl;have hcz10_2:=bt BK102.out 2 rfl;have hfz10_0:=ab BK102.out 0;have hfz10_1:=ab BK102.out 1;have hfz10_2:=ab BK102.out 2))
       go_roundg k1
       case measure=>have:=HK1.out;omega
       case rel=>exact⟨(wrap64 (x9_1+1)),a8,H',⟨by have:=HK1.out;omega⟩,⟨ak⟩⟩
     ·rw[if_neg c5] at H
      exact absurd H (by simp)
    ·rw[if_neg c4] at H
     exact absurd H (by simp)
   ·rw[if_neg c3] at H
    have c3b0:=decide_eq_false c3
    clear c3
    obtain rfl:=Option.some.inj H
    go_wp2
    go_ret
    exact⟨a8,ak⟩
mutual
def an.l0:Nat→Int→Int→List (eL)→Int→Int→Option (Int×Bool)
 |0,_,_,_,_,_=>none
 |k+1,x1,x6,x10,x11,x12=>if x12<x11 then(if 0≤x12 then(if x12<(x10.length:Int) then(if((aD x10 x12).f1)<1 then(an.j1 k x1 x6 x10 x11 x12 true ((aD x10 x12).f0) ((aD x10 x12).f1)) else(if((aD x10 x12).f1)>62 then(an.j1 k x1 x6 x10 x11 x12 true ((aD x10 x12).f0) ((aD x10 x12).f1)) else(an.j1 k x1 x6 x10 x11 x12 (decide (((aD x10 x12).f0)<2)) ((aD x10 x12).f0) ((aD x10 x12).f1)))) else(none)) else(none)) else(some (x6,true))
def an.j1:Nat→Int→Int→List (eL)→Int→Int→Bool→Int→Int→Option (Int×Bool)
 |0,_,_,_,_,_,_,_,_=>none
 |k+1,x1,x6,x10,x11,x12,x28,x105000,x105001=>if x28=true then(some (0,false)) else(an.l1 k x1 x6 0 x10 x11 x12 x105000 x105001)
def an.l1:Nat→Int→Int→Int→List (eL)→Int→Int→Int→Int→Option (Int×Bool)
 |0,_,_,_,_,_,_,_,_=>none
 |k+1,x1,x6,x9,x10,x11,x12,x105000,x105001=>if x9<x105001 then(if x105000=0 then(none) else(if x6>(IntKind.u64.wrap (Int.tdiv x1 x105000)) then(some (0,false)) else(an.l1 k x1 (IntKind.u64.wrap (x6*x105000)) (wrap64 (x9+1)) x10 x11 x12 x105000 x105001))) else(an.l0 k x1 x6 x10 x11 (wrap64 (x12+1)))
end
def an.f(k:Nat)(l0:List (eL))(a1:Int):Option (Int×Bool):=an.l0 k a1 1 l0 (l0.length:Int) 0
set_option maxHeartbeats 8000000 in
set_option maxRecDepth 100000 in
theorem an.calls(k:Nat)(A0:Option Addr)(c0:Nat)(l0:List (eL))(a1:Int)(r1:Int)(r2:Bool)(w:World)(hr0:Kd.C pL w A0 l0.length l0)(hc0:l0.length≤c0)(h:an.f k l0 a1=some (r1,r2)):
  Calls Tryz.prog 149 #[.slice A0 l0.length c0, .int .u64 a1] w fun e w'=>e= .returned (.tuple #[.int .u64 r1, .bool r2])∧Below w.heap.size w w':=by
 have hu146:=Tryz.underlying146
 have HR0:=aa.mk hr0
 have HC0:=aa.mk hc0
 clear hr0 hc0
 have HB:=aa.mk (Below.refl w.heap.size w)
 have H:=h;unfold an.f at H
 clear h
 have H':=aa.mk H
 clear H
 go_enter Tryz.func149,Tryz.ntmps149
 go_wp2
 go_loopg [6,12] k (fun kq v6 v12 w'=> ∃(x6_1:Int) (x12_1:Int),v6= .int .u64 x6_1∧v12= .int .i64 x12_1∧aa (an.l0 kq a1 x6_1 l0 (l0.length:Int) x12_1=some (r1,r2))∧aa (kq≤k)∧aa (Below w.heap.size w w'))
 case atStart=>exact⟨(1),(0),a8,a8,H',⟨Nat.le_refl _⟩,⟨ak⟩⟩
 case round=>
  clear H'
  obtain⟨x6_1,x12_1,rfl,rfl,HA,HK1,HB⟩:=hrel
  cases gk with
  |zero=>exact absurd HA.out (by simp[an.l0])
  |succ k1=>
   have H:=HA.out
   clear HA
   simp only[an.l0] at H
   by_cases c3:x12_1<(l0.length:Int)
   ·rw[if_pos c3] at H
    have c3b0:=decide_eq_true c3
    clear c3
    by_cases c4:0≤x12_1
    ·rw[if_pos c4] at H
     have c4b0:=decide_eq_true c4
     clear c4
     by_cases c5:x12_1<(l0.length:Int)
     ·rw[if_pos c5] at H
      have c5b0:=decide_eq_true c5
      clear c5
      have HC6:=aa.mk H
      clear H
      have p103:0≤(x12_1:Int):=of_decide_eq_true (by assumption)
      have q103:x12_1<(l0.length:Int):=of_decide_eq_true (by assumption)
      obtain⟨ad103,e103,hx103_0,hx103_1⟩:=gx HR0.out x12_1 p103 q103
      cases e103
      replace hx103_0:=dP HB.out hx103_0
      replace hx103_1:=dP HB.out hx103_1
      replace p103:=eq_true p103
      replace q103:=eq_true q103
      go_upto_region 5 with(first|((with_reducible refine bk (N:=8) rfl ?_);refine jg 8 #[.int .u64 0, .int .i64 0] 146 ?_;intro gb104 hg w7 hbox hb;have n0_:=aa.mk (ah ak hb);have n1_:=aa.mk (hbox);have n2_:=aa.mk ((by rw[hg];exact(ai ak):w.heap.size≤gb104));have n3_:=aa.mk ((by rw[hg];exact(ai ak):w.heap.size≤gb104));clear HB;have HB:=n0_;have BK104:=n1_;have GW104:=n2_;have GE104:=n3_;clear n0_ n1_ n2_ n3_;clear hb hbox hg;have hcz8_0:=bt BK104.out 0 rfl;have hcz8_1:=bt BK104.out 1 rfl;have hfz8_0:=ab BK104.out 0;have hfz8_1:=ab BK104.out 1))
      (try simp only[Act.put,List.setIfInBounds_toArray,List.set_cons_zero,List.set_cons_succ])
      go_cut [28] (fun v28 wc=> ∃(kq:Nat) (x28_5:Bool),v28= .bool x28_5∧aa (an.j1 kq a1 x6_1 l0 (l0.length:Int) x12_1 x28_5 ((aD l0 x12_1).f0) ((aD l0 x12_1).f1)=some (r1,r2))∧aa (kq≤k1)∧aa (wc.heap[gb104]?=some (.cells #[.int .u64 ((aD l0 x12_1).f0), .int .i64 ((aD l0 x12_1).f1)] 146 (0,0)))∧aa (Below w.heap.size w wc))
      case first=>
       have H:=HC6.out
       clear HC6
       by_cases c9:((aD l0 x12_1).f1)<1
       ·rw[if_pos c9] at H
        have c9b0:=decide_eq_true c9
        clear c9
        (first|rw[c9b0]|(simp only[bp,bQ];rw[c9b0])|skip)
        have H':=aa.mk H
        clear H
        have hcz10_0:=bt BK104.out 0 rfl
        have hcz10_1:=bt BK104.out 1 rfl
        have hfz10_0:=ab BK104.out 0
        have hfz10_1:=ab BK104.out 1
        go_wp2
        go_meet
        case rel=>exact⟨_,(true),a8,H',⟨by have:=HK1.out;first|omega|exact Nat.le_refl _⟩,⟨bC (bC BK104.out 0 _ rfl) 1 _ rfl⟩,⟨ak⟩⟩
       ·rw[if_neg c9] at H
        have c9b0:=decide_eq_false c9
        clear c9
        (first|rw[c9b0]|(simp only[bp,bQ];rw[c9b0])|skip)
        by_cases eW:((aD l0 x12_1).f1)>62
        ·rw[if_pos eW] at H
         have c11b0:=decide_eq_true eW
         clear eW
         have H':=aa.mk H
         clear H
         have hcz12_0:=bt BK104.out 0 rfl
         have hcz12_1:=bt BK104.out 1 rfl
         have hfz12_0:=ab BK104.out 0
         have hfz12_1:=ab BK104.out 1
         go_wp2
         go_meet
         case rel=>exact⟨_,(true),a8,H',⟨by have:=HK1.out;first|omega|exact Nat.le_refl _⟩,⟨bC (bC BK104.out 0 _ rfl) 1 _ rfl⟩,⟨ak⟩⟩
        ·rw[if_neg eW] at H
         have c11b0:=decide_eq_false eW
         clear eW
         have H':=aa.mk H
         clear H
         have hcz13_0:=bt BK104.out 0 rfl
         have hcz13_1:=bt BK104.out 1 rfl
         have hfz13_0:=ab BK104.out 0
         have hfz13_1:=ab BK104.out 1
         go_wp2
         go_meet
         case rel=>exact⟨_,(decide (((aD l0 x12_1).f0)<2)),a8,H',⟨by have:=HK1.out;first|omega|exact Nat.le_refl _⟩,⟨bC (bC BK104.out 0 _ rfl) 1 _ rfl⟩,⟨ak⟩⟩
      case rest=>
       clear HC6
       try clear hx1
       try clear hx10
       try clear hx103_0
       try clear hx103_1
       obtain⟨kq,x28_5,rfl,HA,HJ5,BK104,HB⟩:=hcut
       cases kq with
       |zero=>exact absurd HA.out (by simp[an.j1])
       |succ kj5=>
        have H:=HA.out
        clear HA
        simp only[an.j1] at H
        by_cases fa:x28_5=true
        ·subst fa
         have H1:=H;rw[if_pos rfl] at H1
         clear H
         have H:=H1
         clear H1
         simp only[Option.some.injEq,Prod.mk.injEq] at H
         obtain⟨rfl,rfl⟩:=H
         go_wp2
         go_ret2
         exact⟨a8,ak⟩
        ·replace fa:=Bool.eq_false_iff.mpr fa
         subst fa
         have H1:=H;rw[if_neg (show¬(false=true) by decide)] at H1
         clear H
         have H:=H1
         clear H1
         have H':=aa.mk H
         clear H
         go_wp2
         go_loopg [6,9] kj5 (fun kq v6 v9 w'=> ∃(x6_3:Int) (x9_3:Int),v6= .int .u64 x6_3∧v9= .int .i64 x9_3∧aa (an.l1 kq a1 x6_3 x9_3 l0 (l0.length:Int) x12_1 ((aD l0 x12_1).f0) ((aD l0 x12_1).f1)=some (r1,r2))∧aa (kq≤kj5)∧aa (w'.heap[gb104]?=some (.cells #[.int .u64 ((aD l0 x12_1).f0), .int .i64 ((aD l0 x12_1).f1)] 146 (0,0)))∧aa (Below w.heap.size w w'))
         case atStart=>exact⟨(x6_1),(0),a8,a8,H',⟨Nat.le_refl _⟩,⟨cP BK104.out⟩,⟨ak⟩⟩
         case round=>
          clear H'
          try clear hx1
          try clear hx10
          try clear hx103_0
          try clear hx103_1
          obtain⟨x6_3,x9_3,rfl,rfl,HA,HK3,BK104,HB⟩:=hrel
          cases gk with
          |zero=>exact absurd HA.out (by simp[an.l1])
          |succ k3=>
           have H:=HA.out
           clear HA
           simp only[an.l1] at H
           by_cases iK:x9_3<((aD l0 x12_1).f1)
           ·rw[if_pos iK] at H
            have c15b0:=decide_eq_true iK
            clear iK
            by_cases jx:((aD l0 x12_1).f0)=0
            ·rw[if_pos jx] at H
             exact absurd H (by simp)
            ·rw[if_neg jx] at H
             have c16b0:=beq_eq_false_iff_ne.mpr jx
             have c16b1:=bne_iff_ne.mpr jx
             by_cases gC:x6_3>(IntKind.u64.wrap (Int.tdiv a1 ((aD l0 x12_1).f0)))
             ·rw[if_pos gC] at H
              have c17b0:=decide_eq_true gC
              clear gC
              simp only[Option.some.injEq,Prod.mk.injEq] at H
              obtain⟨rfl,rfl⟩:=H
              have hcz18_0:=bt BK104.out 0 rfl
              have hcz18_1:=bt BK104.out 1 rfl
              have hfz18_0:=ab BK104.out 0
              have hfz18_1:=ab BK104.out 1
              go_wp2
              go_ret2
              exact⟨a8,ak⟩
             ·rw[if_neg gC] at H
              have c17b0:=decide_eq_false gC
              clear gC
              have H':=aa.mk H
              clear H
              have hcz19_0:=bt BK104.out 0 rfl
              have hcz19_1:=bt BK104.out 1 rfl
              have hfz19_0:=ab BK104.out 0
              have hfz19_1:=ab BK104.out 1
              go_wp2
              go_roundg k3
              case measure=>have:=HK1.out;have:=HJ5.out;have:=HK3.out;omega
              case rel=>exact⟨(IntKind.u64.wrap (x6_3*((aD l0 x12_1).f0))),(wrap64 (x9_3+1)),a8,a8,H',⟨by have:=HK1.out;have:=HJ5.out;have:=HK3.out;omega⟩,⟨cP BK104.out⟩,⟨ak⟩⟩
           ·rw[if_neg iK] at H
            have c15b0:=decide_eq_false iK
            clear iK
            have H':=aa.mk H
            clear H
            have hcz20_0:=bt BK104.out 0 rfl
            have hcz20_1:=bt BK104.out 1 rfl
            have hfz20_0:=ab BK104.out 0
            have hfz20_1:=ab BK104.out 1
            go_wp2
            go_roundg k3
            case measure=>have:=HK1.out;have:=HJ5.out;have:=HK3.out;omega
            case rel=>exact⟨(x6_3),(wrap64 (x12_1+1)),a8,a8,H',⟨by have:=HK1.out;have:=HJ5.out;have:=HK3.out;omega⟩,⟨ak⟩⟩
     ·rw[if_neg c5] at H
      exact absurd H (by simp)
    ·rw[if_neg c4] at H
     exact absurd H (by simp)
   ·rw[if_neg c3] at H
    have c3b0:=decide_eq_false c3
    clear c3
    simp only[Option.some.injEq,Prod.mk.injEq] at H
    obtain⟨rfl,rfl⟩:=H
    go_wp2
    go_ret2
    exact⟨a8,ak⟩
end Go.Proofs.YtndkmnjbjlfeaaaGreat.XR
end
section
namespace Go.Proofs.YtndkmnjbjlfeaaaGreat.XR
open Go.RowKit Go.Proofs.YtndkmnjbjlfeaaaGreat.Given Go.Proofs.YtndkmnjbjlfeaaaGreat.XS Go.Proofs.YtndkmnjbjlfeaaaGreatW.PrintWords Go.Proofs.YtndkmnjbjlfeaaaGreatW.PrintLast Go.Proofs.YtndkmnjbjlfeaaaGreatW.PrintMore
attribute [local go_sem] bU bS ct cr bw bz bP bT
set_option linter.unusedVariables false
set_option linter.unusedSimpArgs false
mutual
def ae.j0:Nat→List (dq)→Int→Bool→Int→Int→List (eL)→Option (Bool)
 |0,_,_,_,_,_,_=>none
 |k+1,x0,x1,x43,x107000,x107001,x107002=>if x43=true then(some false) else(if(x107002.length:Int)<1 then(ae.j1 k x0 x1 true x107000 x107001 x107002) else(if(x107002.length:Int)>16 then(ae.j1 k x0 x1 true x107000 x107001 x107002) else(if 0<(x107002.length:Int) then(ae.j1 k x0 x1 (((aD x107002 0).f0) !=2) x107000 x107001 x107002) else(none))))
def ae.j1:Nat→List (dq)→Int→Bool→Int→Int→List (eL)→Option (Bool)
 |0,_,_,_,_,_,_=>none
 |k+1,x0,x1,x61,x107000,x107001,x107002=>if x61=true then(some false) else(ae.l0 k x0 x1 1 x107000 x107001 x107002)
def ae.l0:Nat→List (dq)→Int→Int→Int→Int→List (eL)→Option (Bool)
 |0,_,_,_,_,_,_=>none
 |k+1,x0,x1,x6,x107000,x107001,x107002=>if x6<(x107002.length:Int) then(if 0≤x6 then(if 0≤(wrap64 (x6-1)) then(if(wrap64 (x6-1))<(x107002.length:Int) then(if((aD x107002 x6).f0)≤((aD x107002 (wrap64 (x6-1))).f0) then(ae.j3 k x0 x1 x6 true x107000 x107001 x107002) else(if 0≤x1 then(if x1≤(x0.length:Int) then((a7.f k (x0.take (x1:Int).toNat) ((aD x107002 x6).f0)).bind fun t116=>(ae.j3 k x0 x1 x6 (!t116) x107000 x107001 x107002)) else(none)) else(none))) else(none)) else(none)) else(none)) else((an.f k x107002 (IntKind.u64.wrap (x107000-1))).bind fun bt117=>(if bt117.2=true then(if bt117.1=(IntKind.u64.wrap (x107000-1)) then(if x107001<2 then(ae.j4 k true x107000 x107001 x107002) else(if x107001≥x107000 then(ae.j4 k true x107000 x107001 x107002) else((br.f k x107001 (IntKind.u64.wrap (x107000-1)) x107000).bind fun t119=>(ae.j4 k (t119 !=1) x107000 x107001 x107002)))) else(ae.j4 k true x107000 x107001 x107002)) else(ae.j4 k true x107000 x107001 x107002)))
def ae.j3:Nat→List (dq)→Int→Int→Bool→Int→Int→List (eL)→Option (Bool)
 |0,_,_,_,_,_,_,_=>none
 |k+1,x0,x1,x6,x95,x107000,x107001,x107002=>if x95=true then(some false) else(ae.l0 k x0 x1 (wrap64 (x6+1)) x107000 x107001 x107002)
def ae.j4:Nat→Bool→Int→Int→List (eL)→Option (Bool)
 |0,_,_,_,_=>none
 |k+1,x136,x107000,x107001,x107002=>if x136=true then(some false) else(ae.l1 k x107002 (x107002.length:Int) 0 x107000 x107001 x107002)
def ae.l1:Nat→List (eL)→Int→Int→Int→Int→List (eL)→Option (Bool)
 |0,_,_,_,_,_,_=>none
 |k+1,x138,x139,x140,x107000,x107001,x107002=>if x140<x139 then(if 0≤x140 then(if x140<(x138.length:Int) then(if((aD x138 x140).f0)=0 then(none) else((br.f k x107001 (IntKind.u64.wrap (Int.tdiv (IntKind.u64.wrap (x107000-1)) ((aD x138 x140).f0))) x107000).bind fun t122=>(if t122=1 then(some false) else(ae.l1 k x138 x139 (wrap64 (x140+1)) x107000 x107001 x107002)))) else(none)) else(none)) else(some true)
end
def ae.f(k:Nat)(l0:List (dq))(a1:Int):Option (Bool):=if 0≤a1 then(if a1<(l0.length:Int) then(if(Int.tmod ((ag l0 a1).f0) 2)=0 then(ae.j0 k l0 a1 true ((ag l0 a1).f0) ((ag l0 a1).f1) ((ag l0 a1).f2)) else(if((ag l0 a1).f0)<3 then(ae.j0 k l0 a1 true ((ag l0 a1).f0) ((ag l0 a1).f1) ((ag l0 a1).f2)) else(if((ag l0 a1).f0)>9223372036854775807 then(ae.j0 k l0 a1 true ((ag l0 a1).f0) ((ag l0 a1).f1) ((ag l0 a1).f2)) else(if a1>0 then(if 0≤(wrap64 (a1-1)) then(if(wrap64 (a1-1))<(l0.length:Int) then(ae.j0 k l0 a1 (decide (((ag l0 (wrap64 (a1-1))).f0)≥((ag l0 a1).f0))) ((ag l0 a1).f0) ((ag l0 a1).f1) ((ag l0 a1).f2)) else(none)) else(none)) else(ae.j0 k l0 a1 false ((ag l0 a1).f0) ((ag l0 a1).f1) ((ag l0 a1).f2)))))) else(none)) else(none)
def ae.T9:Bool×List (List Nat×List Nat):=(true,[([],[]),([0],[0]),([],[]),([1,2],[1,2]),([3],[3]),([4],[4]),([],[]),([6],[6]),([],[]),([8],[8]),([7,9],[7,9]),([10],[10]),([11],[11]),([5,12],[5,12]),([13],[13]),([14],[14]),([14],[14]),([15,16,14],[14,15,16]),([14],[14]),([18,14],[14,18]),([14],[14]),([19,20,14],[14,19,20]),([21,14],[14,21]),([22,14],[14,22]),([17,23,14,14],[14,17,23]),([24,14],[14,24]),([14,25],[14,25])])
def ae.B9:List Nat:=[0,1,0,7,15,31,0,64,0,256,960,1984,4032,8191,16383,32767,32767,131071,32767,294911,32767,1867775,3964927,8159231,16777215,33554431,67108863]
theorem ae.wi:fX .any (opsOf Tryz.f122 9)=ae.T9:=by kernel_rfl
theorem ae.pE:fC ae.T9.2 ae.B9=true:=by kernel_rfl
set_option maxHeartbeats 8000000 in
set_option maxRecDepth 100000 in
theorem ae.calls(k:Nat)(A0:Option Addr)(c0:Nat)(l0:List (dq))(a1:Int)(r:Bool)(w:World)(hr0:Kd.C ku w A0 l0.length l0)(hc0:l0.length≤c0)(h:ae.f k l0 a1=some r):
  Calls Tryz.prog 122 #[.slice A0 l0.length c0, .int .i64 a1] w fun e w'=>e= .returned (.bool r)∧Below w.heap.size w w':=by
 have hu134:=Tryz.underlying134
 have hu146:=Tryz.underlying146
 have HR0:=aa.mk hr0
 have HC0:=aa.mk hc0
 clear hr0 hc0
 have HB:=aa.mk (Below.refl w.heap.size w)
 have H:=h;unfold ae.f at H
 clear h
 by_cases c3:0≤a1
 ·rw[if_pos c3] at H
  have c3b0:=decide_eq_true c3
  clear c3
  by_cases c4:a1<(l0.length:Int)
  ·rw[if_pos c4] at H
   have c4b0:=decide_eq_true c4
   clear c4
   have HC5:=aa.mk H
   clear H
   have p105:0≤(a1:Int):=of_decide_eq_true (by assumption)
   have q105:a1<(l0.length:Int):=of_decide_eq_true (by assumption)
   obtain⟨ad105,A105_2,c105_2,e105,hx105_0,hx105_1,hx105_2,hl105_2,hi105_2⟩:=gS HR0.out a1 p105 q105
   cases e105
   have HR105_2:=aa.mk hi105_2
   have HC105_2:=aa.mk hl105_2
   clear hi105_2 hl105_2
   replace p105:=eq_true p105
   replace q105:=eq_true q105
   go_enter Tryz.func122,Tryz.ntmps122
   go_upto_region 2 with(first|((with_reducible refine bk (N:=5) rfl ?_);(try(refine fq (by rfl) ?_;dsimp only));refine jg 5 #[.int .u64 0, .int .u64 0, .slice none 0 0] 134 ?_;intro gb106 hg w6 hbox hb;have n0_:=aa.mk (ah ak hb);have n1_:=aa.mk (hbox);have n2_:=aa.mk ((by rw[hg];exact(ai ak):w.heap.size≤gb106));have n3_:=aa.mk ((by rw[hg];exact(ai ak):w.heap.size≤gb106));clear HB;have HB:=n0_;have BK106:=n1_;have GW106:=n2_;have GE106:=n3_;clear n0_ n1_ n2_ n3_;clear hb hbox hg;have hcz7_0:=bt BK106.out 0 rfl;have hcz7_1:=bt BK106.out 1 rfl;have hcz7_2:=bt BK106.out 2 rfl;have hfz7_0:=ab BK106.out 0;have hfz7_1:=ab BK106.out 1;have hfz7_2:=ab BK106.out 2))
   (try simp only[Act.put,List.setIfInBounds_toArray,List.set_cons_zero,List.set_cons_succ])
   go_cut [43] (fun v43 wc=> ∃(kq:Nat) (x43_4:Bool),v43= .bool x43_4∧aa (ae.j0 kq l0 a1 x43_4 ((ag l0 a1).f0) ((ag l0 a1).f1) ((ag l0 a1).f2)=some r)∧aa (kq≤k)∧aa (wc.heap[gb106]?=some (.cells #[.int .u64 ((ag l0 a1).f0), .int .u64 ((ag l0 a1).f1),(.slice A105_2 ((ag l0 a1).f2).length c105_2)] 134 (0,0)))∧aa (Below w.heap.size w wc))
   case first=>
    have H:=HC5.out
    clear HC5
    by_cases c8:(Int.tmod ((ag l0 a1).f0) 2)=0
    ·rw[if_pos c8] at H
     have c8b0:=beq_iff_eq.mpr c8
     have c8b1:=bne_eq_false_iff_eq.mpr c8
     clear c8
     (first|rw[c8b0]|(simp only[bp,bQ];rw[c8b0])|skip)
     have H':=aa.mk H
     clear H
     try go_wp2
     have n0_:aa ((((w6.setCell ⟨gb106,0,none⟩ (.int .u64 ((ag l0 a1).f0))).setCell ⟨gb106,1,none⟩ (.int .u64 ((ag l0 a1).f1))).setCell ⟨gb106,2,none⟩ (.slice A105_2 ((ag l0 a1).f2).length c105_2)).heap[gb106]?=some (.cells #[.int .u64 ((ag l0 a1).f0), .int .u64 ((ag l0 a1).f1), .slice A105_2 ((ag l0 a1).f2).length c105_2] 134 (0,0))):=⟨bC (bC (bC BK106.out 0 _ rfl) 1 _ rfl) 2 _ rfl⟩
     have n1_:aa (Below w.heap.size w (((w6.setCell ⟨gb106,0,none⟩ (.int .u64 ((ag l0 a1).f0))).setCell ⟨gb106,1,none⟩ (.int .u64 ((ag l0 a1).f1))).setCell ⟨gb106,2,none⟩ (.slice A105_2 ((ag l0 a1).f2).length c105_2))):=⟨ak⟩
     (try clear BK106)
     (try clear HB)
     generalize(((w6.setCell ⟨gb106,0,none⟩ (.int .u64 ((ag l0 a1).f0))).setCell ⟨gb106,1,none⟩ (.int .u64 ((ag l0 a1).f1))).setCell ⟨gb106,2,none⟩ (.slice A105_2 ((ag l0 a1).f2).length c105_2))=w9 at n0_ n1_ ⊢
     have BK106:=n0_
     have HB:=n1_
     clear n0_ n1_
     have hcq0_:w9.cell? ⟨gb106,0,none⟩=some (.int .u64 ((ag l0 a1).f0)):=(aj BK106.out 0).trans rfl
     have hfq0_:=ab BK106.out 0
     have hcq1_:w9.cell? ⟨gb106,1,none⟩=some (.int .u64 ((ag l0 a1).f1)):=(aj BK106.out 1).trans rfl
     have hfq1_:=ab BK106.out 1
     have hcq2_:w9.cell? ⟨gb106,2,none⟩=some (.slice A105_2 ((ag l0 a1).f2).length c105_2):=(aj BK106.out 2).trans rfl
     have hfq2_:=ab BK106.out 2
     go_quiet (fail)
     try go_wp2
     go_meet
     case rel=>exact⟨_,(true),a8,H',⟨by first|omega|exact Nat.le_refl _⟩,⟨cP BK106.out⟩,⟨ak⟩⟩
    ·rw[if_neg c8] at H
     have c8b0:=beq_eq_false_iff_ne.mpr c8
     have c8b1:=bne_iff_ne.mpr c8
     (first|rw[c8b0]|(simp only[bp,bQ];rw[c8b0])|skip)
     by_cases eW:((ag l0 a1).f0)<3
     ·rw[if_pos eW] at H
      have c11b0:=decide_eq_true eW
      clear eW
      have H':=aa.mk H
      clear H
      try go_wp2
      have n0_:aa ((((w6.setCell ⟨gb106,0,none⟩ (.int .u64 ((ag l0 a1).f0))).setCell ⟨gb106,1,none⟩ (.int .u64 ((ag l0 a1).f1))).setCell ⟨gb106,2,none⟩ (.slice A105_2 ((ag l0 a1).f2).length c105_2)).heap[gb106]?=some (.cells #[.int .u64 ((ag l0 a1).f0), .int .u64 ((ag l0 a1).f1), .slice A105_2 ((ag l0 a1).f2).length c105_2] 134 (0,0))):=⟨bC (bC (bC BK106.out 0 _ rfl) 1 _ rfl) 2 _ rfl⟩
      have n1_:aa (Below w.heap.size w (((w6.setCell ⟨gb106,0,none⟩ (.int .u64 ((ag l0 a1).f0))).setCell ⟨gb106,1,none⟩ (.int .u64 ((ag l0 a1).f1))).setCell ⟨gb106,2,none⟩ (.slice A105_2 ((ag l0 a1).f2).length c105_2))):=⟨ak⟩
      (try clear BK106)
      (try clear HB)
      generalize(((w6.setCell ⟨gb106,0,none⟩ (.int .u64 ((ag l0 a1).f0))).setCell ⟨gb106,1,none⟩ (.int .u64 ((ag l0 a1).f1))).setCell ⟨gb106,2,none⟩ (.slice A105_2 ((ag l0 a1).f2).length c105_2))=w12 at n0_ n1_ ⊢
      have BK106:=n0_
      have HB:=n1_
      clear n0_ n1_
      have hcq0_:w12.cell? ⟨gb106,0,none⟩=some (.int .u64 ((ag l0 a1).f0)):=(aj BK106.out 0).trans rfl
      have hfq0_:=ab BK106.out 0
      have hcq1_:w12.cell? ⟨gb106,1,none⟩=some (.int .u64 ((ag l0 a1).f1)):=(aj BK106.out 1).trans rfl
      have hfq1_:=ab BK106.out 1
      have hcq2_:w12.cell? ⟨gb106,2,none⟩=some (.slice A105_2 ((ag l0 a1).f2).length c105_2):=(aj BK106.out 2).trans rfl
      have hfq2_:=ab BK106.out 2
      go_quiet (fail)
      try go_wp2
      go_meet
      case rel=>exact⟨_,(true),a8,H',⟨by first|omega|exact Nat.le_refl _⟩,⟨cP BK106.out⟩,⟨ak⟩⟩
     ·rw[if_neg eW] at H
      have c11b0:=decide_eq_false eW
      clear eW
      by_cases fa:((ag l0 a1).f0)>9223372036854775807
      ·rw[if_pos fa] at H
       have c14b0:=decide_eq_true fa
       clear fa
       have H':=aa.mk H
       clear H
       try go_wp2
       have n0_:aa ((((w6.setCell ⟨gb106,0,none⟩ (.int .u64 ((ag l0 a1).f0))).setCell ⟨gb106,1,none⟩ (.int .u64 ((ag l0 a1).f1))).setCell ⟨gb106,2,none⟩ (.slice A105_2 ((ag l0 a1).f2).length c105_2)).heap[gb106]?=some (.cells #[.int .u64 ((ag l0 a1).f0), .int .u64 ((ag l0 a1).f1), .slice A105_2 ((ag l0 a1).f2).length c105_2] 134 (0,0))):=⟨bC (bC (bC BK106.out 0 _ rfl) 1 _ rfl) 2 _ rfl⟩
       have n1_:aa (Below w.heap.size w (((w6.setCell ⟨gb106,0,none⟩ (.int .u64 ((ag l0 a1).f0))).setCell ⟨gb106,1,none⟩ (.int .u64 ((ag l0 a1).f1))).setCell ⟨gb106,2,none⟩ (.slice A105_2 ((ag l0 a1).f2).length c105_2))):=⟨ak⟩
       (try clear BK106)
       (try clear HB)
       generalize(((w6.setCell ⟨gb106,0,none⟩ (.int .u64 ((ag l0 a1).f0))).setCell ⟨gb106,1,none⟩ (.int .u64 ((ag l0 a1).f1))).setCell ⟨gb106,2,none⟩ (.slice A105_2 ((ag l0 a1).f2).length c105_2))=w15 at n0_ n1_ ⊢
       have BK106:=n0_
       have HB:=n1_
       clear n0_ n1_
       have hcq0_:w15.cell? ⟨gb106,0,none⟩=some (.int .u64 ((ag l0 a1).f0)):=(aj BK106.out 0).trans rfl
       have hfq0_:=ab BK106.out 0
       have hcq1_:w15.cell? ⟨gb106,1,none⟩=some (.int .u64 ((ag l0 a1).f1)):=(aj BK106.out 1).trans rfl
       have hfq1_:=ab BK106.out 1
       have hcq2_:w15.cell? ⟨gb106,2,none⟩=some (.slice A105_2 ((ag l0 a1).f2).length c105_2):=(aj BK106.out 2).trans rfl
       have hfq2_:=ab BK106.out 2
       go_quiet (fail)
       try go_wp2
       go_meet
       case rel=>exact⟨_,(true),a8,H',⟨by first|omega|exact Nat.le_refl _⟩,⟨cP BK106.out⟩,⟨ak⟩⟩
      ·rw[if_neg fa] at H
       have c14b0:=decide_eq_false fa
       clear fa
       by_cases gC:a1>0
       ·rw[if_pos gC] at H
        have c17b0:=decide_eq_true gC
        clear gC
        obtain⟨ji18,hji18⟩: ∃j_:Int,(wrap64 (a1-1))=j_:=⟨_,rfl⟩
        (first|rw[hji18] at H|simp only[hji18] at H)
        have hji18w:(IntKind.i64.wrap (a1-1))=ji18:=(bp _).trans hji18
        by_cases mD:0≤(ji18)
        ·rw[if_pos mD] at H
         have c19b0:=decide_eq_true mD
         clear mD
         by_cases pg:(ji18)<(l0.length:Int)
         ·rw[if_pos pg] at H
          have c20b0:=decide_eq_true pg
          clear pg
          have H':=aa.mk H
          clear H
          try go_wp2
          have n0_:aa ((((w6.setCell ⟨gb106,0,none⟩ (.int .u64 ((ag l0 a1).f0))).setCell ⟨gb106,1,none⟩ (.int .u64 ((ag l0 a1).f1))).setCell ⟨gb106,2,none⟩ (.slice A105_2 ((ag l0 a1).f2).length c105_2)).heap[gb106]?=some (.cells #[.int .u64 ((ag l0 a1).f0), .int .u64 ((ag l0 a1).f1), .slice A105_2 ((ag l0 a1).f2).length c105_2] 134 (0,0))):=⟨bC (bC (bC BK106.out 0 _ rfl) 1 _ rfl) 2 _ rfl⟩
          have n1_:aa (Below w.heap.size w (((w6.setCell ⟨gb106,0,none⟩ (.int .u64 ((ag l0 a1).f0))).setCell ⟨gb106,1,none⟩ (.int .u64 ((ag l0 a1).f1))).setCell ⟨gb106,2,none⟩ (.slice A105_2 ((ag l0 a1).f2).length c105_2))):=⟨ak⟩
          (try clear BK106)
          (try clear HB)
          generalize(((w6.setCell ⟨gb106,0,none⟩ (.int .u64 ((ag l0 a1).f0))).setCell ⟨gb106,1,none⟩ (.int .u64 ((ag l0 a1).f1))).setCell ⟨gb106,2,none⟩ (.slice A105_2 ((ag l0 a1).f2).length c105_2))=w21 at n0_ n1_ ⊢
          have BK106:=n0_
          have HB:=n1_
          clear n0_ n1_
          have p107:0≤((ji18):Int):=of_decide_eq_true (by assumption)
          have q107:(ji18)<(l0.length:Int):=of_decide_eq_true (by assumption)
          obtain⟨ad107,A107_2,c107_2,e107,hx107_0,hx107_1,hx107_2,hl107_2,hi107_2⟩:=gS HR0.out (ji18) p107 q107
          have hw107_2:=hx107_2
          have hw107_1:=hx107_1
          have hw107_0:=hx107_0
          obtain rfl:ad105=ad107:=(by injection e107)
          replace hx107_0:=dP HB.out hx107_0
          replace hx107_1:=dP HB.out hx107_1
          replace hx107_2:=dP HB.out hx107_2
          have HR107_2:=aa.mk hi107_2
          have HC107_2:=aa.mk hl107_2
          clear hi107_2 hl107_2
          replace p107:=eq_true p107
          replace q107:=eq_true q107
          have hcq0_:w21.cell? ⟨gb106,0,none⟩=some (.int .u64 ((ag l0 a1).f0)):=(aj BK106.out 0).trans rfl
          have hfq0_:=ab BK106.out 0
          have hcq1_:w21.cell? ⟨gb106,1,none⟩=some (.int .u64 ((ag l0 a1).f1)):=(aj BK106.out 1).trans rfl
          have hfq1_:=ab BK106.out 1
          have hcq2_:w21.cell? ⟨gb106,2,none⟩=some (.slice A105_2 ((ag l0 a1).f2).length c105_2):=(aj BK106.out 2).trans rfl
          have hfq2_:=ab BK106.out 2
          have hcq3_:w21.cell? (ad105.add (((ji18)).toNat*3))=some (.int .u64 ((ag l0 (ji18)).f0)):=(dP HB.out hw107_0)
          have hcq4_:w21.cell? ⟨(ad105.add (((ji18)).toNat*3)).block,(ad105.add (((ji18)).toNat*3)).off+1,none⟩=some (.int .u64 ((ag l0 (ji18)).f1)):=(dP HB.out hw107_1)
          have hcq5_:w21.cell? ⟨(ad105.add (((ji18)).toNat*3)).block,(ad105.add (((ji18)).toNat*3)).off+2,none⟩=some (.slice A107_2 ((ag l0 (ji18)).f2).length c107_2):=(dP HB.out hw107_2)
          go_quiet (fail)
          try go_wp2
          go_meet
          case rel=>exact⟨_,(decide (((ag l0 (ji18)).f0)≥((ag l0 a1).f0))),(by first|rfl|(simp;done)|(simp only[←hji18]<;>(first|rfl|simp))|(simp[*];done)),H',⟨by first|omega|exact Nat.le_refl _⟩,⟨cP BK106.out⟩,⟨ak⟩⟩
         ·rw[if_neg pg] at H
          exact absurd H (by simp)
        ·rw[if_neg mD] at H
         exact absurd H (by simp)
       ·rw[if_neg gC] at H
        have c17b0:=decide_eq_false gC
        clear gC
        have H':=aa.mk H
        clear H
        try go_wp2
        have n0_:aa ((((w6.setCell ⟨gb106,0,none⟩ (.int .u64 ((ag l0 a1).f0))).setCell ⟨gb106,1,none⟩ (.int .u64 ((ag l0 a1).f1))).setCell ⟨gb106,2,none⟩ (.slice A105_2 ((ag l0 a1).f2).length c105_2)).heap[gb106]?=some (.cells #[.int .u64 ((ag l0 a1).f0), .int .u64 ((ag l0 a1).f1), .slice A105_2 ((ag l0 a1).f2).length c105_2] 134 (0,0))):=⟨bC (bC (bC BK106.out 0 _ rfl) 1 _ rfl) 2 _ rfl⟩
        have n1_:aa (Below w.heap.size w (((w6.setCell ⟨gb106,0,none⟩ (.int .u64 ((ag l0 a1).f0))).setCell ⟨gb106,1,none⟩ (.int .u64 ((ag l0 a1).f1))).setCell ⟨gb106,2,none⟩ (.slice A105_2 ((ag l0 a1).f2).length c105_2))):=⟨ak⟩
        (try clear BK106)
        (try clear HB)
        generalize(((w6.setCell ⟨gb106,0,none⟩ (.int .u64 ((ag l0 a1).f0))).setCell ⟨gb106,1,none⟩ (.int .u64 ((ag l0 a1).f1))).setCell ⟨gb106,2,none⟩ (.slice A105_2 ((ag l0 a1).f2).length c105_2))=w23 at n0_ n1_ ⊢
        have BK106:=n0_
        have HB:=n1_
        clear n0_ n1_
        have hcq0_:w23.cell? ⟨gb106,0,none⟩=some (.int .u64 ((ag l0 a1).f0)):=(aj BK106.out 0).trans rfl
        have hfq0_:=ab BK106.out 0
        have hcq1_:w23.cell? ⟨gb106,1,none⟩=some (.int .u64 ((ag l0 a1).f1)):=(aj BK106.out 1).trans rfl
        have hfq1_:=ab BK106.out 1
        have hcq2_:w23.cell? ⟨gb106,2,none⟩=some (.slice A105_2 ((ag l0 a1).f2).length c105_2):=(aj BK106.out 2).trans rfl
        have hfq2_:=ab BK106.out 2
        go_quiet (fail)
        try go_wp2
        go_meet
        case rel=>exact⟨_,(false),a8,H',⟨by first|omega|exact Nat.le_refl _⟩,⟨cP BK106.out⟩,⟨ak⟩⟩
   case rest=>
    clear HC5
    try clear hx1
    try clear hx10
    try clear hx107_0
    try clear hx107_1
    try clear hx107_2
    obtain⟨kq,x43_4,rfl,HA,HJ4,BK106,HB⟩:=hcut
    cases kq with
    |zero=>exact absurd HA.out (by simp[ae.j0])
    |succ kj4=>
     have H:=HA.out
     clear HA
     simp only[ae.j0] at H
     by_cases kY:x43_4=true
     ·subst kY
      have H1:=H;rw[if_pos rfl] at H1
      clear H
      have H:=H1
      clear H1
      obtain rfl:=Option.some.inj H
      go_wp2
      go_ret
      exact⟨a8,ak⟩
     ·replace kY:=Bool.eq_false_iff.mpr kY
      subst kY
      have H1:=H;rw[if_neg (show¬(false=true) by decide)] at H1
      clear H
      have H:=H1
      clear H1
      have HC26:=aa.mk H
      clear H
      go_upto_region 4 with(fail)
      go_cut [61] (fun v61 wc=> ∃(kq:Nat) (x61_25:Bool),v61= .bool x61_25∧aa (ae.j1 kq l0 a1 x61_25 ((ag l0 a1).f0) ((ag l0 a1).f1) ((ag l0 a1).f2)=some r)∧aa (kq≤kj4)∧aa (wc.heap[gb106]?=some (.cells #[.int .u64 ((ag l0 a1).f0), .int .u64 ((ag l0 a1).f1),(.slice A105_2 ((ag l0 a1).f2).length c105_2)] 134 (0,0)))∧aa (Below w.heap.size w wc))
      case first=>
       have H:=HC26.out
       clear HC26
       by_cases ke:(((ag l0 a1).f2).length:Int)<1
       ·rw[if_pos ke] at H
        have c27b0:=decide_eq_true ke
        have c27b1:decide (((ag l0 a1).f2).length<1)=true:=decide_eq_true (by omega)
        clear ke
        (first|rw[c27b0]|(simp only[bp,bQ];rw[c27b0])|skip)
        have H':=aa.mk H
        clear H
        have hcz28_0:=bt BK106.out 0 rfl
        have hcz28_1:=bt BK106.out 1 rfl
        have hcz28_2:=bt BK106.out 2 rfl
        have hfz28_0:=ab BK106.out 0
        have hfz28_1:=ab BK106.out 1
        have hfz28_2:=ab BK106.out 2
        go_wp2
        go_meet
        case rel=>exact⟨_,(true),a8,H',⟨by have:=HJ4.out;first|omega|exact Nat.le_refl _⟩,⟨cP BK106.out⟩,⟨ak⟩⟩
       ·rw[if_neg ke] at H
        have c27b0:=decide_eq_false ke
        have c27b1:decide (((ag l0 a1).f2).length<1)=false:=decide_eq_false (by omega)
        clear ke
        (first|rw[c27b0]|(simp only[bp,bQ];rw[c27b0])|skip)
        by_cases mo:(((ag l0 a1).f2).length:Int)>16
        ·rw[if_pos mo] at H
         have c29b0:=decide_eq_true mo
         have c29b1:decide (16<((ag l0 a1).f2).length)=true:=decide_eq_true (by omega)
         clear mo
         have H':=aa.mk H
         clear H
         have hcz30_0:=bt BK106.out 0 rfl
         have hcz30_1:=bt BK106.out 1 rfl
         have hcz30_2:=bt BK106.out 2 rfl
         have hfz30_0:=ab BK106.out 0
         have hfz30_1:=ab BK106.out 1
         have hfz30_2:=ab BK106.out 2
         go_wp2
         go_meet
         case rel=>exact⟨_,(true),a8,H',⟨by have:=HJ4.out;first|omega|exact Nat.le_refl _⟩,⟨cP BK106.out⟩,⟨ak⟩⟩
        ·rw[if_neg mo] at H
         have c29b0:=decide_eq_false mo
         have c29b1:decide (16<((ag l0 a1).f2).length)=false:=decide_eq_false (by omega)
         clear mo
         by_cases kv:0<(((ag l0 a1).f2).length:Int)
         ·rw[if_pos kv] at H
          have c31b0:=decide_eq_true kv
          have c31b1:decide (0<((ag l0 a1).f2).length)=true:=decide_eq_true (by omega)
          clear kv
          have H':=aa.mk H
          clear H
          have hcz32_0:=bt BK106.out 0 rfl
          have hcz32_1:=bt BK106.out 1 rfl
          have hcz32_2:=bt BK106.out 2 rfl
          have hfz32_0:=ab BK106.out 0
          have hfz32_1:=ab BK106.out 1
          have hfz32_2:=ab BK106.out 2
          have p108:0≤(0:Int):=(by omega)
          have q108:0<(((ag l0 a1).f2).length:Int):=of_decide_eq_true (by assumption)
          obtain⟨ad108,e108,hx108_0,hx108_1⟩:=gx HR105_2.out 0 p108 q108
          cases e108
          have qi108:(0<((ag l0 a1).f2).length)=True:=eq_true (by omega)
          (try rw[show((0:Int)).toNat=0 from rfl] at hx108_0)
          (try rw[show 0*2=0 from rfl] at hx108_0)
          (try rw[Addr.add_zero'] at hx108_0)
          (try rw[show((0:Int)).toNat=0 from rfl] at hx108_1)
          (try rw[show 0*2=0 from rfl] at hx108_1)
          (try rw[Addr.add_zero'] at hx108_1)
          replace hx108_0:=dP HB.out hx108_0
          replace hx108_1:=dP HB.out hx108_1
          replace p108:=eq_true p108
          replace q108:=eq_true q108
          go_wp2
          go_meet
          case rel=>exact⟨_,((((aD ((ag l0 a1).f2) 0).f0) !=2)),a8,H',⟨by have:=HJ4.out;first|omega|exact Nat.le_refl _⟩,⟨cP BK106.out⟩,⟨ak⟩⟩
         ·rw[if_neg kv] at H
          exact absurd H (by simp)
      case rest=>
       clear HC26
       try clear hx1
       try clear qi1
       try clear hx10
       try clear qi10
       try clear hx107_0
       try clear hx107_1
       try clear hx107_2
       try clear hx108_0
       try clear hx108_1
       obtain⟨kq,x61_25,rfl,HA,HJ25,BK106,HB⟩:=hcut
       cases kq with
       |zero=>exact absurd HA.out (by simp[ae.j1])
       |succ kj25=>
        have H:=HA.out
        clear HA
        simp only[ae.j1] at H
        by_cases c33:x61_25=true
        ·subst c33
         have H1:=H;rw[if_pos rfl] at H1
         clear H
         have H:=H1
         clear H1
         obtain rfl:=Option.some.inj H
         go_wp2
         go_ret
         exact⟨a8,ak⟩
        ·replace c33:=Bool.eq_false_iff.mpr c33
         subst c33
         have H1:=H;rw[if_neg (show¬(false=true) by decide)] at H1
         clear H
         have H:=H1
         clear H1
         have H':=aa.mk H
         clear H
         go_wp2
         go_loopg [6] kj25 (fun kq v6 w'=> ∃(x6_3:Int),v6= .int .i64 x6_3∧aa (ae.l0 kq l0 a1 x6_3 ((ag l0 a1).f0) ((ag l0 a1).f1) ((ag l0 a1).f2)=some r)∧aa (kq≤kj25)∧aa (w'.heap[gb106]?=some (.cells #[.int .u64 ((ag l0 a1).f0), .int .u64 ((ag l0 a1).f1),(.slice A105_2 ((ag l0 a1).f2).length c105_2)] 134 (0,0)))∧aa (Below w.heap.size w w'))
         case atStart=>exact⟨(1),a8,H',⟨Nat.le_refl _⟩,⟨cP BK106.out⟩,⟨ak⟩⟩
         case round=>
          clear H'
          try clear hx1
          try clear qi1
          try clear hx10
          try clear qi10
          try clear hx107_0
          try clear hx107_1
          try clear hx107_2
          try clear hx108_0
          try clear hx108_1
          obtain⟨x6_3,rfl,HA,HK3,BK106,HB⟩:=hrel
          cases gk with
          |zero=>exact absurd HA.out (by simp[ae.l0])
          |succ k3=>
           have H:=HA.out
           clear HA
           simp only[ae.l0] at H
           by_cases c34:x6_3<(((ag l0 a1).f2).length:Int)
           ·rw[if_pos c34] at H
            have c34b0:=decide_eq_true c34
            clear c34
            have HC35:=aa.mk H
            clear H
            have hcz36_0:=bt BK106.out 0 rfl
            have hcz36_1:=bt BK106.out 1 rfl
            have hcz36_2:=bt BK106.out 2 rfl
            have hfz36_0:=ab BK106.out 0
            have hfz36_1:=ab BK106.out 1
            have hfz36_2:=ab BK106.out 2
            go_upto_region 9 with(fail)
            go_cut [95] (fun v95 wc=> ∃(kq:Nat) (x95_34:Bool),v95= .bool x95_34∧aa (ae.j3 kq l0 a1 x6_3 x95_34 ((ag l0 a1).f0) ((ag l0 a1).f1) ((ag l0 a1).f2)=some r)∧aa (kq≤k3)∧aa (wc.heap[gb106]?=some (.cells #[.int .u64 ((ag l0 a1).f0), .int .u64 ((ag l0 a1).f1),(.slice A105_2 ((ag l0 a1).f2).length c105_2)] 134 (0,0)))∧aa (Below w.heap.size w wc))
            case first=>
             have H:=HC35.out
             clear HC35
             by_cases c37:0≤x6_3
             ·rw[if_pos c37] at H
              have c37b0:=decide_eq_true c37
              clear c37
              (first|rw[c37b0]|(simp only[bp,bQ];rw[c37b0])|skip)
              obtain⟨ji38,hji38⟩: ∃j_:Int,(wrap64 (x6_3-1))=j_:=⟨_,rfl⟩
              (first|rw[hji38] at H|simp only[hji38] at H)
              have hji38w:(IntKind.i64.wrap (x6_3-1))=ji38:=(bp _).trans hji38
              by_cases c39:0≤(ji38)
              ·rw[if_pos c39] at H
               have c39b0:=decide_eq_true c39
               clear c39
               by_cases c40:(ji38)<(((ag l0 a1).f2).length:Int)
               ·rw[if_pos c40] at H
                have c40b0:=decide_eq_true c40
                clear c40
                by_cases c41:((aD ((ag l0 a1).f2) x6_3).f0)≤((aD ((ag l0 a1).f2) (ji38)).f0)
                ·rw[if_pos c41] at H
                 have c41b0:=decide_eq_true c41
                 clear c41
                 have H':=aa.mk H
                 clear H
                 try go_wp2
                 have p109:0≤(x6_3:Int):=of_decide_eq_true (by assumption)
                 have q109:x6_3<(((ag l0 a1).f2).length:Int):=of_decide_eq_true (by assumption)
                 obtain⟨ad109,e109,hx109_0,hx109_1⟩:=gx HR105_2.out x6_3 p109 q109
                 have hw109_1:=hx109_1
                 have hw109_0:=hx109_0
                 cases e109
                 replace hx109_0:=dP HB.out hx109_0
                 replace hx109_1:=dP HB.out hx109_1
                 replace p109:=eq_true p109
                 replace q109:=eq_true q109
                 have p110:0≤((ji38):Int):=of_decide_eq_true (by assumption)
                 have q110:(ji38)<(((ag l0 a1).f2).length:Int):=of_decide_eq_true (by assumption)
                 obtain⟨ad110,e110,hx110_0,hx110_1⟩:=gx HR105_2.out (ji38) p110 q110
                 have hw110_1:=hx110_1
                 have hw110_0:=hx110_0
                 obtain rfl:ad109=ad110:=(by injection e110)
                 replace hx110_0:=dP HB.out hx110_0
                 replace hx110_1:=dP HB.out hx110_1
                 replace p110:=eq_true p110
                 replace q110:=eq_true q110
                 have hcq0_:wr.cell? ⟨gb106,0,none⟩=some (.int .u64 ((ag l0 a1).f0)):=(aj BK106.out 0).trans rfl
                 have hfq0_:=ab BK106.out 0
                 have hcq1_:wr.cell? ⟨gb106,1,none⟩=some (.int .u64 ((ag l0 a1).f1)):=(aj BK106.out 1).trans rfl
                 have hfq1_:=ab BK106.out 1
                 have hcq2_:wr.cell? ⟨gb106,2,none⟩=some (.slice (some ad109) ((ag l0 a1).f2).length c105_2):=(aj BK106.out 2).trans rfl
                 have hfq2_:=ab BK106.out 2
                 have hcq3_:wr.cell? (ad109.add ((x6_3).toNat*2))=some (.int .u64 ((aD ((ag l0 a1).f2) x6_3).f0)):=(dP HB.out hw109_0)
                 have hcq4_:wr.cell? ⟨(ad109.add ((x6_3).toNat*2)).block,(ad109.add ((x6_3).toNat*2)).off+1,none⟩=some (.int .i64 ((aD ((ag l0 a1).f2) x6_3).f1)):=(dP HB.out hw109_1)
                 have hcq5_:wr.cell? (ad109.add (((ji38)).toNat*2))=some (.int .u64 ((aD ((ag l0 a1).f2) (ji38)).f0)):=(dP HB.out hw110_0)
                 have hcq6_:wr.cell? ⟨(ad109.add (((ji38)).toNat*2)).block,(ad109.add (((ji38)).toNat*2)).off+1,none⟩=some (.int .i64 ((aD ((ag l0 a1).f2) (ji38)).f1)):=(dP HB.out hw110_1)
                 go_quiet (fail)
                 try go_wp2
                 go_meet
                 case rel=>exact⟨_,(true),a8,H',⟨by have:=HJ4.out;have:=HJ25.out;have:=HK3.out;first|omega|exact Nat.le_refl _⟩,⟨cP BK106.out⟩,⟨ak⟩⟩
                ·rw[if_neg c41] at H
                 have c41b0:=decide_eq_false c41
                 clear c41
                 by_cases c43:0≤a1
                 ·rw[if_pos c43] at H
                  have c43b0:=eq_true c43
                  have c43b1:=decide_eq_true c43
                  clear c43
                  by_cases c44:a1≤(l0.length:Int)
                  ·rw[if_pos c44] at H
                   have c44b0:=eq_true c44
                   have c44b1:=decide_eq_true c44
                   clear c44
                   obtain⟨y111,hy111⟩: ∃y_:List (dq),y_=(l0.take (a1:Int).toNat):=⟨_,rfl⟩
                   replace H:((a7.f k3 y111 ((aD ((ag l0 a1).f2) x6_3).f0)).bind fun t116=>(ae.j3 k3 l0 a1 x6_3 (!t116) ((ag l0 a1).f0) ((ag l0 a1).f1) ((ag l0 a1).f2)))=some r:=by first|(rw[hy111];with_reducible exact H)|(have H2_:=(Option.bind_some _ _).symm.trans H;rw[hy111];with_reducible exact H2_)|(have H2_:=(Option.bind_some _ _).symm.trans H;with_reducible exact H2_)|with_reducible exact H|(rw[hy111];exact H)|exact H
                   have Ny111:=aa.mk hy111
                   clear hy111
                   replace H:=Option.bind_eq_some_iff.mp H
                   obtain⟨t116,A450,H⟩:=H
                   (try dsimp only at H)
                   have A45:=aa.mk A450
                   clear A450
                   have H':=aa.mk H
                   clear H
                   try go_wp2
                   have n0_:=aa.mk (bG BK106.out)
                   have n1_:=aa.mk (bs HB.out)
                   clear BK106
                   clear HB
                   have BK106:=n0_
                   have HB:=n1_
                   clear n0_ n1_
                   have p109:0≤(x6_3:Int):=of_decide_eq_true (by assumption)
                   have q109:x6_3<(((ag l0 a1).f2).length:Int):=of_decide_eq_true (by assumption)
                   obtain⟨ad109,e109,hx109_0,hx109_1⟩:=gx HR105_2.out x6_3 p109 q109
                   have hw109_1:=hx109_1
                   have hw109_0:=hx109_0
                   cases e109
                   replace hx109_0:=dP HB.out hx109_0
                   replace hx109_1:=dP HB.out hx109_1
                   replace p109:=eq_true p109
                   replace q109:=eq_true q109
                   have p110:0≤((ji38):Int):=of_decide_eq_true (by assumption)
                   have q110:(ji38)<(((ag l0 a1).f2).length:Int):=of_decide_eq_true (by assumption)
                   obtain⟨ad110,e110,hx110_0,hx110_1⟩:=gx HR105_2.out (ji38) p110 q110
                   have hw110_1:=hx110_1
                   have hw110_0:=hx110_0
                   obtain rfl:ad109=ad110:=(by injection e110)
                   replace hx110_0:=dP HB.out hx110_0
                   replace hx110_1:=dP HB.out hx110_1
                   replace p110:=eq_true p110
                   replace q110:=eq_true q110
                   have q47:(a1:Int)≤((l0.length:Int):Int):=of_decide_eq_true (by assumption)
                   obtain⟨i047,hi047,_,hsz47,_⟩:=info_parts xC
                   have hroom47:l0.length≤c0:=HC0.out
                   have hC47:Kd.C ku _ (some ad105) l0.length l0:=HR0.out
                   have hcut47:=qR (P:=Tryz.prog) 23 134 .i64 Tryz.underlying23 hi047 (some ad105) l0.length c0 a1 (of_decide_eq_true (by assumption)) q47 hroom47
                   have hr47:=Kd.rR (m:=(a1:Int).toNat) hC47 (by omega)
                   have hy47:y111.length=(a1:Int).toNat:=(by rw[Ny111.out,List.length_take];omega)
                   rw[←Ny111.out] at hr47
                   rw[←hy47] at hcut47
                   have HR114:=aa.mk hr47
                   have HC114:=aa.mk (show y111.length≤c0 from by omega)
                   clear hr47 hC47 hroom47 hi047 hsz47
                   have KY47:=aa.mk hy47
                   clear hy47
                   replace q47:=eq_true q47
                   have p115:0≤(x6_3:Int):=of_decide_eq_true (by assumption)
                   have q115:x6_3<(((ag l0 a1).f2).length:Int):=of_decide_eq_true (by assumption)
                   obtain⟨ad115,e115,hx115_0,hx115_1⟩:=gx HR105_2.out x6_3 p115 q115
                   have hw115_1:=hx115_1
                   have hw115_0:=hx115_0
                   obtain rfl:ad109=ad115:=(by injection e115)
                   replace hx115_0:=dP HB.out hx115_0
                   replace hx115_1:=dP HB.out hx115_1
                   replace p115:=eq_true p115
                   replace q115:=eq_true q115
                   refine fF (n:=27) (S:=fun w'=>w'.cell? ⟨gb106,0,none⟩=some (.int .u64 ((ag l0 a1).f0))∧w'.cell? ⟨gb106,1,none⟩=some (.int .u64 ((ag l0 a1).f1))∧w'.cell? ⟨gb106,2,none⟩=some (.slice (some ad109) ((ag l0 a1).f2).length c105_2)∧w'.cell? (ad109.add ((x6_3).toNat*2))=some (.int .u64 ((aD ((ag l0 a1).f2) x6_3).f0))∧w'.cell? ⟨(ad109.add ((x6_3).toNat*2)).block,(ad109.add ((x6_3).toNat*2)).off+1,none⟩=some (.int .i64 ((aD ((ag l0 a1).f2) x6_3).f1))∧w'.cell? (ad109.add (((ji38)).toNat*2))=some (.int .u64 ((aD ((ag l0 a1).f2) (ji38)).f0))∧w'.cell? ⟨(ad109.add (((ji38)).toNat*2)).block,(ad109.add (((ji38)).toNat*2)).off+1,none⟩=some (.int .i64 ((aD ((ag l0 a1).f2) (ji38)).f1))∧w'.cell? (ad109.add ((x6_3).toNat*2))=some (.int .u64 ((aD ((ag l0 a1).f2) x6_3).f0))∧w'.cell? ⟨(ad109.add ((x6_3).toNat*2)).block,(ad109.add ((x6_3).toNat*2)).off+1,none⟩=some (.int .i64 ((aD ((ag l0 a1).f2) x6_3).f1))) (ds:=[]) #[false,false,false,false,false,false,false,false,false,false,false,false,false,false,false,false,false,false,false,false,false,false,false,false,false,false,false] (by kernel_rfl) rfl rfl ⟨(aj BK106.out 0).trans rfl,(aj BK106.out 1).trans rfl,(aj BK106.out 2).trans rfl,(dP HB.out hw109_0),(dP HB.out hw109_1),(dP HB.out hw110_0),(dP HB.out hw110_1),(dP HB.out hw115_0),(dP HB.out hw115_1)⟩ (fun hHeld=>?_);refine dV ae.wi ae.pE (fun HT_ HW_=>?_)
                   generalize wr.drew=w46 at BK106 HB HR114 hx109_0 hx109_1 hx110_0 hx110_1 hx115_0 hx115_1 hHeld ⊢
                   refine dd 0 69 HT_ rfl rfl ?_
                   refine dd 2 71 HT_ rfl rfl ?_
                   refine dd 6 75 HT_ rfl rfl ?_
                   refine dd 8 77 HT_ rfl rfl ?_
                   refine dd 9 78 HT_ rfl rfl ?_
                   refine jk 1 70 (ch HT_.out HW_.out (by kernel_rfl)) hHeld (by rintro w' ⟨s0,s1,s2,s3,s4,s5,s6,s7,s8⟩;go_simp;with_reducible rfl) rfl rfl ?_
                   refine dd 3 72 HT_ rfl rfl ?_
                   refine dd 4 73 HT_ rfl rfl ?_
                   refine jk 5 74 (ch HT_.out HW_.out (by kernel_rfl)) hHeld (by rintro w' ⟨s0,s1,s2,s3,s4,s5,s6,s7,s8⟩;go_simp;with_reducible rfl) rfl rfl ?_
                   refine jk 7 76 (ch HT_.out HW_.out (by kernel_rfl)) hHeld (by rintro w' ⟨s0,s1,s2,s3,s4,s5,s6,s7,s8⟩;go_simp;with_reducible rfl) rfl rfl ?_
                   refine dd 10 79 HT_ rfl rfl ?_
                   refine dd 11 80 HT_ rfl rfl ?_
                   refine jk 12 81 (ch HT_.out HW_.out (by kernel_rfl)) hHeld (by rintro w' ⟨s0,s1,s2,s3,s4,s5,s6,s7,s8⟩;go_simp;with_reducible rfl) rfl rfl ?_
                   refine dd 13 82 HT_ rfl rfl ?_
                   refine dd 14 83 HT_ rfl rfl ?_
                   refine dd 15 84 HT_ rfl rfl ?_
                   refine dd 16 85 HT_ rfl rfl ?_
                   refine dd 17 86 HT_ rfl rfl ?_
                   refine dd 18 87 HT_ rfl rfl ?_
                   refine dd 20 89 HT_ rfl rfl ?_
                   refine jk 19 88 (ch HT_.out HW_.out (by kernel_rfl)) hHeld (by rintro w' ⟨s0,s1,s2,s3,s4,s5,s6,s7,s8⟩;go_simp;with_reducible rfl) rfl rfl ?_
                   refine dd 21 90 HT_ rfl rfl ?_
                   refine dd 22 91 HT_ rfl rfl ?_
                   refine jk 23 92 (ch HT_.out HW_.out (by kernel_rfl)) hHeld (by rintro w' ⟨s0,s1,s2,s3,s4,s5,s6,s7,s8⟩;go_simp;with_reducible rfl) rfl rfl ?_
                   refine jz (i:=24) (N:=some 93) #[true,true,true,true,true,true,true,true,true,true,true,true,true,true,true,true,true,true,true,true,true,true,true,true,true,false,false] rfl rfl (eT HT_.out (by kernel_rfl)) (by decide) (fun K hK=>?_)
                   refine gB Tryz.func148 (by kernel_rfl) rfl #[.slice (some ad105) y111.length c0, .int .u64 ((aD ((ag l0 a1).f2) x6_3).f0)] (by rfl) rfl rfl za ?_
                   with_reducible refine(a7.calls k3 _ _ y111 ((aD ((ag l0 a1).f2) x6_3).f0) t116 _ ?side1 ?side2 A45.out).mono ?_
                   (case side1=>exact cw (Kd.bu HR114.out HB.out))
                   (case side2=>exact HC114.out)
                   rintro e w48 ⟨rfl,hb⟩
                   refine⟨_,rfl,?_⟩
                   have n0_:=aa.mk (aU BK106.out hb)
                   have n1_:=aa.mk (ah ak hb)
                   clear BK106
                   clear HB
                   have BK106:=n0_
                   have HB:=n1_
                   clear n0_ n1_
                   (try clear hb)
                   (try clear hb2)
                   (try clear hk)
                   (try clear hi)
                   refine hK.out _ _ ⟨(aj BK106.out 0).trans rfl,(aj BK106.out 1).trans rfl,(aj BK106.out 2).trans rfl,(dP HB.out hw109_0),(dP HB.out hw109_1),(dP HB.out hw110_0),(dP HB.out hw110_1),(dP HB.out hw115_0),(dP HB.out hw115_1)⟩ (fun hHeld=>?_)
                   clear hK K
                   refine qK ?_
                   refine dd 25 94 HT_ rfl rfl ?_
                   refine dd 26 95 HT_ rfl rfl ?_
                   refine gQ (fA HT_.out (by kernel_rfl)) ?_
                   try go_wp2
                   go_meet
                   case rel=>exact⟨_,(!t116),a8,H',⟨by have:=HJ4.out;have:=HJ25.out;have:=HK3.out;first|omega|exact Nat.le_refl _⟩,⟨cP BK106.out⟩,⟨ak⟩⟩
                  ·rw[if_neg c44] at H
                   exact absurd H (by simp)
                 ·rw[if_neg c43] at H
                  exact absurd H (by simp)
               ·rw[if_neg c40] at H
                exact absurd H (by simp)
              ·rw[if_neg c39] at H
               exact absurd H (by simp)
             ·rw[if_neg c37] at H
              exact absurd H (by simp)
            case rest=>
             clear HC35
             try clear hx1
             try clear hx10
             try clear hx11
             try clear hx107_0
             try clear hx107_1
             try clear hx107_2
             try clear hx108_0
             try clear hx108_1
             try clear hx109_0
             try clear hx109_1
             try clear hx110_0
             try clear hx110_1
             try clear hx115_0
             try clear hx115_1
             obtain⟨kq,x95_34,rfl,HA,HJ34,BK106,HB⟩:=hcut
             cases kq with
             |zero=>exact absurd HA.out (by simp[ae.j3])
             |succ kj34=>
              have H:=HA.out
              clear HA
              simp only[ae.j3] at H
              by_cases c49:x95_34=true
              ·subst c49
               have H1:=H;rw[if_pos rfl] at H1
               clear H
               have H:=H1
               clear H1
               obtain rfl:=Option.some.inj H
               go_wp2
               go_ret
               exact⟨a8,ak⟩
              ·replace c49:=Bool.eq_false_iff.mpr c49
               subst c49
               have H1:=H;rw[if_neg (show¬(false=true) by decide)] at H1
               clear H
               have H:=H1
               clear H1
               have H':=aa.mk H
               clear H
               go_wp2
               go_roundg kj34
               case measure=>have:=HJ4.out;have:=HJ25.out;have:=HK3.out;have:=HJ34.out;omega
               case rel=>exact⟨(wrap64 (x6_3+1)),a8,H',⟨by have:=HJ4.out;have:=HJ25.out;have:=HK3.out;have:=HJ34.out;omega⟩,⟨cP BK106.out⟩,⟨ak⟩⟩
           ·rw[if_neg c34] at H
            have c34b0:=decide_eq_false c34
            clear c34
            replace H:=Option.bind_eq_some_iff.mp H
            obtain⟨⟨t117,t118⟩,A500,H⟩:=H
            (try dsimp only at H)
            have A50:=aa.mk A500
            clear A500
            have HC51:=aa.mk H
            clear H
            have hcz52_0:=bt BK106.out 0 rfl
            have hcz52_1:=bt BK106.out 1 rfl
            have hcz52_2:=bt BK106.out 2 rfl
            have hfz52_0:=ab BK106.out 0
            have hfz52_1:=ab BK106.out 1
            have hfz52_2:=ab BK106.out 2
            go_upto_region 12 with(first|(refine fh 102 Tryz.func149 #[.slice A105_2 ((ag l0 a1).f2).length c105_2, .int .u64 (IntKind.u64.wrap (((ag l0 a1).f0)-1))] rfl ?_;(with_reducible refine(an.calls k3 _ _ ((ag l0 a1).f2) (IntKind.u64.wrap (((ag l0 a1).f0)-1)) t117 t118 _ ?side1 ?side2 A50.out).mono ?_);(case side1=>exact cw (Kd.bu HR105_2.out HB.out));(case side2=>exact HC105_2.out);rintro e w53 ⟨rfl,hb⟩;refine⟨_,rfl,?_⟩;have n0_:=aa.mk (aU BK106.out hb);have n1_:=aa.mk (ah ak hb);clear BK106;clear HB;have BK106:=n0_;have HB:=n1_;clear n0_ n1_))
            (try simp only[Act.put,List.setIfInBounds_toArray,List.set_cons_zero,List.set_cons_succ])
            go_cut [136] (fun v136 wc=> ∃(kq:Nat) (x136_50:Bool),v136= .bool x136_50∧aa (ae.j4 kq x136_50 ((ag l0 a1).f0) ((ag l0 a1).f1) ((ag l0 a1).f2)=some r)∧aa (kq≤k3)∧aa (wc.heap[gb106]?=some (.cells #[.int .u64 ((ag l0 a1).f0), .int .u64 ((ag l0 a1).f1),(.slice A105_2 ((ag l0 a1).f2).length c105_2)] 134 (0,0)))∧aa (Below w.heap.size w wc))
            case first=>
             have H:=HC51.out
             clear HC51
             by_cases c54:t118=true
             ·subst c54
              have H1:=H;rw[if_pos rfl] at H1
              clear H
              have H:=H1
              clear H1
              by_cases c55:t117=(IntKind.u64.wrap (((ag l0 a1).f0)-1))
              ·rw[if_pos c55] at H
               have c55b0:=beq_iff_eq.mpr c55
               have c55b1:=bne_eq_false_iff_eq.mpr c55
               clear c55
               (first|rw[c55b0]|(simp only[bp,bQ];rw[c55b0])|skip)
               by_cases c56:((ag l0 a1).f1)<2
               ·rw[if_pos c56] at H
                have c56b0:=decide_eq_true c56
                clear c56
                have H':=aa.mk H
                clear H
                have hcz57_0:=bt BK106.out 0 rfl
                have hcz57_1:=bt BK106.out 1 rfl
                have hcz57_2:=bt BK106.out 2 rfl
                have hfz57_0:=ab BK106.out 0
                have hfz57_1:=ab BK106.out 1
                have hfz57_2:=ab BK106.out 2
                go_wp2
                go_meet
                case rel=>exact⟨_,(true),a8,H',⟨by have:=HJ4.out;have:=HJ25.out;have:=HK3.out;first|omega|exact Nat.le_refl _⟩,⟨cP BK106.out⟩,⟨ak⟩⟩
               ·rw[if_neg c56] at H
                have c56b0:=decide_eq_false c56
                clear c56
                by_cases c58:((ag l0 a1).f1)≥((ag l0 a1).f0)
                ·rw[if_pos c58] at H
                 have c58b0:=decide_eq_true c58
                 clear c58
                 have H':=aa.mk H
                 clear H
                 have hcz59_0:=bt BK106.out 0 rfl
                 have hcz59_1:=bt BK106.out 1 rfl
                 have hcz59_2:=bt BK106.out 2 rfl
                 have hfz59_0:=ab BK106.out 0
                 have hfz59_1:=ab BK106.out 1
                 have hfz59_2:=ab BK106.out 2
                 go_wp2
                 go_meet
                 case rel=>exact⟨_,(true),a8,H',⟨by have:=HJ4.out;have:=HJ25.out;have:=HK3.out;first|omega|exact Nat.le_refl _⟩,⟨cP BK106.out⟩,⟨ak⟩⟩
                ·rw[if_neg c58] at H
                 have c58b0:=decide_eq_false c58
                 clear c58
                 replace H:=Option.bind_eq_some_iff.mp H
                 obtain⟨t119,A600,H⟩:=H
                 (try dsimp only at H)
                 have A60:=aa.mk A600
                 clear A600
                 have H':=aa.mk H
                 clear H
                 have hcz61_0:=bt BK106.out 0 rfl
                 have hcz61_1:=bt BK106.out 1 rfl
                 have hcz61_2:=bt BK106.out 2 rfl
                 have hfz61_0:=ab BK106.out 0
                 have hfz61_1:=ab BK106.out 1
                 have hfz61_2:=ab BK106.out 2
                 go_wp2_with (first|(go_at_call 30;(with_reducible refine(br.calls k3 ((ag l0 a1).f1) (IntKind.u64.wrap (((ag l0 a1).f0)-1)) ((ag l0 a1).f0) t119 _ A60.out).mono ?_);rintro e w' ⟨rfl,⟨nd,rfl⟩⟩))
                 go_meet
                 case rel=>exact⟨_,((t119 !=1)),a8,H',⟨by have:=HJ4.out;have:=HJ25.out;have:=HK3.out;first|omega|exact Nat.le_refl _⟩,⟨cP BK106.out⟩,⟨ak⟩⟩
              ·rw[if_neg c55] at H
               have c55b0:=beq_eq_false_iff_ne.mpr c55
               have c55b1:=bne_iff_ne.mpr c55
               (first|rw[c55b0]|(simp only[bp,bQ];rw[c55b0])|skip)
               have H':=aa.mk H
               clear H
               have hcz62_0:=bt BK106.out 0 rfl
               have hcz62_1:=bt BK106.out 1 rfl
               have hcz62_2:=bt BK106.out 2 rfl
               have hfz62_0:=ab BK106.out 0
               have hfz62_1:=ab BK106.out 1
               have hfz62_2:=ab BK106.out 2
               go_wp2
               go_meet
               case rel=>exact⟨_,(true),a8,H',⟨by have:=HJ4.out;have:=HJ25.out;have:=HK3.out;first|omega|exact Nat.le_refl _⟩,⟨cP BK106.out⟩,⟨ak⟩⟩
             ·replace c54:=Bool.eq_false_iff.mpr c54
              subst c54
              have H1:=H;rw[if_neg (show¬(false=true) by decide)] at H1
              clear H
              have H:=H1
              clear H1
              have H':=aa.mk H
              clear H
              go_wp2
              go_meet
              case rel=>exact⟨_,(true),a8,H',⟨by have:=HJ4.out;have:=HJ25.out;have:=HK3.out;first|omega|exact Nat.le_refl _⟩,⟨cP BK106.out⟩,⟨ak⟩⟩
            case rest=>
             clear HC51
             try clear hx1
             try clear hx10
             try clear hx11
             try clear hx107_0
             try clear hx107_1
             try clear hx107_2
             try clear hx108_0
             try clear hx108_1
             try clear hx109_0
             try clear hx109_1
             try clear hx110_0
             try clear hx110_1
             try clear hx115_0
             try clear hx115_1
             obtain⟨kq,x136_50,rfl,HA,HJ50,BK106,HB⟩:=hcut
             cases kq with
             |zero=>exact absurd HA.out (by simp[ae.j4])
             |succ kj50=>
              have H:=HA.out
              clear HA
              simp only[ae.j4] at H
              by_cases c63:x136_50=true
              ·subst c63
               have H1:=H;rw[if_pos rfl] at H1
               clear H
               have H:=H1
               clear H1
               obtain rfl:=Option.some.inj H
               go_wp2
               go_ret
               exact⟨a8,ak⟩
              ·replace c63:=Bool.eq_false_iff.mpr c63
               subst c63
               have H1:=H;rw[if_neg (show¬(false=true) by decide)] at H1
               clear H
               have H:=H1
               clear H1
               have H':=aa.mk H
               clear H
               have hcz64_0:=bt BK106.out 0 rfl
               have hcz64_1:=bt BK106.out 1 rfl
               have hcz64_2:=bt BK106.out 2 rfl
               have hfz64_0:=ab BK106.out 0
               have hfz64_1:=ab BK106.out 1
               have hfz64_2:=ab BK106.out 2
               go_wp2
               go_loopg [140] kj50 (fun kq v140 w'=> ∃(x140_5:Int),v140= .int .i64 x140_5∧aa (ae.l1 kq ((ag l0 a1).f2) (((ag l0 a1).f2).length:Int) x140_5 ((ag l0 a1).f0) ((ag l0 a1).f1) ((ag l0 a1).f2)=some r)∧aa (kq≤kj50)∧aa (w'.heap[gb106]?=some (.cells #[.int .u64 ((ag l0 a1).f0), .int .u64 ((ag l0 a1).f1),(.slice A105_2 ((ag l0 a1).f2).length c105_2)] 134 (0,0)))∧aa (Below w.heap.size w w'))
               case atStart=>exact⟨(0),a8,H',⟨Nat.le_refl _⟩,⟨cP BK106.out⟩,⟨ak⟩⟩
               case round=>
                clear H'
                try clear hx1
                try clear hx10
                try clear hx11
                try clear hx107_0
                try clear hx107_1
                try clear hx107_2
                try clear hx108_0
                try clear hx108_1
                try clear hx109_0
                try clear hx109_1
                try clear hx110_0
                try clear hx110_1
                try clear hx115_0
                try clear hx115_1
                obtain⟨x140_5,rfl,HA,HK5,BK106,HB⟩:=hrel
                cases gk with
                |zero=>exact absurd HA.out (by simp[ae.l1])
                |succ k5=>
                 have H:=HA.out
                 clear HA
                 simp only[ae.l1] at H
                 by_cases c65:x140_5<(((ag l0 a1).f2).length:Int)
                 ·rw[if_pos c65] at H
                  have c65b0:=decide_eq_true c65
                  clear c65
                  by_cases c66:0≤x140_5
                  ·rw[if_pos c66] at H
                   have c66b0:=decide_eq_true c66
                   clear c66
                   by_cases c67:x140_5<(((ag l0 a1).f2).length:Int)
                   ·rw[if_pos c67] at H
                    have c67b0:=decide_eq_true c67
                    clear c67
                    by_cases c68:((aD ((ag l0 a1).f2) x140_5).f0)=0
                    ·rw[if_pos c68] at H
                     exact absurd H (by simp)
                    ·rw[if_neg c68] at H
                     have c68b0:=beq_eq_false_iff_ne.mpr c68
                     have c68b1:=bne_iff_ne.mpr c68
                     replace H:=Option.bind_eq_some_iff.mp H
                     obtain⟨t122,A690,H⟩:=H
                     (try dsimp only at H)
                     have A69:=aa.mk A690
                     clear A690
                     by_cases c70:t122=1
                     ·rw[if_pos c70] at H
                      have c70b0:=beq_iff_eq.mpr c70
                      have c70b1:=bne_eq_false_iff_eq.mpr c70
                      clear c70
                      obtain rfl:=Option.some.inj H
                      have p120:0≤(x140_5:Int):=of_decide_eq_true (by assumption)
                      have q120:x140_5<(((ag l0 a1).f2).length:Int):=of_decide_eq_true (by assumption)
                      obtain⟨ad120,e120,hx120_0,hx120_1⟩:=gx HR105_2.out x140_5 p120 q120
                      cases e120
                      replace hx120_0:=dP HB.out hx120_0
                      replace hx120_1:=dP HB.out hx120_1
                      replace p120:=eq_true p120
                      replace q120:=eq_true q120
                      try go_wp2_with (first|((with_reducible refine bk (N:=10) rfl ?_);(try(refine fq (by rfl) ?_;dsimp only));refine jg 10 #[.int .u64 0, .int .i64 0] 146 ?_;intro gb121 hg w71 hbox hb;have n0_:=aa.mk (aU BK106.out hb);have n1_:=aa.mk (ah ak hb);have n2_:=aa.mk (hbox);have n3_:=aa.mk ((by rw[hg];exact(ai ak):w.heap.size≤gb121));have n4_:=aa.mk ((by rw[hg];exact(ai ak):w.heap.size≤gb121));have n5_:=aa.mk ((by rw[hg];exact Nat.ne_of_lt (de BK106.out):gb106≠gb121));have n6_:=aa.mk ((by rw[hg];exact Nat.ne_of_gt (de BK106.out):gb121≠gb106));clear BK106;clear HB;have BK106:=n0_;have HB:=n1_;have BK121:=n2_;have GW121:=n3_;have GE121:=n4_;have NB106_121:=n5_;have NB121_106:=n6_;clear n0_ n1_ n2_ n3_ n4_ n5_ n6_;clear hb hbox hg;have hnb72:=NB121_106.out;have hnc72:=NB106_121.out;have hcz73_0:=bt BK121.out 0 rfl;have hcz73_1:=bt BK121.out 1 rfl;have hfz73_0:=ab BK121.out 0;have hfz73_1:=ab BK121.out 1))
                      have n0_:aa (((w71.setCell ⟨gb121,0,none⟩ (.int .u64 ((aD ((ag l0 a1).f2) x140_5).f0))).setCell ⟨gb121,1,none⟩ (.int .i64 ((aD ((ag l0 a1).f2) x140_5).f1))).heap[gb106]?=some (.cells #[.int .u64 ((ag l0 a1).f0), .int .u64 ((ag l0 a1).f1), .slice (some ad120) ((ag l0 a1).f2).length c105_2] 134 (0,0))):=⟨dx (dx BK106.out NB106_121.out _) NB106_121.out _⟩
                      have n1_:aa (((w71.setCell ⟨gb121,0,none⟩ (.int .u64 ((aD ((ag l0 a1).f2) x140_5).f0))).setCell ⟨gb121,1,none⟩ (.int .i64 ((aD ((ag l0 a1).f2) x140_5).f1))).heap[gb121]?=some (.cells #[.int .u64 ((aD ((ag l0 a1).f2) x140_5).f0), .int .i64 ((aD ((ag l0 a1).f2) x140_5).f1)] 146 (0,0))):=⟨bC (bC BK121.out 0 _ rfl) 1 _ rfl⟩
                      have n2_:aa (Below w.heap.size w ((w71.setCell ⟨gb121,0,none⟩ (.int .u64 ((aD ((ag l0 a1).f2) x140_5).f0))).setCell ⟨gb121,1,none⟩ (.int .i64 ((aD ((ag l0 a1).f2) x140_5).f1)))):=⟨ak⟩
                      (try clear BK106)
                      (try clear BK121)
                      (try clear HB)
                      generalize((w71.setCell ⟨gb121,0,none⟩ (.int .u64 ((aD ((ag l0 a1).f2) x140_5).f0))).setCell ⟨gb121,1,none⟩ (.int .i64 ((aD ((ag l0 a1).f2) x140_5).f1)))=w74 at n0_ n1_ n2_ ⊢
                      have BK106:=n0_
                      have BK121:=n1_
                      have HB:=n2_
                      clear n0_ n1_ n2_
                      have hcq0_:w74.cell? ⟨gb106,0,none⟩=some (.int .u64 ((ag l0 a1).f0)):=(aj BK106.out 0).trans rfl
                      have hfq0_:=ab BK106.out 0
                      have hcq1_:w74.cell? ⟨gb106,1,none⟩=some (.int .u64 ((ag l0 a1).f1)):=(aj BK106.out 1).trans rfl
                      have hfq1_:=ab BK106.out 1
                      have hcq2_:w74.cell? ⟨gb106,2,none⟩=some (.slice (some ad120) ((ag l0 a1).f2).length c105_2):=(aj BK106.out 2).trans rfl
                      have hfq2_:=ab BK106.out 2
                      have hcq3_:w74.cell? ⟨gb121,0,none⟩=some (.int .u64 ((aD ((ag l0 a1).f2) x140_5).f0)):=(aj BK121.out 0).trans rfl
                      have hfq3_:=ab BK121.out 0
                      have hcq4_:w74.cell? ⟨gb121,1,none⟩=some (.int .i64 ((aD ((ag l0 a1).f2) x140_5).f1)):=(aj BK121.out 1).trans rfl
                      have hfq4_:=ab BK121.out 1
                      go_quiet (first|(go_at_call 30;(with_reducible refine(br.calls k5 ((ag l0 a1).f1) (IntKind.u64.wrap (Int.tdiv (IntKind.u64.wrap (((ag l0 a1).f0)-1)) ((aD ((ag l0 a1).f2) x140_5).f0))) ((ag l0 a1).f0) t122 _ A69.out).mono ?_);rintro e w' ⟨rfl,⟨nd,rfl⟩⟩;(try first|exact qA|exact qB)))
                      try go_wp2
                      go_ret
                      exact⟨a8,ak⟩
                     ·rw[if_neg c70] at H
                      have c70b0:=beq_eq_false_iff_ne.mpr c70
                      have c70b1:=bne_iff_ne.mpr c70
                      have H':=aa.mk H
                      clear H
                      have p120:0≤(x140_5:Int):=of_decide_eq_true (by assumption)
                      have q120:x140_5<(((ag l0 a1).f2).length:Int):=of_decide_eq_true (by assumption)
                      obtain⟨ad120,e120,hx120_0,hx120_1⟩:=gx HR105_2.out x140_5 p120 q120
                      cases e120
                      replace hx120_0:=dP HB.out hx120_0
                      replace hx120_1:=dP HB.out hx120_1
                      replace p120:=eq_true p120
                      replace q120:=eq_true q120
                      try go_wp2_with (first|((with_reducible refine bk (N:=10) rfl ?_);(try(refine fq (by rfl) ?_;dsimp only));refine jg 10 #[.int .u64 0, .int .i64 0] 146 ?_;intro gb121 hg w76 hbox hb;have n0_:=aa.mk (aU BK106.out hb);have n1_:=aa.mk (ah ak hb);have n2_:=aa.mk (hbox);have n3_:=aa.mk ((by rw[hg];exact(ai ak):w.heap.size≤gb121));have n4_:=aa.mk ((by rw[hg];exact(ai ak):w.heap.size≤gb121));have n5_:=aa.mk ((by rw[hg];exact Nat.ne_of_lt (de BK106.out):gb106≠gb121));have n6_:=aa.mk ((by rw[hg];exact Nat.ne_of_gt (de BK106.out):gb121≠gb106));clear BK106;clear HB;have BK106:=n0_;have HB:=n1_;have BK121:=n2_;have GW121:=n3_;have GE121:=n4_;have NB106_121:=n5_;have NB121_106:=n6_;clear n0_ n1_ n2_ n3_ n4_ n5_ n6_;clear hb hbox hg;have hnb77:=NB121_106.out;have hnc77:=NB106_121.out;have hcz78_0:=bt BK121.out 0 rfl;have hcz78_1:=bt BK121.out 1 rfl;have hfz78_0:=ab BK121.out 0;have hfz78_1:=ab BK121.out 1))
                      have n0_:aa (((w76.setCell ⟨gb121,0,none⟩ (.int .u64 ((aD ((ag l0 a1).f2) x140_5).f0))).setCell ⟨gb121,1,none⟩ (.int .i64 ((aD ((ag l0 a1).f2) x140_5).f1))).heap[gb106]?=some (.cells #[.int .u64 ((ag l0 a1).f0), .int .u64 ((ag l0 a1).f1), .slice (some ad120) ((ag l0 a1).f2).length c105_2] 134 (0,0))):=⟨dx (dx BK106.out NB106_121.out _) NB106_121.out _⟩
                      have n1_:aa (((w76.setCell ⟨gb121,0,none⟩ (.int .u64 ((aD ((ag l0 a1).f2) x140_5).f0))).setCell ⟨gb121,1,none⟩ (.int .i64 ((aD ((ag l0 a1).f2) x140_5).f1))).heap[gb121]?=some (.cells #[.int .u64 ((aD ((ag l0 a1).f2) x140_5).f0), .int .i64 ((aD ((ag l0 a1).f2) x140_5).f1)] 146 (0,0))):=⟨bC (bC BK121.out 0 _ rfl) 1 _ rfl⟩
                      have n2_:aa (Below w.heap.size w ((w76.setCell ⟨gb121,0,none⟩ (.int .u64 ((aD ((ag l0 a1).f2) x140_5).f0))).setCell ⟨gb121,1,none⟩ (.int .i64 ((aD ((ag l0 a1).f2) x140_5).f1)))):=⟨ak⟩
                      (try clear BK106)
                      (try clear BK121)
                      (try clear HB)
                      generalize((w76.setCell ⟨gb121,0,none⟩ (.int .u64 ((aD ((ag l0 a1).f2) x140_5).f0))).setCell ⟨gb121,1,none⟩ (.int .i64 ((aD ((ag l0 a1).f2) x140_5).f1)))=w79 at n0_ n1_ n2_ ⊢
                      have BK106:=n0_
                      have BK121:=n1_
                      have HB:=n2_
                      clear n0_ n1_ n2_
                      have hcq0_:w79.cell? ⟨gb106,0,none⟩=some (.int .u64 ((ag l0 a1).f0)):=(aj BK106.out 0).trans rfl
                      have hfq0_:=ab BK106.out 0
                      have hcq1_:w79.cell? ⟨gb106,1,none⟩=some (.int .u64 ((ag l0 a1).f1)):=(aj BK106.out 1).trans rfl
                      have hfq1_:=ab BK106.out 1
                      have hcq2_:w79.cell? ⟨gb106,2,none⟩=some (.slice (some ad120) ((ag l0 a1).f2).length c105_2):=(aj BK106.out 2).trans rfl
                      have hfq2_:=ab BK106.out 2
                      have hcq3_:w79.cell? ⟨gb121,0,none⟩=some (.int .u64 ((aD ((ag l0 a1).f2) x140_5).f0)):=(aj BK121.out 0).trans rfl
                      have hfq3_:=ab BK121.out 0
                      have hcq4_:w79.cell? ⟨gb121,1,none⟩=some (.int .i64 ((aD ((ag l0 a1).f2) x140_5).f1)):=(aj BK121.out 1).trans rfl
                      have hfq4_:=ab BK121.out 1
                      go_quiet (first|(go_at_call 30;(with_reducible refine(br.calls k5 ((ag l0 a1).f1) (IntKind.u64.wrap (Int.tdiv (IntKind.u64.wrap (((ag l0 a1).f0)-1)) ((aD ((ag l0 a1).f2) x140_5).f0))) ((ag l0 a1).f0) t122 _ A69.out).mono ?_);rintro e w' ⟨rfl,⟨nd,rfl⟩⟩;(try first|exact qA|exact qB)))
                      try go_wp2
                      go_roundg k5
                      case measure=>have:=HJ4.out;have:=HJ25.out;have:=HK3.out;have:=HJ50.out;have:=HK5.out;omega
                      case rel=>exact⟨(wrap64 (x140_5+1)),a8,H',⟨by have:=HJ4.out;have:=HJ25.out;have:=HK3.out;have:=HJ50.out;have:=HK5.out;omega⟩,⟨cP BK106.out⟩,⟨ak⟩⟩
                   ·rw[if_neg c67] at H
                    exact absurd H (by simp)
                  ·rw[if_neg c66] at H
                   exact absurd H (by simp)
                 ·rw[if_neg c65] at H
                  have c65b0:=decide_eq_false c65
                  clear c65
                  obtain rfl:=Option.some.inj H
                  go_wp2
                  go_ret
                  exact⟨a8,ak⟩
  ·rw[if_neg c4] at H
   exact absurd H (by simp)
 ·rw[if_neg c3] at H
  exact absurd H (by simp)
end Go.Proofs.YtndkmnjbjlfeaaaGreat.XR
end
section
namespace Go.Proofs.YtndkmnjbjlfeaaaGreat.XR
open Go.RowKit Go.Proofs.YtndkmnjbjlfeaaaGreat.Given Go.Proofs.YtndkmnjbjlfeaaaGreat.XS Go.Proofs.YtndkmnjbjlfeaaaGreatW.PrintWords Go.Proofs.YtndkmnjbjlfeaaaGreatW.PrintLast Go.Proofs.YtndkmnjbjlfeaaaGreatW.PrintMore
attribute [local go_sem] bU bS ct cr bw bz bP bT
set_option linter.unusedVariables false
set_option linter.unusedSimpArgs false
def bc.l0:Nat→List (dq)→Int→Int→Option (Int×Int)
 |0,_,_,_=>none
 |k+1,x0,x9,x10=>if x10<x9 then((ae.f k x0 x10).bind fun t123=>(if t123=true then(bc.l0 k x0 x9 (wrap64 (x10+1))) else(some (x10,3)))) else(some (0,0))
def bc.f(k:Nat)(l0:List (dq)):Option (Int×Int):=if(l0.length:Int)>32 then(some (0,13)) else(bc.l0 k l0 (l0.length:Int) 0)
set_option maxHeartbeats 8000000 in
set_option maxRecDepth 100000 in
theorem bc.calls(k:Nat)(A0:Option Addr)(c0:Nat)(l0:List (dq))(r1:Int)(r2:Int)(w:World)(hr0:Kd.C ku w A0 l0.length l0)(hc0:l0.length≤c0)(h:bc.f k l0=some (r1,r2)):
  Calls Tryz.prog 91 #[.slice A0 l0.length c0] w fun e w'=>e= .returned (.tuple #[.int .i64 r1, .int .i64 r2])∧Below w.heap.size w w':=by
 have HR0:=aa.mk hr0
 have HC0:=aa.mk hc0
 clear hr0 hc0
 have HB:=aa.mk (Below.refl w.heap.size w)
 have H:=h;unfold bc.f at H
 clear h
 by_cases c2:(l0.length:Int)>32
 ·rw[if_pos c2] at H
  have c2b0:=decide_eq_true c2
  have c2b1:decide (32<l0.length)=true:=decide_eq_true (by omega)
  clear c2
  simp only[Option.some.injEq,Prod.mk.injEq] at H
  obtain⟨rfl,rfl⟩:=H
  go_enter Tryz.func91,Tryz.ntmps91
  go_wp2
  go_ret2
  exact⟨a8,ak⟩
 ·rw[if_neg c2] at H
  have c2b0:=decide_eq_false c2
  have c2b1:decide (32<l0.length)=false:=decide_eq_false (by omega)
  clear c2
  have H':=aa.mk H
  clear H
  go_enter Tryz.func91,Tryz.ntmps91
  go_wp2
  go_loopg [10] k (fun kq v10 w'=> ∃(x10_1:Int),v10= .int .i64 x10_1∧aa (bc.l0 kq l0 (l0.length:Int) x10_1=some (r1,r2))∧aa (kq≤k)∧aa (Below w.heap.size w w'))
  case atStart=>exact⟨(0),a8,H',⟨Nat.le_refl _⟩,⟨ak⟩⟩
  case round=>
   clear H'
   obtain⟨x10_1,rfl,HA,HK1,HB⟩:=hrel
   cases gk with
   |zero=>exact absurd HA.out (by simp[bc.l0])
   |succ k1=>
    have H:=HA.out
    clear HA
    simp only[bc.l0] at H
    by_cases c3:x10_1<(l0.length:Int)
    ·rw[if_pos c3] at H
     have c3b0:=decide_eq_true c3
     clear c3
     replace H:=Option.bind_eq_some_iff.mp H
     obtain⟨t123,A40,H⟩:=H
     (try dsimp only at H)
     have A4:=aa.mk A40
     clear A40
     by_cases c5:t123=true
     ·subst c5
      have H1:=H;rw[if_pos rfl] at H1
      clear H
      have H:=H1
      clear H1
      have H':=aa.mk H
      clear H
      go_wp2_with (first|(refine fh 15 Tryz.func122 #[.slice A0 l0.length c0, .int .i64 x10_1] rfl ?_;(with_reducible refine(ae.calls k1 _ _ l0 x10_1 true _ ?side1 ?side2 A4.out).mono ?_);(case side1=>exact cw (Kd.bu HR0.out HB.out));(case side2=>exact HC0.out);rintro e w6 ⟨rfl,hb⟩;refine⟨_,rfl,?_⟩;have n0_:=aa.mk (ah ak hb);clear HB;have HB:=n0_;clear n0_))
      go_roundg k1
      case measure=>have:=HK1.out;omega
      case rel=>exact⟨(wrap64 (x10_1+1)),a8,H',⟨by have:=HK1.out;omega⟩,⟨ak⟩⟩
     ·replace c5:=Bool.eq_false_iff.mpr c5
      subst c5
      have H1:=H;rw[if_neg (show¬(false=true) by decide)] at H1
      clear H
      have H:=H1
      clear H1
      simp only[Option.some.injEq,Prod.mk.injEq] at H
      obtain⟨rfl,rfl⟩:=H
      go_wp2_with (first|(refine fh 15 Tryz.func122 #[.slice A0 l0.length c0, .int .i64 x10_1] rfl ?_;(with_reducible refine(ae.calls k1 _ _ l0 x10_1 false _ ?side1 ?side2 A4.out).mono ?_);(case side1=>exact cw (Kd.bu HR0.out HB.out));(case side2=>exact HC0.out);rintro e w7 ⟨rfl,hb⟩;refine⟨_,rfl,?_⟩;have n0_:=aa.mk (ah ak hb);clear HB;have HB:=n0_;clear n0_))
      go_ret2
      exact⟨a8,ak⟩
    ·rw[if_neg c3] at H
     have c3b0:=decide_eq_false c3
     clear c3
     simp only[Option.some.injEq,Prod.mk.injEq] at H
     obtain⟨rfl,rfl⟩:=H
     go_wp2
     go_ret2
     exact⟨a8,ak⟩
end Go.Proofs.YtndkmnjbjlfeaaaGreat.XR
end
section

end
section
namespace Go.Proofs.YtndkmnjbjlfeaaaGreat.XO
open Go.RowKit Go.Proofs.YtndkmnjbjlfeaaaGreat.Given Go.Proofs.YtndkmnjbjlfeaaaGreat.XS Go.Proofs.YtndkmnjbjlfeaaaGreat.XR Go.Proofs.YtndkmnjbjlfeaaaGreatW.PrintWords Go.Proofs.YtndkmnjbjlfeaaaGreatW.PrintLast Go.Proofs.YtndkmnjbjlfeaaaGreatW.PrintMore
attribute [local go_sem] bU bS ct cr bw bz bP bT
set_option linter.unusedVariables false
set_option linter.unusedSimpArgs false
mutual
def aq.j0:Nat→Bool→Option (Int×Int×Int)
 |0,_=>none
 |k+1,x35=>if x35=true then(some (0,0,1)) else(none)
def aq.l0:Nat→List (dq)→Int→Int→Int→Int→Int→List (dq)→Option (Int×Int×Int)
 |0,_,_,_,_,_,_,_=>none
 |k+1,x51,x52,x53,x102000,x102001,x102002,x102003=>if x53<x52 then(if 0≤x53 then(if x53<(x51.length:Int) then(if(((ag x51 x53).f2).length:Int)>20 then(some (0,0,3)) else(aq.l0 k x51 x52 (wrap64 (x53+1)) x102000 x102001 x102002 x102003)) else(none)) else(none)) else((bc.f k x102003).bind fun bt106=>(if bt106.2=0 then(aq.l1 k x102003 (x102003.length:Int) 0 x102000 x102001 x102002 x102003) else(some (0,0,bt106.2))))
def aq.l1:Nat→List (dq)→Int→Int→Int→Int→Int→List (dq)→Option (Int×Int×Int)
 |0,_,_,_,_,_,_,_=>none
 |k+1,x72,x73,x74,x102000,x102001,x102002,x102003=>if x74<x73 then(if 0≤x74 then(if x74<(x72.length:Int) then(if((ag x72 x74).f0)=x102002 then(some ((ag x72 x74).f0,(ag x72 x74).f1,0)) else(aq.l1 k x72 x73 (wrap64 (x74+1)) x102000 x102001 x102002 x102003)) else(none)) else(none)) else(some (0,0,14))
end
def aq.f(k:Nat)(a0_0:Int)(a0_1:Int)(a0_2:Int)(l0_3:List (dq)):Option (Int×Int×Int):=if a0_0=0 then((cf.f k a0_2).bind fun t102=>(if t102=true then((aA.f k a0_2).bind fun t103=>(some (a0_2,t103,0))) else(some (0,0,1)))) else(if a0_0=1 then(if a0_1<0 then(aq.j0 k true) else(aq.j0 k (decide (a0_1>5)))) else(if(l0_3.length:Int)>40 then(some (0,0,13)) else(aq.l0 k l0_3 (l0_3.length:Int) 0 a0_0 a0_1 a0_2 l0_3)))
set_option maxHeartbeats 8000000 in
set_option maxRecDepth 100000 in
theorem aq.calls(k:Nat)(a0_0:Int)(a0_1:Int)(a0_2:Int)(A0_3:Option Addr)(c0_3:Nat)(l0_3:List (dq))(r1:Int)(r2:Int)(r3:Int)(w:World)(hr0_3:Kd.C ku w A0_3 l0_3.length l0_3)(hc0_3:l0_3.length≤c0_3)(h:aq.f k a0_0 a0_1 a0_2 l0_3=some (r1,r2,r3)):
  Calls Tryz.prog 49 #[.agg #[.int .i64 a0_0, .int .i64 a0_1, .int .u64 a0_2, .slice A0_3 l0_3.length c0_3]] w fun e w'=>e= .returned (.tuple #[.int .u64 r1, .int .u64 r2, .int .i64 r3])∧Below w.heap.size w w':=by
 have hu25:=Tryz.underlying25
 have hu134:=Tryz.underlying134
 have HR0_3:=aa.mk hr0_3
 have HC0_3:=aa.mk hc0_3
 clear hr0_3 hc0_3
 have HB:=aa.mk (Below.refl w.heap.size w)
 have H:=h;unfold aq.f at H
 clear h
 by_cases c2:a0_0=0
 ·rw[if_pos c2] at H
  have c2b0:=beq_iff_eq.mpr c2
  have c2b1:=bne_eq_false_iff_eq.mpr c2
  clear c2
  replace H:=Option.bind_eq_some_iff.mp H
  obtain⟨t102,A30,H⟩:=H
  (try dsimp only at H)
  have A3:=aa.mk A30
  clear A30
  by_cases c4:t102=true
  ·subst c4
   have H1:=H;rw[if_pos rfl] at H1
   clear H
   have H:=H1
   clear H1
   replace H:=Option.bind_eq_some_iff.mp H
   obtain⟨t103,A50,H⟩:=H
   (try dsimp only at H)
   have A5:=aa.mk A50
   clear A50
   simp only[Option.some.injEq,Prod.mk.injEq] at H
   obtain⟨rfl,rfl,rfl⟩:=H
   go_enter Tryz.func49,Tryz.ntmps49
   go_wp2_with (first|((with_reducible refine bk (N:=1) rfl ?_);refine jg 1 #[.int .i64 a0_0, .int .i64 a0_1, .int .u64 a0_2, .slice A0_3 l0_3.length c0_3] 25 ?_;intro gb101 hg w6 hbox hb;have n0_:=aa.mk (ah ak hb);have n1_:=aa.mk (hbox);have n2_:=aa.mk ((by rw[hg];exact(ai ak):w.heap.size≤gb101));have n3_:=aa.mk ((by rw[hg];exact(ai ak):w.heap.size≤gb101));clear HB;have HB:=n0_;have BK101:=n1_;have GW101:=n2_;have GE101:=n3_;clear n0_ n1_ n2_ n3_;clear hb hbox hg;have hcz7_0:=bt BK101.out 0 rfl;have hcz7_1:=bt BK101.out 1 rfl;have hcz7_2:=bt BK101.out 2 rfl;have hcz7_3:=bt BK101.out 3 rfl;have hfz7_0:=ab BK101.out 0;have hfz7_1:=ab BK101.out 1;have hfz7_2:=ab BK101.out 2;have hfz7_3:=ab BK101.out 3)|(go_at_call 89;(with_reducible refine(cf.calls k a0_2 true _ A3.out).mono ?_);rintro e w' ⟨rfl,⟨nd,rfl⟩⟩;(try first|exact⟨rfl,_,World.drewN_drewN _ _ _⟩|exact⟨rfl,_,Eq.trans (World.drewN_drewN _ _ _) (congrArg (World.drewN _) (Nat.add_assoc _ _ _))⟩))|(go_at_call 90;(with_reducible refine(aA.calls k a0_2 t103 _ A5.out).mono ?_);rintro e w' ⟨rfl,⟨nd,rfl⟩⟩;(try first|exact⟨rfl,_,World.drewN_drewN _ _ _⟩|exact⟨rfl,_,Eq.trans (World.drewN_drewN _ _ _) (congrArg (World.drewN _) (Nat.add_assoc _ _ _))⟩)))
   repeat(go_quiet (first|((with_reducible refine bk (N:=1) rfl ?_);refine jg 1 #[.int .i64 a0_0, .int .i64 a0_1, .int .u64 a0_2, .slice A0_3 l0_3.length c0_3] 25 ?_;intro gb101 hg w6 hbox hb;have n0_:=aa.mk (ah ak hb);have n1_:=aa.mk (hbox);have n2_:=aa.mk ((by rw[hg];exact(ai ak):w.heap.size≤gb101));have n3_:=aa.mk ((by rw[hg];exact(ai ak):w.heap.size≤gb101));clear HB;have HB:=n0_;have BK101:=n1_;have GW101:=n2_;have GE101:=n3_;clear n0_ n1_ n2_ n3_;clear hb hbox hg;have hcz7_0:=bt BK101.out 0 rfl;have hcz7_1:=bt BK101.out 1 rfl;have hcz7_2:=bt BK101.out 2 rfl;have hcz7_3:=bt BK101.out 3 rfl;have hfz7_0:=ab BK101.out 0;have hfz7_1:=ab BK101.out 1;have hfz7_2:=ab BK101.out 2;have hfz7_3:=ab BK101.out 3)|(go_at_call 89;(with_reducible refine(cf.calls k a0_2 true _ A3.out).mono ?_);rintro e w' ⟨rfl,⟨nd,rfl⟩⟩;(try first|exact⟨rfl,_,World.drewN_drewN _ _ _⟩|exact⟨rfl,_,Eq.trans (World.drewN_drewN _ _ _) (congrArg (World.drewN _) (Nat.add_assoc _ _ _))⟩))|(go_at_call 90;(with_reducible refine(aA.calls k a0_2 t103 _ A5.out).mono ?_);rintro e w' ⟨rfl,⟨nd,rfl⟩⟩;(try first|exact⟨rfl,_,World.drewN_drewN _ _ _⟩|exact⟨rfl,_,Eq.trans (World.drewN_drewN _ _ _) (congrArg (World.drewN _) (Nat.add_assoc _ _ _))⟩)));try go_wp2_with (first|((with_reducible refine bk (N:=1) rfl ?_);refine jg 1 #[.int .i64 a0_0, .int .i64 a0_1, .int .u64 a0_2, .slice A0_3 l0_3.length c0_3] 25 ?_;intro gb101 hg w6 hbox hb;have n0_:=aa.mk (ah ak hb);have n1_:=aa.mk (hbox);have n2_:=aa.mk ((by rw[hg];exact(ai ak):w.heap.size≤gb101));have n3_:=aa.mk ((by rw[hg];exact(ai ak):w.heap.size≤gb101));clear HB;have HB:=n0_;have BK101:=n1_;have GW101:=n2_;have GE101:=n3_;clear n0_ n1_ n2_ n3_;clear hb hbox hg;have hcz7_0:=bt BK101.out 0 rfl;have hcz7_1:=bt BK101.out 1 rfl;have hcz7_2:=bt BK101.out 2 rfl;have hcz7_3:=bt BK101.out 3 rfl;have hfz7_0:=ab BK101.out 0;have hfz7_1:=ab BK101.out 1;have hfz7_2:=ab BK101.out 2;have hfz7_3:=ab BK101.out 3)|(go_at_call 89;(with_reducible refine(cf.calls k a0_2 true _ A3.out).mono ?_);rintro e w' ⟨rfl,⟨nd,rfl⟩⟩;(try first|exact⟨rfl,_,World.drewN_drewN _ _ _⟩|exact⟨rfl,_,Eq.trans (World.drewN_drewN _ _ _) (congrArg (World.drewN _) (Nat.add_assoc _ _ _))⟩))|(go_at_call 90;(with_reducible refine(aA.calls k a0_2 t103 _ A5.out).mono ?_);rintro e w' ⟨rfl,⟨nd,rfl⟩⟩;(try first|exact⟨rfl,_,World.drewN_drewN _ _ _⟩|exact⟨rfl,_,Eq.trans (World.drewN_drewN _ _ _) (congrArg (World.drewN _) (Nat.add_assoc _ _ _))⟩))))
   go_ret3
   exact⟨a8,ak⟩
  ·replace c4:=Bool.eq_false_iff.mpr c4
   subst c4
   have H1:=H;rw[if_neg (show¬(false=true) by decide)] at H1
   clear H
   have H:=H1
   clear H1
   simp only[Option.some.injEq,Prod.mk.injEq] at H
   obtain⟨rfl,rfl,rfl⟩:=H
   go_enter Tryz.func49,Tryz.ntmps49
   go_wp2_with (first|((with_reducible refine bk (N:=1) rfl ?_);refine jg 1 #[.int .i64 a0_0, .int .i64 a0_1, .int .u64 a0_2, .slice A0_3 l0_3.length c0_3] 25 ?_;intro gb101 hg w8 hbox hb;have n0_:=aa.mk (ah ak hb);have n1_:=aa.mk (hbox);have n2_:=aa.mk ((by rw[hg];exact(ai ak):w.heap.size≤gb101));have n3_:=aa.mk ((by rw[hg];exact(ai ak):w.heap.size≤gb101));clear HB;have HB:=n0_;have BK101:=n1_;have GW101:=n2_;have GE101:=n3_;clear n0_ n1_ n2_ n3_;clear hb hbox hg;have hcz9_0:=bt BK101.out 0 rfl;have hcz9_1:=bt BK101.out 1 rfl;have hcz9_2:=bt BK101.out 2 rfl;have hcz9_3:=bt BK101.out 3 rfl;have hfz9_0:=ab BK101.out 0;have hfz9_1:=ab BK101.out 1;have hfz9_2:=ab BK101.out 2;have hfz9_3:=ab BK101.out 3)|(go_at_call 89;(with_reducible refine(cf.calls k a0_2 false _ A3.out).mono ?_);rintro e w' ⟨rfl,⟨nd,rfl⟩⟩;(try first|exact⟨rfl,_,World.drewN_drewN _ _ _⟩|exact⟨rfl,_,Eq.trans (World.drewN_drewN _ _ _) (congrArg (World.drewN _) (Nat.add_assoc _ _ _))⟩)))
   go_ret3
   exact⟨a8,ak⟩
 ·rw[if_neg c2] at H
  have c2b0:=beq_eq_false_iff_ne.mpr c2
  have c2b1:=bne_iff_ne.mpr c2
  by_cases ek:a0_0=1
  ·rw[if_pos ek] at H
   have c10b0:=beq_iff_eq.mpr ek
   have c10b1:=bne_eq_false_iff_eq.mpr ek
   clear ek
   have HC11:=aa.mk H
   clear H
   go_enter Tryz.func49,Tryz.ntmps49
   go_upto_region 7 with(first|((with_reducible refine bk (N:=1) rfl ?_);refine jg 1 #[.int .i64 a0_0, .int .i64 a0_1, .int .u64 a0_2, .slice A0_3 l0_3.length c0_3] 25 ?_;intro gb101 hg w12 hbox hb;have n0_:=aa.mk (ah ak hb);have n1_:=aa.mk (hbox);have n2_:=aa.mk ((by rw[hg];exact(ai ak):w.heap.size≤gb101));have n3_:=aa.mk ((by rw[hg];exact(ai ak):w.heap.size≤gb101));clear HB;have HB:=n0_;have BK101:=n1_;have GW101:=n2_;have GE101:=n3_;clear n0_ n1_ n2_ n3_;clear hb hbox hg;have hcz13_0:=bt BK101.out 0 rfl;have hcz13_1:=bt BK101.out 1 rfl;have hcz13_2:=bt BK101.out 2 rfl;have hcz13_3:=bt BK101.out 3 rfl;have hfz13_0:=ab BK101.out 0;have hfz13_1:=ab BK101.out 1;have hfz13_2:=ab BK101.out 2;have hfz13_3:=ab BK101.out 3))
   (try simp only[Act.put,List.setIfInBounds_toArray,List.set_cons_zero,List.set_cons_succ])
   go_cut [35] (fun v35 wc=> ∃(kq:Nat) (x35_10:Bool),v35= .bool x35_10∧aa (aq.j0 kq x35_10=some (r1,r2,r3))∧aa (kq≤k)∧aa (wc.heap[gb101]?=some (.cells #[.int .i64 a0_0, .int .i64 a0_1, .int .u64 a0_2,(.slice A0_3 l0_3.length c0_3)] 25 (0,0)))∧aa (Below w.heap.size w wc))
   case first=>
    have H:=HC11.out
    clear HC11
    by_cases fa:a0_1<0
    ·rw[if_pos fa] at H
     have c14b0:=decide_eq_true fa
     clear fa
     (first|rw[c14b0]|(simp only[bp,bQ];rw[c14b0])|skip)
     have H':=aa.mk H
     clear H
     have hcz15_0:=bt BK101.out 0 rfl
     have hcz15_1:=bt BK101.out 1 rfl
     have hcz15_2:=bt BK101.out 2 rfl
     have hcz15_3:=bt BK101.out 3 rfl
     have hfz15_0:=ab BK101.out 0
     have hfz15_1:=ab BK101.out 1
     have hfz15_2:=ab BK101.out 2
     have hfz15_3:=ab BK101.out 3
     go_wp2
     go_meet
     case rel=>exact⟨_,(true),a8,H',⟨by first|omega|exact Nat.le_refl _⟩,⟨cP BK101.out⟩,⟨ak⟩⟩
    ·rw[if_neg fa] at H
     have c14b0:=decide_eq_false fa
     clear fa
     (first|rw[c14b0]|(simp only[bp,bQ];rw[c14b0])|skip)
     have H':=aa.mk H
     clear H
     have hcz16_0:=bt BK101.out 0 rfl
     have hcz16_1:=bt BK101.out 1 rfl
     have hcz16_2:=bt BK101.out 2 rfl
     have hcz16_3:=bt BK101.out 3 rfl
     have hfz16_0:=ab BK101.out 0
     have hfz16_1:=ab BK101.out 1
     have hfz16_2:=ab BK101.out 2
     have hfz16_3:=ab BK101.out 3
     go_wp2
     go_meet
     case rel=>exact⟨_,(decide (a0_1>5)),a8,H',⟨by first|omega|exact Nat.le_refl _⟩,⟨cP BK101.out⟩,⟨ak⟩⟩
   case rest=>
    clear HC11
    obtain⟨kq,x35_10,rfl,HA,HJ10,BK101,HB⟩:=hcut
    cases kq with
    |zero=>exact absurd HA.out (by simp[aq.j0])
    |succ kj10=>
     have H:=HA.out
     clear HA
     simp only[aq.j0] at H
     by_cases gC:x35_10=true
     ·subst gC
      have H1:=H;rw[if_pos rfl] at H1
      clear H
      have H:=H1
      clear H1
      simp only[Option.some.injEq,Prod.mk.injEq] at H
      obtain⟨rfl,rfl,rfl⟩:=H
      go_wp2
      go_ret3
      exact⟨a8,ak⟩
     ·replace gC:=Bool.eq_false_iff.mpr gC
      subst gC
      have H1:=H;rw[if_neg (show¬(false=true) by decide)] at H1
      clear H
      have H:=H1
      clear H1
      exact absurd H (by simp)
  ·rw[if_neg ek] at H
   have c10b0:=beq_eq_false_iff_ne.mpr ek
   have c10b1:=bne_iff_ne.mpr ek
   by_cases ji:(l0_3.length:Int)>40
   ·rw[if_pos ji] at H
    have c18b0:=decide_eq_true ji
    have c18b1:decide (40<l0_3.length)=true:=decide_eq_true (by omega)
    clear ji
    simp only[Option.some.injEq,Prod.mk.injEq] at H
    obtain⟨rfl,rfl,rfl⟩:=H
    go_enter Tryz.func49,Tryz.ntmps49
    go_wp2_with (first|((with_reducible refine bk (N:=1) rfl ?_);refine jg 1 #[.int .i64 a0_0, .int .i64 a0_1, .int .u64 a0_2, .slice A0_3 l0_3.length c0_3] 25 ?_;intro gb101 hg w19 hbox hb;have n0_:=aa.mk (ah ak hb);have n1_:=aa.mk (hbox);have n2_:=aa.mk ((by rw[hg];exact(ai ak):w.heap.size≤gb101));have n3_:=aa.mk ((by rw[hg];exact(ai ak):w.heap.size≤gb101));clear HB;have HB:=n0_;have BK101:=n1_;have GW101:=n2_;have GE101:=n3_;clear n0_ n1_ n2_ n3_;clear hb hbox hg;have hcz20_0:=bt BK101.out 0 rfl;have hcz20_1:=bt BK101.out 1 rfl;have hcz20_2:=bt BK101.out 2 rfl;have hcz20_3:=bt BK101.out 3 rfl;have hfz20_0:=ab BK101.out 0;have hfz20_1:=ab BK101.out 1;have hfz20_2:=ab BK101.out 2;have hfz20_3:=ab BK101.out 3))
    go_ret3
    exact⟨a8,ak⟩
   ·rw[if_neg ji] at H
    have c18b0:=decide_eq_false ji
    have c18b1:decide (40<l0_3.length)=false:=decide_eq_false (by omega)
    clear ji
    have H':=aa.mk H
    clear H
    go_enter Tryz.func49,Tryz.ntmps49
    go_wp2_with (first|((with_reducible refine bk (N:=1) rfl ?_);refine jg 1 #[.int .i64 a0_0, .int .i64 a0_1, .int .u64 a0_2, .slice A0_3 l0_3.length c0_3] 25 ?_;intro gb101 hg w21 hbox hb;have n0_:=aa.mk (ah ak hb);have n1_:=aa.mk (hbox);have n2_:=aa.mk ((by rw[hg];exact(ai ak):w.heap.size≤gb101));have n3_:=aa.mk ((by rw[hg];exact(ai ak):w.heap.size≤gb101));clear HB;have HB:=n0_;have BK101:=n1_;have GW101:=n2_;have GE101:=n3_;clear n0_ n1_ n2_ n3_;clear hb hbox hg;have hcz22_0:=bt BK101.out 0 rfl;have hcz22_1:=bt BK101.out 1 rfl;have hcz22_2:=bt BK101.out 2 rfl;have hcz22_3:=bt BK101.out 3 rfl;have hfz22_0:=ab BK101.out 0;have hfz22_1:=ab BK101.out 1;have hfz22_2:=ab BK101.out 2;have hfz22_3:=ab BK101.out 3))
    go_loopg [53] k (fun kq v53 w'=> ∃(x53_1:Int),v53= .int .i64 x53_1∧aa (aq.l0 kq l0_3 (l0_3.length:Int) x53_1 a0_0 a0_1 a0_2 l0_3=some (r1,r2,r3))∧aa (kq≤k)∧aa (w'.heap[gb101]?=some (.cells #[.int .i64 a0_0, .int .i64 a0_1, .int .u64 a0_2,(.slice A0_3 l0_3.length c0_3)] 25 (0,0)))∧aa (Below w.heap.size w w'))
    case atStart=>exact⟨(0),a8,H',⟨Nat.le_refl _⟩,⟨cP BK101.out⟩,⟨ak⟩⟩
    case round=>
     clear H'
     obtain⟨x53_1,rfl,HA,HK1,BK101,HB⟩:=hrel
     cases gk with
     |zero=>exact absurd HA.out (by simp[aq.l0])
     |succ k1=>
      have H:=HA.out
      clear HA
      simp only[aq.l0] at H
      by_cases jn:x53_1<(l0_3.length:Int)
      ·rw[if_pos jn] at H
       have c23b0:=decide_eq_true jn
       clear jn
       by_cases mC:0≤x53_1
       ·rw[if_pos mC] at H
        have c24b0:=decide_eq_true mC
        clear mC
        by_cases kY:x53_1<(l0_3.length:Int)
        ·rw[if_pos kY] at H
         have c25b0:=decide_eq_true kY
         clear kY
         by_cases ou:(((ag l0_3 x53_1).f2).length:Int)>20
         ·rw[if_pos ou] at H
          have c26b0:=decide_eq_true ou
          have c26b1:decide (20<((ag l0_3 x53_1).f2).length)=true:=decide_eq_true (by omega)
          clear ou
          simp only[Option.some.injEq,Prod.mk.injEq] at H
          obtain⟨rfl,rfl,rfl⟩:=H
          have p104:0≤(x53_1:Int):=of_decide_eq_true (by assumption)
          have q104:x53_1<(l0_3.length:Int):=of_decide_eq_true (by assumption)
          obtain⟨ad104,A104_2,c104_2,e104,hx104_0,hx104_1,hx104_2,hl104_2,hi104_2⟩:=gS HR0_3.out x53_1 p104 q104
          cases e104
          replace hx104_0:=dP HB.out hx104_0
          replace hx104_1:=dP HB.out hx104_1
          replace hx104_2:=dP HB.out hx104_2
          have HR104_2:=aa.mk hi104_2
          have HC104_2:=aa.mk hl104_2
          clear hi104_2 hl104_2
          replace p104:=eq_true p104
          replace q104:=eq_true q104
          go_wp2_with (first|((with_reducible refine bk (N:=8) rfl ?_);refine jg 8 #[.int .u64 0, .int .u64 0, .slice none 0 0] 134 ?_;intro gb105 hg w27 hbox hb;have n0_:=aa.mk (aU BK101.out hb);have n1_:=aa.mk (ah ak hb);have n2_:=aa.mk (hbox);have n3_:=aa.mk ((by rw[hg];exact(ai ak):w.heap.size≤gb105));have n4_:=aa.mk ((by rw[hg];exact(ai ak):w.heap.size≤gb105));have n5_:=aa.mk ((by rw[hg];exact Nat.ne_of_lt (de BK101.out):gb101≠gb105));have n6_:=aa.mk ((by rw[hg];exact Nat.ne_of_gt (de BK101.out):gb105≠gb101));clear BK101;clear HB;have BK101:=n0_;have HB:=n1_;have BK105:=n2_;have GW105:=n3_;have GE105:=n4_;have NB101_105:=n5_;have NB105_101:=n6_;clear n0_ n1_ n2_ n3_ n4_ n5_ n6_;clear hb hbox hg;have hnb28:=NB105_101.out;have hnc28:=NB101_105.out;have hcz29_0:=bt BK105.out 0 rfl;have hcz29_1:=bt BK105.out 1 rfl;have hcz29_2:=bt BK105.out 2 rfl;have hfz29_0:=ab BK105.out 0;have hfz29_1:=ab BK105.out 1;have hfz29_2:=ab BK105.out 2))
          go_ret3
          exact⟨a8,ak⟩
         ·rw[if_neg ou] at H
          have c26b0:=decide_eq_false ou
          have c26b1:decide (20<((ag l0_3 x53_1).f2).length)=false:=decide_eq_false (by omega)
          clear ou
          have H':=aa.mk H
          clear H
          have p104:0≤(x53_1:Int):=of_decide_eq_true (by assumption)
          have q104:x53_1<(l0_3.length:Int):=of_decide_eq_true (by assumption)
          obtain⟨ad104,A104_2,c104_2,e104,hx104_0,hx104_1,hx104_2,hl104_2,hi104_2⟩:=gS HR0_3.out x53_1 p104 q104
          cases e104
          replace hx104_0:=dP HB.out hx104_0
          replace hx104_1:=dP HB.out hx104_1
          replace hx104_2:=dP HB.out hx104_2
          have HR104_2:=aa.mk hi104_2
          have HC104_2:=aa.mk hl104_2
          clear hi104_2 hl104_2
          replace p104:=eq_true p104
          replace q104:=eq_true q104
          go_wp2_with (first|((with_reducible refine bk (N:=8) rfl ?_);refine jg 8 #[.int .u64 0, .int .u64 0, .slice none 0 0] 134 ?_;intro gb105 hg w30 hbox hb;have n0_:=aa.mk (aU BK101.out hb);have n1_:=aa.mk (ah ak hb);have n2_:=aa.mk (hbox);have n3_:=aa.mk ((by rw[hg];exact(ai ak):w.heap.size≤gb105));have n4_:=aa.mk ((by rw[hg];exact(ai ak):w.heap.size≤gb105));have n5_:=aa.mk ((by rw[hg];exact Nat.ne_of_lt (de BK101.out):gb101≠gb105));have n6_:=aa.mk ((by rw[hg];exact Nat.ne_of_gt (de BK101.out):gb105≠gb101));clear BK101;clear HB;have BK101:=n0_;have HB:=n1_;have BK105:=n2_;have GW105:=n3_;have GE105:=n4_;have NB101_105:=n5_;have NB105_101:=n6_;clear n0_ n1_ n2_ n3_ n4_ n5_ n6_;clear hb hbox hg;have hnb31:=NB105_101.out;have hnc31:=NB101_105.out;have hcz32_0:=bt BK105.out 0 rfl;have hcz32_1:=bt BK105.out 1 rfl;have hcz32_2:=bt BK105.out 2 rfl;have hfz32_0:=ab BK105.out 0;have hfz32_1:=ab BK105.out 1;have hfz32_2:=ab BK105.out 2))
          go_roundg k1
          case measure=>have:=HK1.out;omega
          case rel=>exact⟨(wrap64 (x53_1+1)),a8,H',⟨by have:=HK1.out;omega⟩,⟨dx (dx (dx BK101.out NB101_105.out _) NB101_105.out _) NB101_105.out _⟩,⟨ak⟩⟩
        ·rw[if_neg kY] at H
         exact absurd H (by simp)
       ·rw[if_neg mC] at H
        exact absurd H (by simp)
      ·rw[if_neg jn] at H
       have c23b0:=decide_eq_false jn
       clear jn
       replace H:=Option.bind_eq_some_iff.mp H
       obtain⟨⟨t106,t107⟩,A330,H⟩:=H
       (try dsimp only at H)
       have A33:=aa.mk A330
       clear A330
       by_cases c34:t107=0
       ·rw[if_pos c34] at H
        have c34b0:=beq_iff_eq.mpr c34
        have c34b1:=bne_eq_false_iff_eq.mpr c34
        clear c34
        have H':=aa.mk H
        clear H
        have hcz35_0:=bt BK101.out 0 rfl
        have hcz35_1:=bt BK101.out 1 rfl
        have hcz35_2:=bt BK101.out 2 rfl
        have hcz35_3:=bt BK101.out 3 rfl
        have hfz35_0:=ab BK101.out 0
        have hfz35_1:=ab BK101.out 1
        have hfz35_2:=ab BK101.out 2
        have hfz35_3:=ab BK101.out 3
        go_wp2_with (first|(go_at_call 91;(with_reducible refine(bc.calls k1 _ _ l0_3 t106 t107 _ ?side1 ?side2 A33.out).mono ?_);(case side1=>exact cw (Kd.bu HR0_3.out HB.out));(case side2=>exact HC0_3.out);rintro e w36 ⟨rfl,hb⟩;have n0_:=aa.mk (aU BK101.out hb);have n1_:=aa.mk (ah ak hb);clear BK101;clear HB;have BK101:=n0_;have HB:=n1_;clear n0_ n1_;have hcz37_0:=bt BK101.out 0 rfl;have hcz37_1:=bt BK101.out 1 rfl;have hcz37_2:=bt BK101.out 2 rfl;have hcz37_3:=bt BK101.out 3 rfl;have hfz37_0:=ab BK101.out 0;have hfz37_1:=ab BK101.out 1;have hfz37_2:=ab BK101.out 2;have hfz37_3:=ab BK101.out 3))
        go_loopg [74] k1 (fun kq v74 w'=> ∃(x74_2:Int),v74= .int .i64 x74_2∧aa (aq.l1 kq l0_3 (l0_3.length:Int) x74_2 a0_0 a0_1 a0_2 l0_3=some (r1,r2,r3))∧aa (kq≤k1)∧aa (w'.heap[gb101]?=some (.cells #[.int .i64 a0_0, .int .i64 a0_1, .int .u64 a0_2,(.slice A0_3 l0_3.length c0_3)] 25 (0,0)))∧aa (Below w.heap.size w w'))
        case atStart=>exact⟨(0),a8,H',⟨Nat.le_refl _⟩,⟨cP BK101.out⟩,⟨ak⟩⟩
        case round=>
         clear H'
         try clear hx1
         try clear hx10
         try clear hx104_0
         try clear hx104_1
         try clear hx104_2
         obtain⟨x74_2,rfl,HA,HK2,BK101,HB⟩:=hrel
         cases gk with
         |zero=>exact absurd HA.out (by simp[aq.l1])
         |succ k2=>
          have H:=HA.out
          clear HA
          simp only[aq.l1] at H
          by_cases c38:x74_2<(l0_3.length:Int)
          ·rw[if_pos c38] at H
           have c38b0:=decide_eq_true c38
           clear c38
           by_cases c39:0≤x74_2
           ·rw[if_pos c39] at H
            have c39b0:=decide_eq_true c39
            clear c39
            by_cases c40:x74_2<(l0_3.length:Int)
            ·rw[if_pos c40] at H
             have c40b0:=decide_eq_true c40
             clear c40
             by_cases c41:((ag l0_3 x74_2).f0)=a0_2
             ·rw[if_pos c41] at H
              have c41b0:=beq_iff_eq.mpr c41
              have c41b1:=bne_eq_false_iff_eq.mpr c41
              clear c41
              simp only[Option.some.injEq,Prod.mk.injEq] at H
              obtain⟨rfl,rfl,rfl⟩:=H
              have p108:0≤(x74_2:Int):=of_decide_eq_true (by assumption)
              have q108:x74_2<(l0_3.length:Int):=of_decide_eq_true (by assumption)
              obtain⟨ad108,A108_2,c108_2,e108,hx108_0,hx108_1,hx108_2,hl108_2,hi108_2⟩:=gS HR0_3.out x74_2 p108 q108
              cases e108
              replace hx108_0:=dP HB.out hx108_0
              replace hx108_1:=dP HB.out hx108_1
              replace hx108_2:=dP HB.out hx108_2
              have HR108_2:=aa.mk hi108_2
              have HC108_2:=aa.mk hl108_2
              clear hi108_2 hl108_2
              replace p108:=eq_true p108
              replace q108:=eq_true q108
              go_wp2_with (first|((with_reducible refine bk (N:=12) rfl ?_);refine jg 12 #[.int .u64 0, .int .u64 0, .slice none 0 0] 134 ?_;intro gb109 hg w42 hbox hb;have n0_:=aa.mk (aU BK101.out hb);have n1_:=aa.mk (ah ak hb);have n2_:=aa.mk (hbox);have n3_:=aa.mk ((by rw[hg];exact(ai ak):w.heap.size≤gb109));have n4_:=aa.mk ((by rw[hg];exact(ai ak):w.heap.size≤gb109));have n5_:=aa.mk ((by rw[hg];exact Nat.ne_of_lt (de BK101.out):gb101≠gb109));have n6_:=aa.mk ((by rw[hg];exact Nat.ne_of_gt (de BK101.out):gb109≠gb101));clear BK101;clear HB;have BK101:=n0_;have HB:=n1_;have BK109:=n2_;have GW109:=n3_;have GE109:=n4_;have NB101_109:=n5_;have NB109_101:=n6_;clear n0_ n1_ n2_ n3_ n4_ n5_ n6_;clear hb hbox hg;have hnb43:=NB109_101.out;have hnc43:=NB101_109.out;have hcz44_0:=bt BK109.out 0 rfl;have hcz44_1:=bt BK109.out 1 rfl;have hcz44_2:=bt BK109.out 2 rfl;have hfz44_0:=ab BK109.out 0;have hfz44_1:=ab BK109.out 1;have hfz44_2:=ab BK109.out 2;have hcz45_0:=bt BK101.out 0 rfl;have hcz45_1:=bt BK101.out 1 rfl;have hcz45_2:=bt BK101.out 2 rfl;have hcz45_3:=bt BK101.out 3 rfl;have hfz45_0:=ab BK101.out 0;have hfz45_1:=ab BK101.out 1;have hfz45_2:=ab BK101.out 2;have hfz45_3:=ab BK101.out 3))
              repeat(go_quiet (first|((with_reducible refine bk (N:=12) rfl ?_);refine jg 12 #[.int .u64 0, .int .u64 0, .slice none 0 0] 134 ?_;intro gb109 hg w42 hbox hb;have n0_:=aa.mk (aU BK101.out hb);have n1_:=aa.mk (ah ak hb);have n2_:=aa.mk (hbox);have n3_:=aa.mk ((by rw[hg];exact(ai ak):w.heap.size≤gb109));have n4_:=aa.mk ((by rw[hg];exact(ai ak):w.heap.size≤gb109));have n5_:=aa.mk ((by rw[hg];exact Nat.ne_of_lt (de BK101.out):gb101≠gb109));have n6_:=aa.mk ((by rw[hg];exact Nat.ne_of_gt (de BK101.out):gb109≠gb101));clear BK101;clear HB;have BK101:=n0_;have HB:=n1_;have BK109:=n2_;have GW109:=n3_;have GE109:=n4_;have NB101_109:=n5_;have NB109_101:=n6_;clear n0_ n1_ n2_ n3_ n4_ n5_ n6_;clear hb hbox hg;have hnb43:=NB109_101.out;have hnc43:=NB101_109.out;have hcz44_0:=bt BK109.out 0 rfl;have hcz44_1:=bt BK109.out 1 rfl;have hcz44_2:=bt BK109.out 2 rfl;have hfz44_0:=ab BK109.out 0;have hfz44_1:=ab BK109.out 1;have hfz44_2:=ab BK109.out 2;have hcz45_0:=bt BK101.out 0 rfl;have hcz45_1:=bt BK101.out 1 rfl;have hcz45_2:=bt BK101.out 2 rfl;have hcz45_3:=bt BK101.out 3 rfl;have hfz45_0:=ab BK101.out 0;have hfz45_1:=ab BK101.out 1;have hfz45_2:=ab BK101.out 2;have hfz45_3:=ab BK101.out 3));try go_wp2_with (first|((with_reducible refine bk (N:=12) rfl ?_);refine jg 12 #[.int .u64 0, .int .u64 0, .slice none 0 0] 134 ?_;intro gb109 hg w42 hbox hb;have n0_:=aa.mk (aU BK101.out hb);have n1_:=aa.mk (ah ak hb);have n2_:=aa.mk (hbox);have n3_:=aa.mk ((by rw[hg];exact(ai ak):w.heap.size≤gb109));have n4_:=aa.mk ((by rw[hg];exact(ai ak):w.heap.size≤gb109));have n5_:=aa.mk ((by rw[hg];exact Nat.ne_of_lt (de BK101.out):gb101≠gb109));have n6_:=aa.mk ((by rw[hg];exact Nat.ne_of_gt (de BK101.out):gb109≠gb101));clear BK101;clear HB;have BK101:=n0_;have HB:=n1_;have BK109:=n2_;have GW109:=n3_;have GE109:=n4_;have NB101_109:=n5_;have NB109_101:=n6_;clear n0_ n1_ n2_ n3_ n4_ n5_ n6_;clear hb hbox hg;have hnb43:=NB109_101.out;have hnc43:=NB101_109.out;have hcz44_0:=bt BK109.out 0 rfl;have hcz44_1:=bt BK109.out 1 rfl;have hcz44_2:=bt BK109.out 2 rfl;have hfz44_0:=ab BK109.out 0;have hfz44_1:=ab BK109.out 1;have hfz44_2:=ab BK109.out 2;have hcz45_0:=bt BK101.out 0 rfl;have hcz45_1:=bt BK101.out 1 rfl;have hcz45_2:=bt BK101.out 2 rfl;have hcz45_3:=bt BK101.out 3 rfl;have hfz45_0:=ab BK101.out 0;have hfz45_1:=ab BK101.out 1;have hfz45_2:=ab BK101.out 2;have hfz45_3:=ab BK101.out 3)))
              go_ret3
              exact⟨a8,ak⟩
             ·rw[if_neg c41] at H
              have c41b0:=beq_eq_false_iff_ne.mpr c41
              have c41b1:=bne_iff_ne.mpr c41
              have H':=aa.mk H
              clear H
              have p108:0≤(x74_2:Int):=of_decide_eq_true (by assumption)
              have q108:x74_2<(l0_3.length:Int):=of_decide_eq_true (by assumption)
              obtain⟨ad108,A108_2,c108_2,e108,hx108_0,hx108_1,hx108_2,hl108_2,hi108_2⟩:=gS HR0_3.out x74_2 p108 q108
              cases e108
              replace hx108_0:=dP HB.out hx108_0
              replace hx108_1:=dP HB.out hx108_1
              replace hx108_2:=dP HB.out hx108_2
              have HR108_2:=aa.mk hi108_2
              have HC108_2:=aa.mk hl108_2
              clear hi108_2 hl108_2
              replace p108:=eq_true p108
              replace q108:=eq_true q108
              go_wp2_with (first|((with_reducible refine bk (N:=12) rfl ?_);refine jg 12 #[.int .u64 0, .int .u64 0, .slice none 0 0] 134 ?_;intro gb109 hg w46 hbox hb;have n0_:=aa.mk (aU BK101.out hb);have n1_:=aa.mk (ah ak hb);have n2_:=aa.mk (hbox);have n3_:=aa.mk ((by rw[hg];exact(ai ak):w.heap.size≤gb109));have n4_:=aa.mk ((by rw[hg];exact(ai ak):w.heap.size≤gb109));have n5_:=aa.mk ((by rw[hg];exact Nat.ne_of_lt (de BK101.out):gb101≠gb109));have n6_:=aa.mk ((by rw[hg];exact Nat.ne_of_gt (de BK101.out):gb109≠gb101));clear BK101;clear HB;have BK101:=n0_;have HB:=n1_;have BK109:=n2_;have GW109:=n3_;have GE109:=n4_;have NB101_109:=n5_;have NB109_101:=n6_;clear n0_ n1_ n2_ n3_ n4_ n5_ n6_;clear hb hbox hg;have hnb47:=NB109_101.out;have hnc47:=NB101_109.out;have hcz48_0:=bt BK109.out 0 rfl;have hcz48_1:=bt BK109.out 1 rfl;have hcz48_2:=bt BK109.out 2 rfl;have hfz48_0:=ab BK109.out 0;have hfz48_1:=ab BK109.out 1;have hfz48_2:=ab BK109.out 2;have hcz49_0:=bt BK101.out 0 rfl;have hcz49_1:=bt BK101.out 1 rfl;have hcz49_2:=bt BK101.out 2 rfl;have hcz49_3:=bt BK101.out 3 rfl;have hfz49_0:=ab BK101.out 0;have hfz49_1:=ab BK101.out 1;have hfz49_2:=ab BK101.out 2;have hfz49_3:=ab BK101.out 3))
              go_roundg k2
              case measure=>have:=HK1.out;have:=HK2.out;omega
              case rel=>exact⟨(wrap64 (x74_2+1)),a8,H',⟨by have:=HK1.out;have:=HK2.out;omega⟩,⟨dx (dx (dx BK101.out NB101_109.out _) NB101_109.out _) NB101_109.out _⟩,⟨ak⟩⟩
            ·rw[if_neg c40] at H
             exact absurd H (by simp)
           ·rw[if_neg c39] at H
            exact absurd H (by simp)
          ·rw[if_neg c38] at H
           have c38b0:=decide_eq_false c38
           clear c38
           simp only[Option.some.injEq,Prod.mk.injEq] at H
           obtain⟨rfl,rfl,rfl⟩:=H
           go_wp2
           go_ret3
           exact⟨a8,ak⟩
       ·rw[if_neg c34] at H
        have c34b0:=beq_eq_false_iff_ne.mpr c34
        have c34b1:=bne_iff_ne.mpr c34
        simp only[Option.some.injEq,Prod.mk.injEq] at H
        obtain⟨rfl,rfl,rfl⟩:=H
        have hcz50_0:=bt BK101.out 0 rfl
        have hcz50_1:=bt BK101.out 1 rfl
        have hcz50_2:=bt BK101.out 2 rfl
        have hcz50_3:=bt BK101.out 3 rfl
        have hfz50_0:=ab BK101.out 0
        have hfz50_1:=ab BK101.out 1
        have hfz50_2:=ab BK101.out 2
        have hfz50_3:=ab BK101.out 3
        go_wp2_with (first|(go_at_call 91;(with_reducible refine(bc.calls k1 _ _ l0_3 t106 t107 _ ?side1 ?side2 A33.out).mono ?_);(case side1=>exact cw (Kd.bu HR0_3.out HB.out));(case side2=>exact HC0_3.out);rintro e w51 ⟨rfl,hb⟩;have n0_:=aa.mk (aU BK101.out hb);have n1_:=aa.mk (ah ak hb);clear BK101;clear HB;have BK101:=n0_;have HB:=n1_;clear n0_ n1_))
        go_ret3
        exact⟨a8,ak⟩
end Go.Proofs.YtndkmnjbjlfeaaaGreat.XO
end
section
namespace Go.Proofs.YtndkmnjbjlfeaaaGreat.F06
open Go Go.RowKit Go.Proofs.YtndkmnjbjlfeaaaGreatW.PrintWords Go.Proofs.YtndkmnjbjlfeaaaGreatW.PrintLast Go.Proofs.YtndkmnjbjlfeaaaGreatW.PrintMore Go.Proofs.YtndkmnjbjlfeaaaGreat.Given Go.Proofs.YtndkmnjbjlfeaaaGreat.XS Go.Proofs.YtndkmnjbjlfeaaaGreat.XT
set_option linter.unusedSimpArgs false
def jb(x:bO):List Value:=[.int .u64 x.f0, .int .i64 x.f1]
def iU(x:dA×Nat):List Value:=[.int .u64 x.1.f0, .int .u64 x.1.f1, .slice (some ⟨x.2,0,none⟩) x.1.f2.length x.1.f2.length]
theorem sB{α:Type}{c:α→List Value}{n:Nat}(hc: ∀x,(c x).length=n): ∀(l:List α) (j:Nat) (x:α),l[j]?=some x→((l.flatMap c).drop (j*n)).take n=c x:=by
 intro l
 induction l with
 |nil=>intro j x h;simp at h
 |cons y t ih=>
  intro j x h
  rw[List.flatMap_cons]
  cases j with
  |zero=>
   simp at h
   subst h
   rw[Nat.zero_mul,List.drop_zero,List.take_append_of_le_length (by rw[hc];exact Nat.le_refl _),List.take_of_length_le (by rw[hc];exact Nat.le_refl _)]
  |succ j=>
   have e:(j+1)*n=(c y).length+j*n:=by rw[hc,Nat.add_mul,Nat.one_mul,Nat.add_comm]
   rw[e,List.drop_append]
   rw[show((c y).drop ((c y).length+j*n))=[] from List.drop_eq_nil_of_le (by omega),List.nil_append,show(c y).length+j*n-(c y).length=j*n by omega]
   exact ih j x (by simpa using h)
theorem lO{α:Type}{c:α→List Value}{n:Nat}(hc: ∀x,(c x).length=n)(l:List α):(l.flatMap c).length=l.length*n:=by
 induction l with
 |nil=>simp
 |cons y t ih=>rw[List.flatMap_cons,List.length_append,ih,hc,List.length_cons,Nat.add_mul,Nat.one_mul,Nat.add_comm]
theorem vH{W:World}{base b:Nat}{ok:Nat→Prop}{l:List bO}(hb:base≤b)(ho:ok b)(hl:l.length≤1000)(hh:W.heap[b]?=some (.cells (l.flatMap jb).toArray 147 (0,0))):
  Kd.R ei 147 W base ok (.slice (some ⟨b,0,none⟩) l.length l.length) l:=by
 have hn:(l.flatMap jb).length=l.length*2:=lO (c:=jb) (n:=2) (fun _=>rfl) l
 refine⟨fun k e=>by simp[Value.ownBlock] at e;subst e;exact ho,l.flatMap jb,⟨hn, .inr ⟨b,l.length,_,rfl,hb,hh,Nat.le_refl _,by unfold maxLen;omega,by rw[List.size_toArray,hn];rfl,by exact List.take_of_length_le (by rw[hn];exact Nat.le_refl _)⟩⟩,hn,fun j p hj=>?_⟩
 have e:((l.flatMap jb).drop (j*2)).take 2=jb p:=sB (c:=jb) (n:=2) (fun _=>rfl) l j p hj
 show(ei).M W base _ p (((l.flatMap jb).drop (j*2)).take 2)
 rw[e]
 exact kU _ _ _ p
theorem gX{W:World}{base g n:Nat}{es:List (dA×Nat)}(hb:base≤g)(hg:W.heap[g]?=some (.cells (es.flatMap iU).toArray 94 (0,0)))(hn:n=es.length)(hl:es.length≤1000)
  (hx: ∀x∈es,base≤x.2∧x.2≠g∧x.1.f2.length≤1000∧W.heap[x.2]?=some (.cells (x.1.f2.flatMap jb).toArray 147 (0,0))) (hd:(es.map (·.2)).Nodup):
  Kd.S kt 94 W base (fun _=>True) (.slice (some ⟨g,0,none⟩) n n) (es.map (·.1)):=by
 subst hn
 have hk:(es.flatMap iU).length=es.length*3:=lO (c:=iU) (n:=3) (fun _=>rfl) es
 obtain⟨f,hr⟩:=Kd.uY (d:=kt) (w:=W) (base:=base) (ok:=fun k=>True∧some k≠(Value.slice (some ⟨g,0,none⟩) es.length es.length).ownBlock) (xs:=es.map (·.1)) (inner:=es.flatMap iU) (fun j k=> ∃x,es[j]?=some x∧k=x.2)
  (fun i j k ⟨x,hx1,hx2⟩ ⟨y,hy1,hy2⟩=>by
   have h1:(es.map (·.2))[i]?=some k:=by rw[List.getElem?_map,hx1,hx2];rfl
   have h2:(es.map (·.2))[j]?=some k:=by rw[List.getElem?_map,hy1,hy2];rfl
   have hi:i<(es.map (·.2)).length:=(List.getElem?_eq_some_iff.1 h1).1
   exact(List.getElem?_inj hi hd).1 (h1.trans h2.symm))
  (fun j k ⟨x,hx1,hx2⟩=>⟨trivial,fun e=>by
   simp[Value.ownBlock] at e
   exact(hx x (List.mem_of_getElem? hx1)).2.1 (hx2.symm.trans e)⟩)
  (by rw[hk,List.length_map];rfl)
  (fun j e he=>by
   rw[List.getElem?_map] at he
   obtain⟨x,hx1,rfl⟩:=Option.map_eq_some_iff.1 he
   obtain⟨h1,h2,h3,h4⟩:=hx x (List.mem_of_getElem? hx1)
   have e:((es.flatMap iU).drop (j*3)).take 3=iU x:=sB (c:=iU) (n:=3) (fun _=>rfl) es j x hx1
   show(kt).M W base _ x.1 (((es.flatMap iU).drop (j*3)).take 3)
   rw[e]
   exact oX _ _ _ x.1 (vH h1 ⟨x,hx1,rfl⟩ h3 h4))
 refine⟨f,fun k e=>trivial,es.flatMap iU,?_,?_⟩
 ·rw[List.length_zipIdx,List.length_map]
  exact⟨hk, .inr ⟨g,es.length,_,rfl,hb,hg,Nat.le_refl _,by unfold maxLen;omega,by rw[List.size_toArray,hk];rfl,by exact List.take_of_length_le (by rw[hk];exact Nat.le_refl _)⟩⟩
 ·exact hr
theorem cZ(w:World)(o:Obj):(w.alloc o).heap.size=w.heap.size+1:=Array.size_push _
theorem dO{w:World}{o:Obj}{k:Nat}(h:k=w.heap.size):(w.alloc o).heap[k]?=some o:=by subst h;exact gR w o
theorem dK{w:World}{o:Obj}{k:Nat}{r:Option Obj}(h:k<w.heap.size)(hr:w.heap[k]?=r):(w.alloc o).heap[k]?=r:=by
 show(w.heap.push o)[k]?=_
 rw[Array.getElem?_push,if_neg (by omega)]
 exact hr
theorem dI(w:World)(n:Nat):(w.drewN n).heap=w.heap:=rfl
def e3:dA:=⟨3,2,[⟨2,1⟩]⟩
def e5:dA:=⟨5,2,[⟨2,2⟩]⟩
def e7:dA:=⟨7,3,[⟨2,1⟩,⟨3,1⟩]⟩
def rf:List dA:=[e3,e7,⟨29,2,[⟨2,2⟩,⟨7,1⟩]⟩,⟨4179340454199820289,3,[⟨2,57⟩,⟨29,1⟩]⟩]
def rB:List dA:=[e3,⟨1945555039024054273,5,[⟨2,56⟩,⟨3,3⟩]⟩]
def qV:List dA:=[e5,⟨180143985094819841,6,[⟨2,55⟩,⟨5,1⟩]⟩]
def rC:List dA:=[e3,e5,⟨754974721,11,[⟨2,24⟩,⟨3,2⟩,⟨5,1⟩]⟩]
def qO:List dA:=[e3,e7,⟨469762049,3,[⟨2,26⟩,⟨7,1⟩]⟩]
def qT:List dA:=[e5,⟨167772161,3,[⟨2,25⟩,⟨5,1⟩]⟩]
def eM.f(i:Int):Option (List dA×Int):=some (
 if i=0 then(rf,4179340454199820289) else if i=1 then(rB,1945555039024054273) else if i=2 then(qV,180143985094819841) else if i=3 then(rC,754974721) else if i=4 then(qO,469762049) else if i=5 then(qT,167772161) else([],0))
def jf(i:Int)(l:List dA)(p:Int):Prop:= ∀w:World,Calls Tryz.prog 92 #[.int .i64 i] w fun e w'=> ∃v0_:Value,e= .returned (.tuple #[v0_, .int .u64 p])∧Kd.S kt 94 w' w.heap.size (fun _=>True) v0_ l∧Below w.heap.size w w'
set_option maxHeartbeats 2000000 in
set_option maxRecDepth 10000 in
theorem xG:jf 0 rf 4179340454199820289:=by
 intro w
 go_enter Tryz.func92,Tryz.ntmps92
 go_wp2
 go_quiet (fail)
 go_wp2
 go_ret2
 refine⟨.slice (some ⟨w.heap.size+1+1+1+1+1+1+1+1,0,none⟩) 4 4,rfl,?_,by repeat(first|exact Below.refl _ _|apply aQ|apply ay)⟩
 refine gX (es:=[(e3,w.heap.size),(e7,w.heap.size+1+1+1+1),(⟨29,2,[⟨2,2⟩,⟨7,1⟩]⟩,w.heap.size+1+1+1+1+1+1),(⟨4179340454199820289,3,[⟨2,57⟩,⟨29,1⟩]⟩,w.heap.size+1+1+1+1+1+1+1)]) (by omega) (by(try rw[dI]);repeat(first|exact(dO (by simp only[cZ])).trans rfl|refine dK (by simp only[cZ];omega) ?_)) rfl (by simp) ?_ ?_
 ·intro x hx
  simp only[List.mem_cons,List.not_mem_nil,or_false] at hx
  rcases hx with rfl|rfl|rfl|rfl
  all_goals exact⟨by dsimp only;omega,by dsimp only;omega,by simp[e3,e5,e7],by(try rw[dI]);repeat(first|exact(dO (by simp only[cZ])).trans rfl|refine dK (by simp only[cZ];omega) ?_)⟩
 ·simp only[List.map_cons,List.map_nil,List.nodup_cons,List.mem_cons,List.not_mem_nil,or_false,not_or];(repeat' constructor)<;>first|omega|simp
set_option maxHeartbeats 2000000 in
set_option maxRecDepth 10000 in
theorem yg:jf 1 rB 1945555039024054273:=by
 intro w
 go_enter Tryz.func92,Tryz.ntmps92
 go_wp2
 go_quiet (fail)
 go_wp2
 go_ret2
 refine⟨.slice (some ⟨w.heap.size+1+1+1+1+1+1+1,0,none⟩) 2 2,rfl,?_,by repeat(first|exact Below.refl _ _|apply aQ|apply ay)⟩
 refine gX (es:=[(e3,w.heap.size),(⟨1945555039024054273,5,[⟨2,56⟩,⟨3,3⟩]⟩,w.heap.size+1+1+1+1+1+1)]) (by omega) (by(try rw[dI]);repeat(first|exact(dO (by simp only[cZ])).trans rfl|refine dK (by simp only[cZ];omega) ?_)) rfl (by simp) ?_ ?_
 ·intro x hx
  simp only[List.mem_cons,List.not_mem_nil,or_false] at hx
  rcases hx with rfl|rfl
  all_goals exact⟨by dsimp only;omega,by dsimp only;omega,by simp[e3,e5,e7],by(try rw[dI]);repeat(first|exact(dO (by simp only[cZ])).trans rfl|refine dK (by simp only[cZ];omega) ?_)⟩
 ·simp only[List.map_cons,List.map_nil,List.nodup_cons,List.mem_cons,List.not_mem_nil,or_false,not_or];(repeat' constructor)<;>first|omega|simp
set_option maxHeartbeats 2000000 in
set_option maxRecDepth 10000 in
theorem xv:jf 2 qV 180143985094819841:=by
 intro w
 go_enter Tryz.func92,Tryz.ntmps92
 go_wp2
 go_quiet (fail)
 go_wp2
 go_ret2
 refine⟨.slice (some ⟨w.heap.size+1+1+1+1+1+1+1,0,none⟩) 2 2,rfl,?_,by repeat(first|exact Below.refl _ _|apply aQ|apply ay)⟩
 refine gX (es:=[(e5,w.heap.size+1+1),(⟨180143985094819841,6,[⟨2,55⟩,⟨5,1⟩]⟩,w.heap.size+1+1+1+1+1+1)]) (by omega) (by(try rw[dI]);repeat(first|exact(dO (by simp only[cZ])).trans rfl|refine dK (by simp only[cZ];omega) ?_)) rfl (by simp) ?_ ?_
 ·intro x hx
  simp only[List.mem_cons,List.not_mem_nil,or_false] at hx
  rcases hx with rfl|rfl
  all_goals exact⟨by dsimp only;omega,by dsimp only;omega,by simp[e3,e5,e7],by(try rw[dI]);repeat(first|exact(dO (by simp only[cZ])).trans rfl|refine dK (by simp only[cZ];omega) ?_)⟩
 ·simp only[List.map_cons,List.map_nil,List.nodup_cons,List.mem_cons,List.not_mem_nil,or_false,not_or];(repeat' constructor)<;>first|omega|simp
set_option maxHeartbeats 2000000 in
set_option maxRecDepth 10000 in
theorem xf:jf 3 rC 754974721:=by
 intro w
 go_enter Tryz.func92,Tryz.ntmps92
 go_wp2
 go_quiet (fail)
 go_wp2
 go_ret2
 refine⟨.slice (some ⟨w.heap.size+1+1+1+1+1+1+1,0,none⟩) 3 3,rfl,?_,by repeat(first|exact Below.refl _ _|apply aQ|apply ay)⟩
 refine gX (es:=[(e3,w.heap.size),(e5,w.heap.size+1+1),(⟨754974721,11,[⟨2,24⟩,⟨3,2⟩,⟨5,1⟩]⟩,w.heap.size+1+1+1+1+1+1)]) (by omega) (by(try rw[dI]);repeat(first|exact(dO (by simp only[cZ])).trans rfl|refine dK (by simp only[cZ];omega) ?_)) rfl (by simp) ?_ ?_
 ·intro x hx
  simp only[List.mem_cons,List.not_mem_nil,or_false] at hx
  rcases hx with rfl|rfl|rfl
  all_goals exact⟨by dsimp only;omega,by dsimp only;omega,by simp[e3,e5,e7],by(try rw[dI]);repeat(first|exact(dO (by simp only[cZ])).trans rfl|refine dK (by simp only[cZ];omega) ?_)⟩
 ·simp only[List.map_cons,List.map_nil,List.nodup_cons,List.mem_cons,List.not_mem_nil,or_false,not_or];(repeat' constructor)<;>first|omega|simp
set_option maxHeartbeats 2000000 in
set_option maxRecDepth 10000 in
theorem yt:jf 4 qO 469762049:=by
 intro w
 go_enter Tryz.func92,Tryz.ntmps92
 go_wp2
 go_quiet (fail)
 go_wp2
 go_ret2
 refine⟨.slice (some ⟨w.heap.size+1+1+1+1+1+1+1,0,none⟩) 3 3,rfl,?_,by repeat(first|exact Below.refl _ _|apply aQ|apply ay)⟩
 refine gX (es:=[(e3,w.heap.size),(e7,w.heap.size+1+1+1+1),(⟨469762049,3,[⟨2,26⟩,⟨7,1⟩]⟩,w.heap.size+1+1+1+1+1+1)]) (by omega) (by(try rw[dI]);repeat(first|exact(dO (by simp only[cZ])).trans rfl|refine dK (by simp only[cZ];omega) ?_)) rfl (by simp) ?_ ?_
 ·intro x hx
  simp only[List.mem_cons,List.not_mem_nil,or_false] at hx
  rcases hx with rfl|rfl|rfl
  all_goals exact⟨by dsimp only;omega,by dsimp only;omega,by simp[e3,e5,e7],by(try rw[dI]);repeat(first|exact(dO (by simp only[cZ])).trans rfl|refine dK (by simp only[cZ];omega) ?_)⟩
 ·simp only[List.map_cons,List.map_nil,List.nodup_cons,List.mem_cons,List.not_mem_nil,or_false,not_or];(repeat' constructor)<;>first|omega|simp
set_option maxHeartbeats 2000000 in
set_option maxRecDepth 10000 in
theorem yz:jf 5 qT 167772161:=by
 intro w
 go_enter Tryz.func92,Tryz.ntmps92
 go_wp2
 go_quiet (fail)
 go_wp2
 go_ret2
 refine⟨.slice (some ⟨w.heap.size+1+1+1+1+1+1+1,0,none⟩) 2 2,rfl,?_,by repeat(first|exact Below.refl _ _|apply aQ|apply ay)⟩
 refine gX (es:=[(e5,w.heap.size+1+1),(⟨167772161,3,[⟨2,25⟩,⟨5,1⟩]⟩,w.heap.size+1+1+1+1+1+1)]) (by omega) (by(try rw[dI]);repeat(first|exact(dO (by simp only[cZ])).trans rfl|refine dK (by simp only[cZ];omega) ?_)) rfl (by simp) ?_ ?_
 ·intro x hx
  simp only[List.mem_cons,List.not_mem_nil,or_false] at hx
  rcases hx with rfl|rfl
  all_goals exact⟨by dsimp only;omega,by dsimp only;omega,by simp[e3,e5,e7],by(try rw[dI]);repeat(first|exact(dO (by simp only[cZ])).trans rfl|refine dK (by simp only[cZ];omega) ?_)⟩
 ·simp only[List.map_cons,List.map_nil,List.nodup_cons,List.mem_cons,List.not_mem_nil,or_false,not_or];(repeat' constructor)<;>first|omega|simp
set_option maxHeartbeats 1000000 in
theorem rk{i:Int}(h: ¬(i=0∨i=1∨i=2∨i=3∨i=4∨i=5)):jf i [] 0:=by
 intro w
 have b0:(i==0)=false:=beq_eq_false_iff_ne.mpr (by omega)
 have b1:(i==1)=false:=beq_eq_false_iff_ne.mpr (by omega)
 have b2:(i==2)=false:=beq_eq_false_iff_ne.mpr (by omega)
 have b3:(i==3)=false:=beq_eq_false_iff_ne.mpr (by omega)
 have b4:(i==4)=false:=beq_eq_false_iff_ne.mpr (by omega)
 have b5:(i==5)=false:=beq_eq_false_iff_ne.mpr (by omega)
 clear h
 go_enter Tryz.func92,Tryz.ntmps92
 go_wp2
 go_ret2
 exact⟨_,rfl,Kd.jv _ _ _ _ _,by repeat(first|exact Below.refl _ _|apply aQ|apply ay)⟩
theorem eM.calls(a0:Int)(r1:List dA)(r2:Int)(w:World)(h:eM.f a0=some (r1,r2)):
  Calls Tryz.prog 92 #[.int .i64 a0] w fun e w'=> ∃v0_:Value,e= .returned (.tuple #[v0_, .int .u64 r2])∧Kd.S kt 94 w' w.heap.size (fun _=>True) v0_ r1∧Below w.heap.size w w':=by
 have h:=Option.some.inj h
 by_cases h0:a0=0
 ·subst h0;obtain⟨rfl,rfl⟩:=Prod.mk.inj h;exact xG w
 by_cases h1:a0=1
 ·subst h1;obtain⟨rfl,rfl⟩:=Prod.mk.inj h;exact yg w
 by_cases h2:a0=2
 ·subst h2;obtain⟨rfl,rfl⟩:=Prod.mk.inj h;exact xv w
 by_cases h3:a0=3
 ·subst h3;obtain⟨rfl,rfl⟩:=Prod.mk.inj h;exact xf w
 by_cases h4:a0=4
 ·subst h4;obtain⟨rfl,rfl⟩:=Prod.mk.inj h;exact yt w
 by_cases h5:a0=5
 ·subst h5;obtain⟨rfl,rfl⟩:=Prod.mk.inj h;exact yz w
 rw[if_neg h0,if_neg h1,if_neg h2,if_neg h3,if_neg h4,if_neg h5] at h
 obtain⟨rfl,rfl⟩:=Prod.mk.inj h
 exact rk (by omega) w
end Go.Proofs.YtndkmnjbjlfeaaaGreat.F06
end
section
namespace Go.Proofs.YtndkmnjbjlfeaaaGreat.XS
open Go Go.RowKit Go.Proofs.YtndkmnjbjlfeaaaGreatW.PrintWords Go.Proofs.YtndkmnjbjlfeaaaGreatW.PrintLast Go.Proofs.YtndkmnjbjlfeaaaGreatW.PrintMore Go.Proofs.YtndkmnjbjlfeaaaGreat.Given Go.Proofs.YtndkmnjbjlfeaaaGreat.M
section digit
variable {Y h l u d q r:Int}
theorem jq(hY:Y=h*4294967296+l)(hl:0≤l)(hh:2147483648≤h)(he:q*h+r=u)(hc:q*l≤4294967296*r+d):q≤(u*4294967296+d)/Y:=by
 have e:q*Y=q*h*4294967296+q*l:=by rw[hY,Int.mul_add,←Int.mul_assoc]
 have hp:0<Y:=by omega
 refine Int.le_ediv_of_mul_le hp ?_
 omega
theorem pz(hY:Y=h*4294967296+l)(hl:0≤l)(hh:2147483648≤h)(he:q*h+r=u)(hc:4294967296*r+d<q*l):(u*4294967296+d)/Y<q:=by
 have e:q*Y=q*h*4294967296+q*l:=by rw[hY,Int.mul_add,←Int.mul_assoc]
 have hp:0<Y:=by omega
 refine Int.ediv_lt_of_lt_mul hp ?_
 omega
theorem lq(hp:0<Y)(hu:u<Y)(hd:d<4294967296):(u*4294967296+d)/Y<4294967296:=by
 refine Int.ediv_lt_of_lt_mul hp ?_
 omega
end digit
theorem fT{a b A B:Int}(ha:0≤a)(hb:0≤b)(hA:a≤A)(hB:b≤B):a*b≤A*B:=
 Int.mul_le_mul hA hB hb (by omega)
section
variable {Y s h l u d e:Int}
theorem zo{R:Int×Int}(hY:Y=h*4294967296+l)(hl:0≤l)(hl2:l<4294967296)(hh:2147483648≤h)(hh2:h<4294967296)(hu0:0≤u)(hu:u<Y)(hd0:0≤d)(hd:d<4294967296)
  (hR:Ev (fun k=>aC.j2 k Y s h l u d e ((u*4294967296+d)/Y)) R) (n:Nat):
  ∀q r:Int,q*h+r=u→0≤r→r<4294967296→(u*4294967296+d)/Y≤q→q≤4294967297→q-(u*4294967296+d)/Y=n→
  Ev (fun k=>aC.l0 k Y s h l u d e q r) R:=by
 have hp:0<Y:=by omega
 have htop:=lq hp hu hd
 have hq0:0≤(u*4294967296+d)/Y:=Int.ediv_nonneg (by omega) (by omega)
 generalize hQ:(u*4294967296+d)/Y=Q at*
 have step: ∀q r:Int,q*h+r=u→0≤r→r<4294967296→Q<q→q≤4294967297→(Q<q-1→Ev (fun k=>aC.l0 k Y s h l u d e (q-1) (r+h)) R)→
   (r+h<4294967296→Q=q-1→Ev (fun k=>aC.l0 k Y s h l u d e (q-1) (r+h)) R)→
   Ev (fun k=>aC.j1 k Y s h l u d e q r true) R:=by
  intro q r he hr0 hr hlt hq hnext hnext2
  by_cases hb:r+h<4294967296
  ·have hE:Ev (fun k=>aC.l0 k Y s h l u d e (q-1) (r+h)) R:=by
    by_cases hx:Q<q-1
    ·exact hnext hx
    ·exact hnext2 hb (by omega)
   refine Ev.step (fun k=>?_) hE
   simp only[aC.j1,if_true]
   rw[aX (r+h) (by omega) (by omega),if_neg (by omega),aX (q-1) (by omega) (by omega)]
  ·have hle:q-1≤Q:=by
    rw[←hQ]
    refine jq (r:=r+h) hY hl hh ?_ ?_
    ·rw[Int.sub_mul];omega
    ·have:=fT (a:=q-1) (b:=l) (A:=4294967296) (B:=4294967295) (by omega) hl (by omega) (by omega)
     omega
   have hQe:Q=q-1:=by omega
   refine Ev.step (fun k=>?_) hR
   simp only[aC.j1,if_true]
   rw[aX (r+h) (by omega) (by omega),if_pos (by omega),aX (q-1) (by omega) (by omega),hQe]
 induction n with
 |zero=>
  intro q r he hr0 hr hQq hq hn
  obtain rfl:Q=q:=by omega
  have hnc: ¬(4294967296*r+d<Q*l):=by
   intro hc
   have:=pz hY hl hh he hc
   omega
  have hm:=fT (a:=Q) (b:=l) (A:=4294967297) (B:=4294967295) (by omega) hl (by omega) (by omega)
  have hm0:0≤Q*l:=Int.mul_nonneg hq0 hl
  refine Ev.step (f:=fun k=>aC.j1 k Y s h l u d e Q r false) (fun k=>?_) (Ev.step (fun k=>?_) hR)
  ·simp only[aC.l0]
   rw[if_neg (by omega),aX (Q*l) hm0 (by omega),aX (4294967296*r) (by omega) (by omega),aX (4294967296*r+d) (by omega) (by omega),decide_eq_false (by omega)]
  ·simp only[aC.j1]
   rw[if_neg (by simp)]
 |succ n ih=>
  intro q r he hr0 hr hQq hq hn
  have hlt:Q<q:=by omega
  have hc:4294967296≤q∨4294967296*r+d<q*l:=by
   by_cases h1:4294967296≤q
   ·exact .inl h1
   ·right
    refine Classical.byContradiction fun h2=>?_
    have:=jq (q:=q) (r:=r) hY hl hh he (Int.not_lt.1 h2)
    omega
  have hj:=step q r he hr0 hr hlt hq (fun hx=>by
    by_cases hb:r+h<4294967296
    ·exact ih (q-1) (r+h) (by rw[Int.sub_mul];omega) (by omega) hb (by omega) (by omega) (by omega)
    ·exfalso
     have hle:q-1≤Q:=by
      rw[←hQ]
      refine jq (r:=r+h) hY hl hh ?_ ?_
      ·rw[Int.sub_mul];omega
      ·have:=fT (a:=q-1) (b:=l) (A:=4294967296) (B:=4294967295) (by omega) hl (by omega) (by omega)
       omega
     omega)
   (fun hb hx=>ih (q-1) (r+h) (by rw[Int.sub_mul];omega) (by omega) hb (by omega) (by omega) (by omega))
  have hm:=fT (a:=q) (b:=l) (A:=4294967297) (B:=4294967295) (by omega) hl (by omega) (by omega)
  have hm0:0≤q*l:=Int.mul_nonneg (by omega) hl
  refine Ev.step (fun k=>?_) hj
  simp only[aC.l0]
  by_cases h1:4294967296≤q
  ·rw[if_pos (by omega)]
  ·rw[if_neg (by omega),aX (q*l) hm0 (by omega),aX (4294967296*r) (by omega) (by omega),aX (4294967296*r+d) (by omega) (by omega),decide_eq_true (by omega)]
theorem zH{q1:Int}(hY:Y=h*4294967296+l)(hl:0≤l)(hl2:l<4294967296)(hh:2147483648≤h)(hh2:h<4294967296)(hu0:0≤u)(hu:u<Y)(hd0:0≤d)(hd:d<4294967296)(hs:0≤s)(hq1:0≤q1)(hq1':q1<4294967296)(n:Nat):
  ∀q r:Int,q*h+r=u→0≤r→r<4294967296→(u*4294967296+d)/Y≤q→q≤4294967297→q-(u*4294967296+d)/Y=n→
  Ev (fun k=>aC.l1 k Y s h l d q1 r u q) (q1*4294967296+(u*4294967296+d)/Y,shr .u64 ((u*4294967296+d)%Y) s):=by
 have hp:0<Y:=by omega
 have htop:=lq hp hu hd
 have hq0:0≤(u*4294967296+d)/Y:=Int.ediv_nonneg (by omega) (by omega)
 have hmod:(u*4294967296+d)-(u*4294967296+d)/Y*Y=(u*4294967296+d)%Y:=by
  have:=Int.mul_ediv_add_emod (u*4294967296+d) Y
  rw[Int.mul_comm] at this
  omega
 have hm1:=Int.emod_lt_of_pos (u*4294967296+d) hp
 have hm0:=Int.emod_nonneg (u*4294967296+d) (by omega:Y≠0)
 have hrest:IntKind.u64.wrap (IntKind.u64.wrap (IntKind.u64.wrap (u*4294967296)+d)-IntKind.u64.wrap ((u*4294967296+d)/Y*Y))=(u*4294967296+d)%Y:=by
  simp only[kQ]
  omega
 generalize hQ:(u*4294967296+d)/Y=Q at*
 have step: ∀q r:Int,q*h+r=u→0≤r→r<4294967296→Q<q→q≤4294967297→
   (r+h<4294967296→Ev (fun k=>aC.l1 k Y s h l d q1 (r+h) u (q-1)) (q1*4294967296+Q,shr .u64 ((u*4294967296+d)%Y) s))→
   Ev (fun k=>aC.j4 k Y s h l d q1 r u q true) (q1*4294967296+Q,shr .u64 ((u*4294967296+d)%Y) s):=by
  intro q r he hr0 hr hlt hq hnext
  by_cases hb:r+h<4294967296
  ·refine Ev.step (fun k=>?_) (hnext hb)
   simp only[aC.j4,if_true]
   rw[aX (r+h) (by omega) (by omega),if_neg (by omega),aX (q-1) (by omega) (by omega)]
  ·have hle:q-1≤Q:=by
    rw[←hQ]
    refine jq (r:=r+h) hY hl hh ?_ ?_
    ·rw[Int.sub_mul];omega
    ·have:=fT (a:=q-1) (b:=l) (A:=4294967296) (B:=4294967295) (by omega) hl (by omega) (by omega)
     omega
   have hQe:q-1=Q:=by omega
   refine Ev.step (fun k=>?_) (Ev.now _)
   simp only[aC.j4,if_true]
   rw[aX (r+h) (by omega) (by omega),if_pos (by omega),if_pos hs,aX (q-1) (by omega) (by omega),hQe,hrest,aX (q1*4294967296) (by omega) (by omega),aX (q1*4294967296+Q) (by omega) (by omega)]
 induction n with
 |zero=>
  intro q r he hr0 hr hQq hq hn
  obtain rfl:Q=q:=by omega
  have hnc: ¬(4294967296*r+d<Q*l):=by
   intro hc
   have:=pz hY hl hh he hc
   omega
  have hm:=fT (a:=Q) (b:=l) (A:=4294967297) (B:=4294967295) (by omega) hl (by omega) (by omega)
  have hmm:0≤Q*l:=Int.mul_nonneg hq0 hl
  refine Ev.step (f:=fun k=>aC.j4 k Y s h l d q1 r u Q false) (fun k=>?_) (Ev.step (fun k=>?_) (Ev.now _))
  ·simp only[aC.l1]
   rw[if_neg (by omega),aX (Q*l) hmm (by omega),aX (4294967296*r) (by omega) (by omega),aX (4294967296*r+d) (by omega) (by omega),decide_eq_false (by omega)]
  ·simp only[aC.j4]
   rw[if_neg (by simp),if_pos hs,hrest,aX (q1*4294967296) (by omega) (by omega),aX (q1*4294967296+Q) (by omega) (by omega)]
 |succ n ih=>
  intro q r he hr0 hr hQq hq hn
  have hlt:Q<q:=by omega
  have hc:4294967296≤q∨4294967296*r+d<q*l:=by
   by_cases h1:4294967296≤q
   ·exact .inl h1
   ·right
    refine Classical.byContradiction fun h2=>?_
    have:=jq (q:=q) (r:=r) hY hl hh he (Int.not_lt.1 h2)
    omega
  have hj:=step q r he hr0 hr hlt hq (fun hb=>ih (q-1) (r+h) (by rw[Int.sub_mul];omega) (by omega) hb (by omega) (by omega) (by omega))
  have hm:=fT (a:=q) (b:=l) (A:=4294967297) (B:=4294967295) (by omega) hl (by omega) (by omega)
  have hmm:0≤q*l:=Int.mul_nonneg (by omega) hl
  refine Ev.step (fun k=>?_) hj
  simp only[aC.l1]
  by_cases h1:4294967296≤q
  ·rw[if_pos (by omega)]
  ·rw[if_neg (by omega),aX (q*l) hmm (by omega),aX (4294967296*r) (by omega) (by omega),aX (4294967296*r+d) (by omega) (by omega),decide_eq_true (by omega)]
end
section
variable {Y s h l u d e:Int}
theorem zr(hY:Y=h*4294967296+l)(hl:0≤l)(hl2:l<4294967296)(hh:2147483648≤h)(hh2:h<4294967296)(hu0:0≤u)(hu:u<Y)(hd0:0≤d)(hd:d<4294967296)(he0:0≤e)(he:e<4294967296)(hs:0≤s):
  Ev (fun k=>aC.j2 k Y s h l u d e ((u*4294967296+d)/Y)) ((u*4294967296+d)/Y*4294967296+((u*4294967296+d)%Y*4294967296+e)/Y,shr .u64 (((u*4294967296+d)%Y*4294967296+e)%Y) s):=by
 have hp:0<Y:=by omega
 have htop:=lq hp hu hd
 have hq0:0≤(u*4294967296+d)/Y:=Int.ediv_nonneg (by omega) (by omega)
 have hmod:(u*4294967296+d)-(u*4294967296+d)/Y*Y=(u*4294967296+d)%Y:=by
  have:=Int.mul_ediv_add_emod (u*4294967296+d) Y
  rw[Int.mul_comm] at this
  omega
 have hm1:=Int.emod_lt_of_pos (u*4294967296+d) hp
 have hm0:=Int.emod_nonneg (u*4294967296+d) (by omega:Y≠0)
 have hrest:IntKind.u64.wrap (IntKind.u64.wrap (IntKind.u64.wrap (u*4294967296)+d)-IntKind.u64.wrap ((u*4294967296+d)/Y*Y))=(u*4294967296+d)%Y:=by
  simp only[kQ]
  omega
 generalize(u*4294967296+d)/Y=q1 at*
 generalize(u*4294967296+d)%Y=v at*
 have hv:v/h*h+v%h=v:=by
  have:=Int.mul_ediv_add_emod v h
  rw[Int.mul_comm] at this
  exact this
 have hvm1:=Int.emod_lt_of_pos v (by omega:0<h)
 have hvm0:=Int.emod_nonneg v (by omega:h≠0)
 have hvd0:0≤v/h:=Int.ediv_nonneg hm0 (by omega)
 have hvd1:v/h≤4294967297:=by
  have:v/h<4294967298:=Int.ediv_lt_of_lt_mul (by omega) (by omega)
  omega
 have hle:(v*4294967296+e)/Y≤v/h:=by
  refine Classical.byContradiction fun hn=>?_
  have h1:=Int.ediv_mul_le (v*4294967296+e) (by omega:Y≠0)
  have h2:(v/h+1)*Y≤(v*4294967296+e)/Y*Y:=Int.mul_le_mul_of_nonneg_right (by omega) (by omega)
  have h3:(v/h+1)*Y=(v/h*h+h)*4294967296+(v/h+1)*l:=by rw[hY,Int.mul_add,←Int.mul_assoc,Int.add_mul (v/h) 1 h,Int.one_mul]
  have h4:0≤(v/h+1)*l:=Int.mul_nonneg (by omega) hl
  omega
 refine Ev.step (fun k=>?_) (zH (s:=s) (q1:=q1) hY hl hl2 hh hh2 hm0 hm1 he0 he hs hq0 htop ((v/h-(v*4294967296+e)/Y).toNat) (v/h) (v%h) hv hvm0 (by omega) hle hvd1 (by omega))
 simp only[aC.j2]
 rw[if_neg (by omega),hrest,dr hm0,aX (v/h) hvd0 (by omega),aX (v/h*h) (Int.mul_nonneg hvd0 (by omega)) (by omega),show v-v/h*h=v%h from by omega,aX (v%h) hvm0 (by omega)]
end
theorem nU(y:Nat)(h0:y≠0)(h:y<18446744073709551616):1≤Lib.bitLen y∧2^(Lib.bitLen y-1)≤y∧y<2^Lib.bitLen y:=
 Lib.bitLenAux_bounds 64 y h h0
theorem wJ{N y p Y q1 q0 w:Int}(hp:0<p)(hY:Y=y*p)(hN:N*p=(q1*4294967296+q0)*Y+w)(hw0:0≤w)(hw:w<Y):
  q1*4294967296+q0=N/y∧w/p=N%y:=by
 generalize q1*4294967296+q0=Q at*
 have hw':w=(N-Q*y)*p:=by rw[Int.sub_mul,hN,hY,Int.mul_assoc];omega
 have hyp:0<Y:=by omega
 have hr0:0≤N-Q*y:=by
  refine Classical.byContradiction fun hn=>?_
  have:(N-Q*y)*p<0:=Int.mul_neg_of_neg_of_pos (by omega) hp
  omega
 have hr1:N-Q*y<y:=by
  refine Int.lt_of_mul_lt_mul_right (a:=p) ?_ (by omega)
  rw[←hw',←hY];exact hw
 have hy:0<y:=by omega
 have e1:N/y=Q:=by
  rw[show N=(N-Q*y)+Q*y from by omega,Int.add_mul_ediv_right _ _ (by omega),Int.ediv_eq_zero_of_lt hr0 hr1];omega
 refine⟨e1.symm,?_⟩
 rw[hw',Int.mul_ediv_cancel _ (by omega)]
 have:=Int.mul_ediv_add_emod N y
 rw[e1,Int.mul_comm] at this
 omega
theorem nQ(S:Nat)(h:S≤64):(2:Int)^S*2^(64-S)=18446744073709551616:=by
 rw[←Int.pow_add,show S+(64-S)=64 from by omega];rfl
theorem nT(a0 a1 a2:Int)(h0:0≤a0)(h1:U a1)(h2:U a2)(h:a0<a2):
  Ev (fun k=>aC.f k a0 a1 a2) ((a0*18446744073709551616+a1)/a2,(a0*18446744073709551616+a1)%a2):=by
 unfold U at h1 h2
 by_cases hz:a0=0
 ·subst hz
  refine Ev.congr (fun k=>?_) (Ev.now _)
  unfold aC.f
  rw[if_neg (by omega),if_neg (by omega),if_pos rfl,dr h1.1,bH h1.1,aX _ (Int.ediv_nonneg h1.1 (by omega)) (by have:=Int.ediv_le_self a2 h1.1;omega)]
  simp
 ·obtain⟨y,rfl⟩:=Int.eq_ofNat_of_zero_le h2.1
  obtain⟨b1,b2,b3⟩:=nU y (by omega) (by omega)
  have b4:Lib.bitLen y≤64:=Lib.bitLen_le y 64 (by omega) (by have:=h2.2;omega)
  generalize hL:Lib.bitLen y=L at*
  obtain⟨S,hS,hS2⟩: ∃S:Nat,64-(L:Int)=S∧S=64-L:=⟨64-L,by omega,rfl⟩
  have hP:=nQ S (by omega)
  have hp0:(0:Int)<2^S:=Int.pow_pos (by omega)
  have hp1:(0:Int)<2^(64-S):=Int.pow_pos (by omega)
  have hLS:64-S=L:=by omega
  have hb3:((y:Int))<2^(64-S):=by rw[hLS];exact_mod_cast b3
  have hb2:(2:Int)^(64-S)≤2*y:=by
   rw[hLS,show L=(L-1)+1 from by omega,Int.pow_succ]
   have:((2^(L-1):Nat):Int)≤y:=by exact_mod_cast b2
   rw[Int.natCast_pow] at this
   have e2:((2:Nat):Int)=2:=rfl
   rw[e2] at this
   omega
  have hYlt:(y:Int)*2^S<18446744073709551616:=by
   rw[←hP,Int.mul_comm ((2:Int)^S)];exact Int.mul_lt_mul_of_pos_right hb3 hp0
  have hYge:(9223372036854775808:Int)≤y*2^S:=by
   have:(2:Int)^(64-S)*2^S≤2*y*2^S:=Int.mul_le_mul_of_nonneg_right hb2 (by omega)
   rw[Int.mul_comm ((2:Int)^(64-S)),hP,Int.mul_assoc] at this
   omega
  have hs1:shl .u64 (y:Int) (S:Int)=y*2^S:=by
   unfold shl
   rw[show min ((S:Int)).toNat IntKind.u64.bits=S from by simp[IntKind.bits]<;>omega,aX _ (by omega) hYlt]
  have hlt0:a0*2^S<y*2^S:=Int.mul_lt_mul_of_pos_right h hp0
  have hs2:shl .u64 a0 (S:Int)=a0*2^S:=by
   unfold shl
   rw[show min ((S:Int)).toNat IntKind.u64.bits=S from by simp[IntKind.bits]<;>omega,aX _ (Int.mul_nonneg h0 (by omega)) (by omega)]
  have hs3:shr .u64 a1 ((64-S:Int))=a1/2^(64-S):=by
   unfold shr
   rw[show min ((64-S:Int)).toNat IntKind.u64.bits=64-S from by simp[IntKind.bits]<;>omega]
  have hs4:shl .u64 a1 (S:Int)=(a1*2^S)%18446744073709551616:=by
   unfold shl
   rw[show min ((S:Int)).toNat IntKind.u64.bits=S from by simp[IntKind.bits]<;>omega,kQ]
  have hq:a1/2^(64-S)<2^S:=by
   refine Int.ediv_lt_of_lt_mul hp1 ?_
   rw[hP];exact h1.2
  have hq0:0≤a1/2^(64-S):=Int.ediv_nonneg h1.1 (by omega)
  have hdiv:(a1*2^S)/18446744073709551616=a1/2^(64-S):=by
   rw[←hP,Int.mul_comm a1,Int.mul_ediv_mul_of_pos _ _ hp0]
  have hun10:=Int.mul_ediv_add_emod (a1*2^S) 18446744073709551616
  rw[hdiv] at hun10
  have hor:Go.bits .or .u64 (a0*2^S) (a1/2^(64-S))=a0*2^S+a1/2^(64-S):=by
   have hpow:((2:Int)^S)≤18446744073709551616:=by
    rw[←hP]
    have:=Int.mul_le_mul_of_nonneg_left (by omega:(1:Int)≤2^(64-S)) (by omega:(0:Int)≤2^S)
    omega
   exact bits_join .u64 64 (by decide) lg S (a0*2^S) (a1/2^(64-S)) (Int.mul_nonneg h0 (by omega)) (Int.mul_emod_left _ _) (by omega) hq0 hq (by omega)
  have hur:a0*2^S+a1/2^(64-S)<y*2^S:=by
   have:(a0+1)*2^S≤y*2^S:=Int.mul_le_mul_of_nonneg_right (by omega) (by omega)
   rw[Int.add_mul,Int.one_mul] at this
   omega
  have hmul0:0≤a0*2^S:=Int.mul_nonneg h0 (by omega)
  have hN:(a0*18446744073709551616+a1)*2^S=(a0*2^S+a1/2^(64-S))*18446744073709551616+(a1*2^S)%18446744073709551616:=by
   have e1:(a0*18446744073709551616+a1)*2^S=a0*2^S*18446744073709551616+a1*2^S:=by
    rw[Int.add_mul,Int.mul_right_comm]
   omega
  have hM0:=Int.emod_nonneg (a1*2^S) (by omega:(18446744073709551616:Int)≠0)
  have hM1:=Int.emod_lt_of_pos (a1*2^S) (by omega:(0:Int)<18446744073709551616)
  have hshr: ∀w:Int,shr .u64 w (S:Int)=w/2^S:=by
   intro w
   unfold shr
   rw[show min ((S:Int)).toNat IntKind.u64.bits=S from by simp[IntKind.bits]<;>omega]
  generalize hu:a0*2^S+a1/2^(64-S)=u at*
  generalize hm:(a1*2^S)%18446744073709551616=m at*
  generalize hp:(2:Int)^S=p at*
  generalize hYY:(y:Int)*p=Y at*
  have hYdm:Y=Y/4294967296*4294967296+Y%4294967296:=by omega
  have ev2:=zr (s:=(S:Int)) (Y:=Y) (h:=Y/4294967296) (l:=Y%4294967296) (u:=u) (d:=m/4294967296) (e:=m%4294967296) hYdm (by omega) (by omega) (by omega) (by omega) (by omega) hur (by omega) (by omega) (by omega) (by omega) (by omega)
  have hp':0<Y:=by omega
  have hu1:u/(Y/4294967296)*(Y/4294967296)+u% (Y/4294967296)=u:=by
   have:=Int.mul_ediv_add_emod u (Y/4294967296)
   rw[Int.mul_comm] at this
   exact this
  have hvm1:=Int.emod_lt_of_pos u (by omega:0<Y/4294967296)
  have hvm0:=Int.emod_nonneg u (by omega:Y/4294967296≠0)
  have hvd0:0≤u/(Y/4294967296):=Int.ediv_nonneg (by omega) (by omega)
  have hvd1:u/(Y/4294967296)≤4294967297:=by
   have:u/(Y/4294967296)<4294967298:=Int.ediv_lt_of_lt_mul (by omega) (by omega)
   omega
  have hle:(u*4294967296+m/4294967296)/Y≤u/(Y/4294967296):=by
   refine Classical.byContradiction fun hn=>?_
   have g1:=Int.ediv_mul_le (u*4294967296+m/4294967296) (by omega:Y≠0)
   have g2:(u/(Y/4294967296)+1)*Y≤(u*4294967296+m/4294967296)/Y*Y:=Int.mul_le_mul_of_nonneg_right (by omega) (by omega)
   have g3:(u/(Y/4294967296)+1)*Y=(u/(Y/4294967296)*(Y/4294967296)+Y/4294967296)*4294967296+(u/(Y/4294967296)+1)*(Y%4294967296):=by
    have:(u/(Y/4294967296)+1)*Y=(u/(Y/4294967296)+1)*(Y/4294967296*4294967296+Y%4294967296):=by rw[←hYdm]
    rw[this,Int.mul_add,←Int.mul_assoc,Int.add_mul (u/(Y/4294967296)) 1 (Y/4294967296),Int.one_mul]
   have g4:0≤(u/(Y/4294967296)+1)*(Y%4294967296):=Int.mul_nonneg (by omega) (by omega)
   omega
  have ev0:=zo (s:=(S:Int)) hYdm (by omega) (by omega) (by omega) (by omega) (by omega) hur (by omega) (by omega) ev2 ((u/(Y/4294967296)-(u*4294967296+m/4294967296)/Y).toNat) (u/(Y/4294967296)) (u% (Y/4294967296)) hu1 hvm0 (by omega) hle hvd1 (by omega)
  have hdm1:=Int.mul_ediv_add_emod (u*4294967296+m/4294967296) Y
  have hdm2:=Int.mul_ediv_add_emod ((u*4294967296+m/4294967296)%Y*4294967296+m%4294967296) Y
  have hw1:=Int.emod_lt_of_pos ((u*4294967296+m/4294967296)%Y*4294967296+m%4294967296) hp'
  have hw0:=Int.emod_nonneg ((u*4294967296+m/4294967296)%Y*4294967296+m%4294967296) (by omega:Y≠0)
  generalize(u*4294967296+m/4294967296)/Y=q1 at*
  generalize(u*4294967296+m/4294967296)%Y=v at*
  generalize(v*4294967296+m%4294967296)/Y=q2 at*
  generalize(v*4294967296+m%4294967296)%Y=w at*
  obtain⟨j1,j2⟩:=wJ (N:=a0*18446744073709551616+a1) (y:=(y:Int)) (p:=p) (Y:=Y) (q1:=q1) (q0:=q2) (w:=w) hp0 hYY.symm (by
   rw[hN]
   have:(q1*4294967296+q2)*Y=Y*q1*4294967296+Y*q2:=by rw[Int.add_mul,Int.mul_right_comm,Int.mul_comm q1,Int.mul_comm q2]
   omega) hw0 hw1
  rw[j1,hshr,j2] at ev0
  refine Ev.congr (fun k=>?_) ev0
  unfold aC.f bits_LeadingZeros64.f
  rw[if_neg (by omega),if_neg (by omega),if_neg hz,if_pos (by omega)]
  simp only[Option.bind_some,Int.toNat_natCast,hL,hS]
  rw[aX (S:Int) (by omega) (by omega),aX (64-(S:Int)) (by omega) (by omega),if_pos (by omega),if_pos (by omega),hs1,hs2,hs3,hs4,hor,if_neg (by omega),dr (by omega),
   yK Y (by unfold U;omega),yK m (by unfold U;omega),aX (u/(Y/4294967296)) hvd0 (by omega),aX (u/(Y/4294967296)*(Y/4294967296)) (Int.mul_nonneg hvd0 (by omega)) (by omega),show u-u/(Y/4294967296)*(Y/4294967296)=u% (Y/4294967296) from by omega,aX (u% (Y/4294967296)) hvm0 (by omega)]
theorem iE(a0 a1 a2:Int)(h0:U a0)(h1:U a1)(h2:U a2)(h:a2≠0):
  Ev (fun k=>dD.f k a0 a1 a2) ((a0*18446744073709551616+a1)%a2):=by
 have hp:0<a2:=by unfold U at h2;omega
 have hm0:=Int.emod_nonneg a0 h
 have hm1:=Int.emod_lt_of_pos a0 hp
 have e:=nT (a0%a2) a1 a2 hm0 h1 h2 hm1
 have hmod:(a0%a2*18446744073709551616+a1)%a2=(a0*18446744073709551616+a1)%a2:=by
  rw[Int.add_emod,Int.mul_emod,Int.emod_emod,←Int.mul_emod,←Int.add_emod]
 have e2:Ev (fun k=>(aC.f k (a0%a2) a1 a2).bind fun b=>(some b.2)) ((a0%a2*18446744073709551616+a1)%a2):=Ev.bind e (Ev.now _)
 rw[hmod] at e2
 refine Ev.congr (fun k=>?_) e2
 unfold dD.f
 rw[if_neg h,bH h0.1]
end Go.Proofs.YtndkmnjbjlfeaaaGreat.XS
end
section
namespace Go.Proofs.YtndkmnjbjlfeaaaGreat.Mont
open Go Go.RowKit Go.Proofs.YtndkmnjbjlfeaaaGreatW.PrintWords Go.Proofs.YtndkmnjbjlfeaaaGreatW.PrintLast Go.Proofs.YtndkmnjbjlfeaaaGreatW.PrintMore Go.Proofs.YtndkmnjbjlfeaaaGreat.Given Go.Proofs.YtndkmnjbjlfeaaaGreat.M Go.Proofs.YtndkmnjbjlfeaaaGreat.XS
def fQ(W:World)(g:Nat)(m t:Int):Prop:=W.heap[g]?=some (.cells #[.int .u64 m, .int .u64 t, .int .u64 (kE m), .int .u64 (zG m)] 178 (0,0))
def eN(W:World)(v:Value)(m:Int):Prop:= ∃(g:Nat) (t:Int),v= .pointer (some ⟨g,0,none⟩)∧fQ W g m t∧cy m∧U t∧(18446744073709551616:Int)∣m*t+1
def zc(W:World)(v:Value):Option Int→Prop
 |none=>v= .pointer none
 |some m=>eN W v m
theorem eN.below{W W1:World}{v:Value}{m:Int}(h:eN W v m)(hb:Below W.heap.size W W1):eN W1 v m:=by
 obtain⟨g,t,e,hc,r⟩:=h
 exact⟨g,t,e,aU hc hb,r⟩
theorem zc.below{W W1:World}{v:Value}{o:Option Int}(h:zc W v o)(hb:Below W.heap.size W W1):zc W1 v o:=by
 cases o with
 |none=>exact h
 |some m=>exact eN.below h hb
theorem eN.drewN{W:World}{v:Value}{m:Int}(h:eN W v m)(n:Nat):eN (W.drewN n) v m:=h
section
variable {W:World} {g:Nat} {m t:Int} (h:fQ W g m t)
include h
theorem fQ.c0:W.cell? ⟨g,0,none⟩=some (.int .u64 m):=(aj h 0).trans rfl
theorem fQ.c1:W.cell? ⟨g,1,none⟩=some (.int .u64 t):=(aj h 1).trans rfl
theorem fQ.c2:W.cell? ⟨g,2,none⟩=some (.int .u64 (kE m)):=(aj h 2).trans rfl
theorem fQ.c3:W.cell? ⟨g,3,none⟩=some (.int .u64 (zG m)):=(aj h 3).trans rfl
end
set_option maxHeartbeats 1000000 in
theorem dH{g:Nat}{m t x r:Int}{w:World}(hc:fQ w g m t)(hm:cy m)(hx:U x)(hr:aa (r=x%m)):
  Calls Tryz.prog 131 #[.pointer (some ⟨g,0,none⟩), .int .u64 x] w fun e w'=>e= .returned (.int .u64 r)∧au w w':=by
 have h0:=hc.c0
 have f0:=ab hc 0
 clear hc
 by_cases h1:m≤x
 ·have hb:decide (m≤x)=true:=decide_eq_true h1
  have hz:(m==0)=false:=beq_eq_false_iff_ne.mpr (jd hm)
  have hz1: ¬m=0:=jd hm
  have hx0:0≤x:=hx.1
  clear hm hx h1
  go_enter Tryz.func131,Tryz.ntmps131
  go_wp2
  go_ret
  exact⟨by rw[hr.out]<;>first|rfl|(simp;done),au.refl _⟩
 ·have hb:decide (m≤x)=false:=decide_eq_false h1
  have he:x%m=x:=Int.emod_eq_of_lt hx.1 (by omega)
  have hr':=aa.mk (hr.out.trans he)
  clear hm hx h1 he
  go_enter Tryz.func131,Tryz.ntmps131
  go_wp2
  go_ret
  exact⟨by rw[hr'.out]<;>first|rfl|(simp;done),au.refl _⟩
set_option maxHeartbeats 2000000 in
theorem gU{g:Nat}{m t hi lo r:Int}{w:World}(hc:fQ w g m t)(hm:cy m)(hd:(18446744073709551616:Int)∣m*t+1)(h0:0≤hi)(h1:hi<m)(hl:U lo)(hr:aa (r=j8 m (hi*18446744073709551616+lo))):
  Calls Tryz.prog 130 #[.pointer (some ⟨g,0,none⟩), .int .u64 hi, .int .u64 lo] w fun e w'=>e= .returned (.int .u64 r)∧au w w':=by
 obtain⟨q,hq⟩: ∃q,q=lo*t%18446744073709551616:=⟨_,rfl⟩
 obtain⟨P,hP⟩: ∃P,P=q*m:=⟨_,rfl⟩
 obtain⟨h,hh⟩: ∃h,h=P/18446744073709551616:=⟨_,rfl⟩
 obtain⟨l,hll⟩: ∃l,l=P%18446744073709551616:=⟨_,rfl⟩
 obtain⟨c,hcc⟩: ∃c,c=(lo+l)/18446744073709551616:=⟨_,rfl⟩
 obtain⟨T,hT⟩: ∃T,T=hi+h+c:=⟨_,rfl⟩
 obtain⟨r0,r1,r2,r3,r4,r5,r6,r7⟩:=AU hm hd h0 h1 hl.1 hl.2 hq hP hh hll hcc hT
 have hend:=pk r5 r6 r7
 have hmU:=k6 hm
 have hq0:U q:=by rw[hq];unfold U;omega
 have hw:IntKind.u64.wrap (lo*t)=q:=by rw[kQ,hq]
 have m1:bits_Mul64.f (IntKind.u64.wrap (lo*t)) m=some (h,l):=by
  unfold bits_Mul64.f
  rw[hw,if_pos ⟨hq0.1,hq0.2,hmU.1,hmU.2⟩,hh,hll,hP]
 obtain⟨s1,a1⟩: ∃s1,dJ.f lo l 0=some (s1,c):=by
  refine⟨(lo+l+0)%18446744073709551616,?_⟩
  unfold dJ.f
  rw[if_pos ⟨hl.1,r1,by omega,by omega⟩,hcc,Int.add_zero]
 obtain⟨c2,a2⟩: ∃c2,dJ.f hi h c=some (T,c2):=by
  refine⟨(hi+h+c)/18446744073709551616,?_⟩
  unfold dJ.f
  rw[if_pos ⟨h0,r0,r3,r4⟩,←hT,Int.emod_eq_of_lt r5 (by unfold cy at hm;omega)]
 have x1:=fun W=>dJ.run lo l 0 s1 c W a1
 have x2:=fun W=>dJ.run hi h c T c2 W a2
 have M1:=aa.mk m1
 have k0:=hc.c0
 have k1:=hc.c1
 have f0:=ab hc 0
 have f1:=ab hc 1
 by_cases hTm:m≤T
 ·have hb:decide (m≤T)=true:=decide_eq_true hTm
  have e1:r=IntKind.u64.wrap (T-m):=by rw[hr.out,←hend,if_pos hTm,aX _ (by omega) (by unfold cy at hm;omega)]
  have E1:=aa.mk e1
  clear e1 hc hm hd h0 h1 hl hr hq hP hh hll hcc hT r0 r1 r2 r3 r4 r5 r6 r7 hend hmU hq0 hw m1 a1 a2 hTm
  go_enter Tryz.func130,Tryz.ntmps130
  go_wp2
  repeat(go_quiet (first|(go_at_call 125;(with_reducible refine(bits_Mul64.calls _ _ h l _ M1.out).mono ?_);rintro e w' ⟨rfl,⟨nd,rfl⟩⟩;(try first|exact qA|exact qB)));try go_wp2)
  go_ret
  exact⟨by rw[E1.out]<;>first|rfl|(simp;done),by repeat(first|exact au.refl _|apply au.step)⟩
 ·have hb:decide (m≤T)=false:=decide_eq_false hTm
  have e1:r=T:=by rw[hr.out,←hend,if_neg hTm]
  have E1:=aa.mk e1
  clear e1 hc hm hd h0 h1 hl hr hq hP hh hll hcc hT r0 r1 r2 r3 r4 r5 r6 r7 hend hmU hq0 hw m1 a1 a2 hTm
  go_enter Tryz.func130,Tryz.ntmps130
  go_wp2
  repeat(go_quiet (first|(go_at_call 125;(with_reducible refine(bits_Mul64.calls _ _ h l _ M1.out).mono ?_);rintro e w' ⟨rfl,⟨nd,rfl⟩⟩;(try first|exact qA|exact qB)));try go_wp2)
  go_ret
  exact⟨by rw[E1.out]<;>first|rfl|(simp;done),by repeat(first|exact au.refl _|apply au.step)⟩
theorem l7{x y h l:Int}{w:World}(hr:aa (bits_Mul64.f x y=some (h,l))):
  Calls Tryz.prog 125 #[.int .u64 x, .int .u64 y] w fun e w'=>e= .returned (.tuple #[.int .u64 h, .int .u64 l])∧au w w':=
 bits_Mul64.calls x y h l w hr.out
set_option maxHeartbeats 2000000 in
theorem fG{v:Value}{m x y r:Int}{w:World}(hc:eN w v m)(hx:U x)(hy:U y)(hr:aa (r=jl m x y)):
  Calls Tryz.prog 100 #[v, .int .u64 x, .int .u64 y] w fun e w'=>e= .returned (.int .u64 r)∧au w w':=by
 obtain⟨g,t,rfl,hb,hm,ht,hd⟩:=hc
 obtain⟨x',hx'⟩: ∃x',x'=x%m:=⟨_,rfl⟩
 obtain⟨y',hy'⟩: ∃y',y'=y%m:=⟨_,rfl⟩
 have ux:=jt hm x
 have uy:=jt hm y
 have lx:=mG hm x
 have ly:=mG hm y
 rw[←hx'] at ux lx
 rw[←hy'] at uy ly
 have p0:0≤x'*y':=Int.mul_nonneg ux.1 uy.1
 have p1:x'*y'≤(m-1)*(m-1):=Int.mul_le_mul (by omega) (by omega) uy.1 (by unfold cy at hm;omega)
 have p2:(m-1)*(m-1)<m*18446744073709551616:=by
  have:(m-1)*(m-1)≤(m-1)*18446744073709551616:=Int.mul_le_mul_of_nonneg_left (by unfold cy at hm;omega) (by unfold cy at hm;omega)
  unfold cy at hm;omega
 obtain⟨h,hh⟩: ∃h,h=x'*y'/18446744073709551616:=⟨_,rfl⟩
 obtain⟨l,hl⟩: ∃l,l=x'*y'%18446744073709551616:=⟨_,rfl⟩
 have M1:aa (bits_Mul64.f x' y'=some (h,l)):=⟨by unfold bits_Mul64.f;rw[if_pos ⟨ux.1,ux.2,uy.1,uy.2⟩,hh,hl]⟩
 have R1:aa (r=j8 m (h*18446744073709551616+l)):=⟨by
  rw[hr.out,←tv,←hx',←hy',hh,hl];congr 1;omega⟩
 have X1:=aa.mk hx'
 have Y1:=aa.mk hy'
 have h0:0≤h:=by rw[hh];omega
 have h1:h<m:=by rw[hh];omega
 have lU:U l:=by rw[hl];unfold U;omega
 have HB:=aa.mk hb
 have HN:aa (∀n,fQ (w.drewN n) g m t):=⟨fun _=>hb⟩
 have HM:=aa.mk hm
 have HD:=aa.mk hd
 have HX:=aa.mk hx
 have HY:=aa.mk hy
 have H0:=aa.mk h0
 have H1:=aa.mk h1
 have HL:=aa.mk lU
 clear hx' hy' ux uy lx ly p0 p1 p2 hh hl h0 h1 lU hb hm ht hd hx hy hr
 go_enter Tryz.func100,Tryz.ntmps100
 go_wp2_with (first
  |(go_at_call 131;(with_reducible refine(dH HB.out HM.out HX.out X1).mono ?_);rintro e w' ⟨rfl,⟨nd,rfl⟩⟩;(try first|exact qA|exact qB))
  |(go_at_call 131;(with_reducible refine(dH (HN.out _) HM.out HX.out X1).mono ?_);rintro e w' ⟨rfl,⟨nd,rfl⟩⟩;(try first|exact qA|exact qB))
  |(go_at_call 131;(with_reducible refine(dH HB.out HM.out HY.out Y1).mono ?_);rintro e w' ⟨rfl,⟨nd,rfl⟩⟩;(try first|exact qA|exact qB))
  |(go_at_call 131;(with_reducible refine(dH (HN.out _) HM.out HY.out Y1).mono ?_);rintro e w' ⟨rfl,⟨nd,rfl⟩⟩;(try first|exact qA|exact qB))
  |(go_at_call 125;(with_reducible refine(l7 M1).mono ?_);rintro e w' ⟨rfl,⟨nd,rfl⟩⟩;(try first|exact qA|exact qB))
  |(go_at_call 130;(with_reducible refine(gU HB.out HM.out HD.out H0.out H1.out HL.out R1).mono ?_);rintro e w' ⟨rfl,⟨nd,rfl⟩⟩;(try first|exact qA|exact qB))
  |(go_at_call 130;(with_reducible refine(gU (HN.out _) HM.out HD.out H0.out H1.out HL.out R1).mono ?_);rintro e w' ⟨rfl,⟨nd,rfl⟩⟩;(try first|exact qA|exact qB))
  )
 go_ret
 exact⟨by first|rfl|(simp;done),by repeat(first|exact au.refl _|apply au.step)⟩
set_option maxHeartbeats 2000000 in
theorem iQ{v:Value}{m x r:Int}{w:World}(hc:eN w v m)(hx:U x)(hr:aa (r=j8 m x)):
  Calls Tryz.prog 101 #[v, .int .u64 x] w fun e w'=>e= .returned (.int .u64 r)∧au w w':=by
 obtain⟨g,t,rfl,hb,hm,ht,hd⟩:=hc
 obtain⟨x',hx'⟩: ∃x',x'=x%m:=⟨_,rfl⟩
 have ux:=jt hm x
 rw[←hx'] at ux
 have R1:aa (r=j8 m (0*18446744073709551616+x')):=⟨by rw[hr.out,hx',Int.zero_mul,Int.zero_add,tM]⟩
 have X1:=aa.mk hx'
 have h1:=mH hm
 have HB:=aa.mk hb
 have HN:aa (∀n,fQ (w.drewN n) g m t):=⟨fun _=>hb⟩
 have HM:=aa.mk hm
 have HD:=aa.mk hd
 have HX:=aa.mk hx
 have H1:=aa.mk h1
 have HL:=aa.mk ux
 clear hx' ux h1 hb hm ht hd hx hr
 go_enter Tryz.func101,Tryz.ntmps101
 go_wp2_with (first
  |(go_at_call 131;(with_reducible refine(dH HB.out HM.out HX.out X1).mono ?_);rintro e w' ⟨rfl,⟨nd,rfl⟩⟩;(try first|exact qA|exact qB))
  |(go_at_call 131;(with_reducible refine(dH (HN.out _) HM.out HX.out X1).mono ?_);rintro e w' ⟨rfl,⟨nd,rfl⟩⟩;(try first|exact qA|exact qB))
  |(go_at_call 130;(with_reducible refine(gU HB.out HM.out HD.out (Int.le_refl 0) H1.out HL.out R1).mono ?_);rintro e w' ⟨rfl,⟨nd,rfl⟩⟩;(try first|exact qA|exact qB))
  |(go_at_call 130;(with_reducible refine(gU (HN.out _) HM.out HD.out (Int.le_refl 0) H1.out HL.out R1).mono ?_);rintro e w' ⟨rfl,⟨nd,rfl⟩⟩;(try first|exact qA|exact qB))
  )
 go_ret
 exact⟨by first|rfl|(simp;done),by repeat(first|exact au.refl _|apply au.step)⟩
set_option maxHeartbeats 2000000 in
theorem fM{v:Value}{m x r:Int}{w:World}(hc:eN w v m)(hx:U x)(hr:aa (r=iv m x)):
  Calls Tryz.prog 98 #[v, .int .u64 x] w fun e w'=>e= .returned (.int .u64 r)∧au w w':=by
 have hc':=hc
 obtain⟨g,t,rfl,hb,hm,ht,hd⟩:=hc'
 obtain⟨s,hs⟩: ∃s,s=zG m:=⟨_,rfl⟩
 have us:U s:=by rw[hs];exact jt hm _
 have R1:aa (r=jl m x s):=⟨by rw[hr.out,hs,xN hm]⟩
 have k3:=hb.c3
 have f3:=ab hb 3
 rw[←hs] at k3
 have HB:=aa.mk hc
 have HN:aa (∀n,eN (w.drewN n) (.pointer (some ⟨g,0,none⟩)) m):=⟨fun _=>hc⟩
 have HX:=aa.mk hx
 have HL:=aa.mk us
 clear us hs hb hm ht hd hx hr hc
 go_enter Tryz.func98,Tryz.ntmps98
 go_wp2_with (first
  |(go_at_call 100;(with_reducible refine(fG HB.out HX.out HL.out R1).mono ?_);rintro e w' ⟨rfl,⟨nd,rfl⟩⟩;(try first|exact qA|exact qB))
  |(go_at_call 100;(with_reducible refine(fG (HN.out _) HX.out HL.out R1).mono ?_);rintro e w' ⟨rfl,⟨nd,rfl⟩⟩;(try first|exact qA|exact qB))
  )
 go_ret
 exact⟨by first|rfl|(simp;done),by repeat(first|exact au.refl _|apply au.step)⟩
theorem iN{v:Value}{m r:Int}{w:World}(hc:eN w v m)(hr:aa (r=kE m)):
  Calls Tryz.prog 166 #[v] w fun e w'=>e= .returned (.int .u64 r)∧au w w':=by
 obtain⟨g,t,rfl,hb,hm,ht,hd⟩:=hc
 have k2:=hb.c2
 have f2:=ab hb 2
 rw[←hr.out] at k2
 clear hb hm ht hd hr
 go_enter Tryz.func166,Tryz.ntmps166
 go_wp2
 go_ret
 exact⟨by first|rfl|(simp;done),by repeat(first|exact au.refl _|apply au.step)⟩
set_option maxHeartbeats 2000000 in
theorem qy{v:Value}{m x y r:Int}{w:World}(hc:eN w v m)(hx:U x)(hy:U y)(hr:aa (r=AQ m x y)):
  Calls Tryz.prog 127 #[v, .int .u64 x, .int .u64 y] w fun e w'=>e= .returned (.int .u64 r)∧au w w':=by
 obtain⟨g,t,rfl,hb,hm,ht,hd⟩:=hc
 obtain⟨x',hx'⟩: ∃x',x'=x%m:=⟨_,rfl⟩
 obtain⟨y',hy'⟩: ∃y',y'=y%m:=⟨_,rfl⟩
 have k0:=hb.c0
 have f0:=ab hb 0
 have X1:=aa.mk hx'
 have Y1:=aa.mk hy'
 have HB:=aa.mk hb
 have HN:aa (∀n,fQ (w.drewN n) g m t):=⟨fun _=>hb⟩
 have HM:=aa.mk hm
 have HX:=aa.mk hx
 have HY:=aa.mk hy
 have x0:=uA hm x
 have x1:=mG hm x
 have y0:=uA hm y
 have y1:=mG hm y
 have hmb:m<9223372036854775808:=hm.2.2
 have hs:r=(x'+y')%m:=by rw[hr.out,hx',hy',Int.emod_add_emod,Int.add_emod_emod];rfl
 rw[←hx'] at x0 x1
 rw[←hy'] at y0 y1
 have hend:=pk (T:=x'+y') (m:=m) (by omega) (by omega) hs.symm
 obtain⟨s,hs'⟩: ∃s,s=x'+y':=⟨_,rfl⟩
 have hw:IntKind.u64.wrap (x'+y')=s:=by rw[aX _ (by omega) (by omega),hs']
 by_cases hz:m≤s
 ·have b1:decide (m≤s)=true:=decide_eq_true hz
  have e1:r=IntKind.u64.wrap (s-m):=by rw[←hend,if_pos (by omega),aX _ (by omega) (by omega),hs']
  have E1:=aa.mk e1
  clear e1 hz hs hs' hend hx' hy' x0 x1 y0 y1 hmb hb hm ht hd hx hy hr
  go_enter Tryz.func127,Tryz.ntmps127
  go_wp2_with (first
   |(go_at_call 131;(with_reducible refine(dH HB.out HM.out HX.out X1).mono ?_);rintro e w' ⟨rfl,⟨nd,rfl⟩⟩;(try first|exact qA|exact qB))
   |(go_at_call 131;(with_reducible refine(dH (HN.out _) HM.out HX.out X1).mono ?_);rintro e w' ⟨rfl,⟨nd,rfl⟩⟩;(try first|exact qA|exact qB))
   |(go_at_call 131;(with_reducible refine(dH HB.out HM.out HY.out Y1).mono ?_);rintro e w' ⟨rfl,⟨nd,rfl⟩⟩;(try first|exact qA|exact qB))
   |(go_at_call 131;(with_reducible refine(dH (HN.out _) HM.out HY.out Y1).mono ?_);rintro e w' ⟨rfl,⟨nd,rfl⟩⟩;(try first|exact qA|exact qB))
   )
  go_ret
  exact⟨by rw[E1.out]<;>first|rfl|(simp;done),by repeat(first|exact au.refl _|apply au.step)⟩
 ·have b1:decide (m≤s)=false:=decide_eq_false hz
  have e1:r=s:=by rw[←hend,if_neg (by omega),hs']
  have E1:=aa.mk e1
  clear e1 hz hs hs' hend hx' hy' x0 x1 y0 y1 hmb hb hm ht hd hx hy hr
  go_enter Tryz.func127,Tryz.ntmps127
  go_wp2_with (first
   |(go_at_call 131;(with_reducible refine(dH HB.out HM.out HX.out X1).mono ?_);rintro e w' ⟨rfl,⟨nd,rfl⟩⟩;(try first|exact qA|exact qB))
   |(go_at_call 131;(with_reducible refine(dH (HN.out _) HM.out HX.out X1).mono ?_);rintro e w' ⟨rfl,⟨nd,rfl⟩⟩;(try first|exact qA|exact qB))
   |(go_at_call 131;(with_reducible refine(dH HB.out HM.out HY.out Y1).mono ?_);rintro e w' ⟨rfl,⟨nd,rfl⟩⟩;(try first|exact qA|exact qB))
   |(go_at_call 131;(with_reducible refine(dH (HN.out _) HM.out HY.out Y1).mono ?_);rintro e w' ⟨rfl,⟨nd,rfl⟩⟩;(try first|exact qA|exact qB))
   )
  go_ret
  exact⟨by rw[E1.out]<;>first|rfl|(simp;done),by repeat(first|exact au.refl _|apply au.step)⟩
end Go.Proofs.YtndkmnjbjlfeaaaGreat.Mont
end
section
namespace Go.Proofs.YtndkmnjbjlfeaaaGreat.F06
open Go Go.RowKit Go.Proofs.YtndkmnjbjlfeaaaGreatW.PrintWords Go.Proofs.YtndkmnjbjlfeaaaGreatW.PrintLast Go.Proofs.YtndkmnjbjlfeaaaGreatW.PrintMore Go.Proofs.YtndkmnjbjlfeaaaGreat.Given Go.Proofs.YtndkmnjbjlfeaaaGreat.M Go.Proofs.YtndkmnjbjlfeaaaGreat.Mont Go.Proofs.YtndkmnjbjlfeaaaGreat.XS Go.Proofs.YtndkmnjbjlfeaaaGreat.XT
def bh:Value→Value
 | .slice A n _=>if n=0 then .pointer none else .pointer (some (A.getD ⟨0,0,none⟩))
 |v=>v
theorem jh(A:Option Addr)(c:Nat){n:Nat}(h:n=0):bh (.slice A n c)= .pointer none:=by simp[bh,h]
theorem jS(A:Option Addr)(c:Nat){n:Nat}(h: ¬n=0): ∃a,bh (.slice A n c)= .pointer (some a):=⟨A.getD ⟨0,0,none⟩,by simp[bh,h]⟩
theorem vJ(a:Addr)(n c:Nat):bh (.slice (some a) (n+1) c)= .pointer (some a):=by simp[bh]
structure cn where
 p:Int
 g:Int
 l:List bO
def AG:cn:=⟨0,0,[]⟩
def fB:Kd cn where
 sz:=4
 E:=[178,147]
 K:=fun w x cs=> ∃cv A c,cs=[cv, .int .u64 x.p, .int .u64 x.g, .slice A x.l.length c]∧eN w cv x.p∧U x.g∧x.l.length≤c∧Kd.C ei w A x.l.length x.l
 M:=fun w base ok x cs=> ∃(gc:Nat) (t:Int) (v:Value),cs=[.pointer (some ⟨gc,0,none⟩), .int .u64 x.p, .int .u64 x.g,v]∧ok gc∧base≤gc∧fQ w gc x.p t∧cy x.p∧U t∧(18446744073709551616:Int)∣x.p*t+1∧U x.g∧Kd.R ei 147 w base ok v x.l
 K_len:=by
  rintro w x cs ⟨cv,A,c,rfl,_⟩
  rfl
 K_one:=by
  rintro w x cs ⟨cv,A,c,rfl,⟨g,t,rfl,_⟩,_⟩ u hu
  simp only[List.mem_cons,List.not_mem_nil,or_false] at hu
  rcases hu with rfl|rfl|rfl|rfl<;>rfl
 K_below:=by
  rintro w w1 x cs hb ⟨cv,A,c,rfl,hc,hg,hl,hr⟩
  exact⟨cv,A,c,rfl,hc.below hb,hg,hl,Kd.bu hr hb⟩
 K_of_M:=by
  rintro w base ok x cs ⟨gc,t,v,rfl,_,_,hc,hm,ht,hd,hg,hr⟩
  obtain⟨A,c,rfl,hl,hr⟩:=Kd.mw hr
  exact⟨_,A,c,rfl,⟨gc,t,rfl,hc,hm,ht,hd⟩,hg,hl,hr⟩
 M_mono:=by
  rintro w base ok ok' x cs hok ⟨gc,t,v,rfl,h1,h2,hc,hm,ht,hd,hg,hr⟩
  exact⟨gc,t,v,rfl,hok _ h1,h2,hc,hm,ht,hd,hg,Kd.bE hr hok⟩
 M_bound:=by
  rintro w base ok x cs ⟨gc,t,v,rfl,h1,h2,hc,hm,ht,hd,hg,hr⟩
  refine⟨gc,t,v,rfl,⟨h1,h2,(Array.getElem?_eq_some_iff.1 hc).1,_,List.mem_cons_self,_,hc⟩,h2,hc,hm,ht,hd,hg,Kd.bE (Kd.eB hr) (fun k hk=>⟨hk.1,hk.2.1,hk.2.2.1,?_⟩)⟩
  obtain⟨q,hq,r⟩:=hk.2.2.2
  refine⟨q,?_,r⟩
  have e:(ei).E=[]:=rfl
  rw[e,List.mem_singleton] at hq
  subst hq
  simp
 M_move:=by
  rintro w w1 base ok x cs hm0 ⟨gc,t,v,rfl,h1,h2,hc,hm,ht,hd,hg,hr⟩
  exact⟨gc,t,v,rfl,h1,h2,(hm0 gc h1).trans hc,hm,ht,hd,hg,Kd.kj hr hm0⟩
 M_lower:=by
  rintro w base base' ok x cs hb ⟨gc,t,v,rfl,h1,h2,hc,hm,ht,hd,hg,hr⟩
  exact⟨gc,t,v,rfl,h1,Nat.le_trans hb h2,hc,hm,ht,hd,hg,Kd.bN hr hb⟩
theorem lI:Kd.Heap fB:=by
 refine⟨?_⟩
 rintro w w1 x cs hb ⟨cv,A,c,rfl,⟨g,t,e,hc,r⟩,hg,hl,hr⟩
 exact⟨cv,A,c,rfl,⟨g,t,e,(hb g (Array.getElem?_eq_some_iff.1 hc).1).trans hc,r⟩,hg,hl,Kd.Heap.C ⟨fun _ h=>by obtain rfl:=lv h;exact xy _ _⟩ hb hr⟩
theorem uT{w:World}{A:Option Addr}{c:Nat}{F:cn}{l:List cn}(h:Kd.C fB w A (F::l).length (F::l)):
  ∃(ad:Addr) (cv:Value) (A3:Option Addr) (c3:Nat),bh (.slice A (F::l).length c)= .pointer (some ad)∧w.cell? ad=some cv∧w.cell? (ad.add 1)=some (.int .u64 F.p)∧w.cell? (ad.add 2)=some (.int .u64 F.g)∧w.cell? (ad.add 3)=some (.slice A3 F.l.length c3)∧eN w cv F.p∧U F.g∧F.l.length≤c3∧Kd.C ei w A3 F.l.length F.l:=by
 obtain⟨ad,cs,rfl,_,hK,hc0⟩:=Kd.n7 h AG 0 (by omega) (by simp)
 obtain⟨cv,A3,c3,rfl,hx,hg,hl,hr⟩:=(hK:fB.K w F cs)
 have hc: ∀j u,[cv, .int .u64 F.p, .int .u64 F.g, .slice A3 F.l.length c3][j]?=some u→w.cell? (ad.add j)=some u:=fun j u hj=>by
  have:=hc0 j u hj
  simpa using this
 refine⟨ad,cv,A3,c3,by rw[List.length_cons];exact vJ _ _ _,?_,hc 1 _ rfl,hc 2 _ rfl,hc 3 _ rfl,hx,hg,hl,hr⟩
 have:=hc 0 _ rfl
 rwa[show ad.add 0=ad by unfold Addr.add;split<;>simp_all] at this
end Go.Proofs.YtndkmnjbjlfeaaaGreat.F06
end
section
namespace Go.Proofs.YtndkmnjbjlfeaaaGreat.Mont
open Go Go.RowKit Go.Proofs.YtndkmnjbjlfeaaaGreatW.PrintWords Go.Proofs.YtndkmnjbjlfeaaaGreatW.PrintLast Go.Proofs.YtndkmnjbjlfeaaaGreatW.PrintMore Go.Proofs.YtndkmnjbjlfeaaaGreat.Given Go.Proofs.YtndkmnjbjlfeaaaGreat.M Go.Proofs.YtndkmnjbjlfeaaaGreat.XS
def fe(m o x:Int)(e:Nat):Int:=o*(x*km m)^e%m
theorem oL{m o x:Int}(h:o%m=o):fe m o x 0=o:=by unfold fe;rw[Int.pow_zero,Int.mul_one,h]
theorem nV(m x e:Int):fe m (kE m) x e.toNat=oV m x e:=by
 unfold fe kE oV;rw[bl,Int.mul_comm]
theorem sx(m x:Int):jl m x x*km m%m=(x*km m)*(x*km m)%m:=by
 unfold jl
 rw[bl]
 congr 1
 rw[Int.mul_assoc (x*x),Int.kI]
theorem oZ{m o x:Int}{e:Nat}(h:e%2=0):fe m o (jl m x x) (e/2)=fe m o x e:=by
 unfold fe
 rw[←bV,←dC,sx,dC,bV,nu _ _ h]
theorem qz{m o x:Int}{e:Nat}(h:e%2=1):fe m (jl m o x) (jl m x x) (e/2)=fe m o x e:=by
 unfold fe
 rw[←bV,←dC,sx,dC,bV]
 unfold jl
 rw[bl,Int.mul_assoc o x,Int.mul_assoc o,lH _ _ h]
set_option maxHeartbeats 4000000 in
theorem e6{v:Value}{m x e r:Int}{w:World}(hc:eN w v m)(hx:U x)(he:U e)(hr:aa (r=oV m x e)):
  Calls Tryz.prog 102 #[v, .int .u64 x, .int .u64 e] w fun e w'=>e= .returned (.int .u64 r)∧au w w':=by
 have hc':=hc
 obtain⟨g,t,rfl,hb,hm,ht,hd⟩:=hc'
 obtain⟨o,ho⟩: ∃o,o=kE m:=⟨_,rfl⟩
 have k2:=hb.c2
 have f2:=ab hb 2
 rw[←ho] at k2
 have hI:U x∧U e∧U o∧o%m=o∧fe m o x e.toNat=r:=⟨hx,he,by rw[ho];exact jt hm _,by rw[ho];exact Int.emod_emod _ _,by rw[ho,nV,hr.out]⟩
 have HI:=aa.mk hI
 have HB:=aa.mk hc
 have HN:aa (∀n,eN (w.drewN n) (.pointer (some ⟨g,0,none⟩)) m):=⟨fun _=>hc⟩
 have HM:=aa.mk hm
 clear hI ho hb hm ht hd hx he hr hc
 go_enter Tryz.func102,Tryz.ntmps102
 go_wp2
 go_loopw [1,2,7] (fun a b c wr=> ∃X E O:Int,a= .int .u64 X∧b= .int .u64 E∧c= .int .u64 O∧aa (U X∧U E∧U O∧O%m=O∧fe m O X E.toNat=r)∧au w wr) (fun _ b _ _=>(intOf b).toNat)
 case atStart=>exact⟨_,_,_,rfl,rfl,rfl,HI,au.refl _⟩
 case round=>
  clear HI k2 f2
  obtain⟨X,E,O,rfl,rfl,rfl,HI,⟨n,rfl⟩⟩:=hrel
  have hm:=HM.out
  obtain⟨uX,uE,uO,hO,hP⟩:=HI.out
  obtain⟨X2,hX2⟩: ∃X2,X2=jl m X X:=⟨_,rfl⟩
  have S1:=aa.mk hX2
  have UX:=aa.mk uX
  have UO:=aa.mk uO
  by_cases h0:0<E
  ·have p0:decide (0<E)=true:=decide_eq_true h0
   have hE0:0≤E:=by omega
   have hlt:(E/2).toNat<E.toNat:=by omega
   have hdv:(E/2).toNat=E.toNat/2:=by omega
   have uX2:U X2:=by rw[hX2];exact jt hm _
   have uE2:U (E/2):=by unfold U at*;omega
   have HLT:=aa.mk hlt
   by_cases h1:E%2=1
   ·have b1:(Go.bits .and .u64 E 1==1)=true:=by rw[r8 E uE,h1];rfl
    obtain⟨O2,hO2⟩: ∃O2,O2=jl m O X:=⟨_,rfl⟩
    have S2:=aa.mk hO2
    have HI':aa (U X2∧U (E/2)∧U O2∧O2%m=O2∧fe m O2 X2 (E/2).toNat=r):=
     ⟨uX2,uE2,by rw[hO2];exact jt hm _,by rw[hO2];exact Int.emod_emod _ _,by rw[hO2,hX2,hdv,qz (by omega),hP]⟩
    clear h0 hlt hdv uX2 uE2 h1 hO2 uX uE uO hO hP hX2 hm HI
    go_wp2_with (first
     |(go_at_call 100;(with_reducible refine(fG HB.out UO.out UX.out S2).mono ?_);rintro e w' ⟨rfl,⟨nd,rfl⟩⟩;(try first|exact qA|exact qB))
     |(go_at_call 100;(with_reducible refine(fG (HN.out _) UO.out UX.out S2).mono ?_);rintro e w' ⟨rfl,⟨nd,rfl⟩⟩;(try first|exact qA|exact qB))
     |(go_at_call 100;(with_reducible refine(fG HB.out UX.out UX.out S1).mono ?_);rintro e w' ⟨rfl,⟨nd,rfl⟩⟩;(try first|exact qA|exact qB))
     |(go_at_call 100;(with_reducible refine(fG (HN.out _) UX.out UX.out S1).mono ?_);rintro e w' ⟨rfl,⟨nd,rfl⟩⟩;(try first|exact qA|exact qB))
     )
    go_roundw
    case rel=>exact⟨X2,E/2,O2,rfl,by first|rfl|(simp;done),rfl,HI',by repeat(first|exact au.refl _|apply au.step)⟩
    case measure=>simp[intOf];have:=HLT.out;omega
   ·have b1:(Go.bits .and .u64 E 1==1)=false:=by rw[r8 E uE];exact beq_eq_false_iff_ne.mpr h1
    have HI':aa (U X2∧U (E/2)∧U O∧O%m=O∧fe m O X2 (E/2).toNat=r):=
     ⟨uX2,uE2,uO,hO,by rw[hX2,hdv,oZ (by omega),hP]⟩
    clear h0 hlt hdv uX2 uE2 h1 uX uE uO hO hP hX2 hm HI
    go_wp2_with (first
     |(go_at_call 100;(with_reducible refine(fG HB.out UX.out UX.out S1).mono ?_);rintro e w' ⟨rfl,⟨nd,rfl⟩⟩;(try first|exact qA|exact qB))
     |(go_at_call 100;(with_reducible refine(fG (HN.out _) UX.out UX.out S1).mono ?_);rintro e w' ⟨rfl,⟨nd,rfl⟩⟩;(try first|exact qA|exact qB))
     )
    go_roundw
    case rel=>exact⟨X2,E/2,O,rfl,by first|rfl|(simp;done),rfl,HI',by repeat(first|exact au.refl _|apply au.step)⟩
    case measure=>simp[intOf];have:=HLT.out;omega
  ·have p0:decide (0<E)=false:=decide_eq_false h0
   have hz:E.toNat=0:=by omega
   have HR:aa (O=r):=⟨by rw[←hP,hz,oL hO]⟩
   clear h0 hz uX uE uO hO hP hX2 hm HI
   go_wp2
   go_ret
   exact⟨by rw[HR.out]<;>first|rfl|(simp;done),by repeat(first|exact au.refl _|apply au.step)⟩
def kA:Nat→Int
 |0=>8
 |1=>64
 |2=>4096
 |3=>16777216
 |4=>281474976710656
 |_=>18446744073709551616
theorem qE{m x:Int}(i:Nat)(hi:i<5)(hx:kA i∣m*x-1):
  kA (i+1)∣m*IntKind.u64.wrap (x*IntKind.u64.wrap (2-IntKind.u64.wrap (m*x)))-1:=by
 have h:i=0∨i=1∨i=2∨i=3∨i=4:=by omega
 rcases h with rfl|rfl|rfl|rfl|rfl
 ·exact mI (E:=64) hx ⟨1,by decide⟩ ⟨288230376151711744,by decide⟩
 ·exact mI (E:=4096) hx ⟨1,by decide⟩ ⟨4503599627370496,by decide⟩
 ·exact mI (E:=16777216) hx ⟨1,by decide⟩ ⟨1099511627776,by decide⟩
 ·exact mI (E:=281474976710656) hx ⟨1,by decide⟩ ⟨65536,by decide⟩
 ·exact mI (E:=18446744073709551616) hx ⟨4294967296,by decide⟩ ⟨1,by decide⟩
set_option maxHeartbeats 4000000 in
theorem oo{m:Int}{w:World}(hm:cy m):
  Calls Tryz.prog 95 #[.int .u64 m] w fun e w'=> ∃(g:Nat) (t:Int),e= .returned (.tuple #[.pointer (some ⟨g,0,none⟩), .int .i64 0])∧w.heap.size≤g∧fQ w' g m t∧U t∧(18446744073709551616:Int)∣m*t+1∧Below w.heap.size w w':=by
 have b1:(Go.bits .and .u64 m 1==0)=false:=by rw[r8 m (k6 hm),hm.1];rfl
 have b2:decide (m<3)=false:=decide_eq_false (by unfold cy at hm;omega)
 have b3:decide (9223372036854775808≤m)=false:=decide_eq_false (by unfold cy at hm;omega)
 have hz:(m==0)=false:=beq_eq_false_iff_ne.mpr (jd hm)
 have hz1: ¬m=0:=jd hm
 obtain⟨o,ho⟩: ∃o,o=kE m:=⟨_,rfl⟩
 have hone:Int.tmod (IntKind.u64.wrap (-m)) m=o:=by
  have:IntKind.u64.wrap (-m)=18446744073709551616-m:=by rw[kQ];unfold cy at hm;omega
  rw[this,bH (by unfold cy at hm;omega),ho,Int.sub_emod_right];rfl
 have uo:U o:=by rw[ho];exact jt hm _
 have uom:o<m:=by rw[ho];exact mG hm _
 have p0:0≤o*o:=Int.mul_nonneg uo.1 uo.1
 have p1:o*o≤(m-1)*(m-1):=Int.mul_le_mul (by omega) (by omega) uo.1 (by unfold cy at hm;omega)
 have p2:(m-1)*(m-1)<m*18446744073709551616:=by
  have:(m-1)*(m-1)≤(m-1)*18446744073709551616:=Int.mul_le_mul_of_nonneg_left (by unfold cy at hm;omega) (by unfold cy at hm;omega)
  unfold cy at hm;omega
 obtain⟨h,hh⟩: ∃h,h=o*o/18446744073709551616:=⟨_,rfl⟩
 obtain⟨l,hl⟩: ∃l,l=o*o%18446744073709551616:=⟨_,rfl⟩
 have M1:aa (bits_Mul64.f o o=some (h,l)):=⟨by unfold bits_Mul64.f;rw[if_pos ⟨uo.1,uo.2,uo.1,uo.2⟩,hh,hl]⟩
 obtain⟨s,hs⟩: ∃s,s=zG m:=⟨_,rfl⟩
 obtain⟨k,hk⟩:=Ev.rounds (iE h l m (by rw[hh];unfold cy at hm;unfold U;omega) (by rw[hl];unfold U;omega) (k6 hm) (jd hm))
 have K1:aa (dD.f k h l m=some s):=⟨by rw[hk,hs,hh,hl];unfold zG;rw[←ho];congr 2;omega⟩
 have HM:=aa.mk hm
 have HO:=aa.mk ho
 have HS:=aa.mk hs
 have hI:U m∧kA 0∣m*m-1:=⟨k6 hm,xB hm.1⟩
 have HI:=aa.mk hI
 clear hI ho hs uo uom p0 p1 p2 hh hl hk hm
 go_enter Tryz.func95,Tryz.ntmps95
 go_wp2
 go_loop [4,20] (fun a c=> ∃(i:Nat) (X:Int),i≤5∧a= .int .u64 X∧c= .int .i64 i∧aa (U X∧kA i∣m*X-1)) (fun _ c=>5-(intOf c).toNat)
 case atStart=>exact⟨0,m,by omega,rfl,rfl,HI⟩
 case round=>
  clear HI
  obtain⟨i,X,hi5,rfl,rfl,HI⟩:=hrel
  by_cases hi:i<5
  ·have p0:decide (i<5)=true:=decide_eq_true hi
   have HI':aa (U (IntKind.u64.wrap (X*IntKind.u64.wrap (2-IntKind.u64.wrap (m*X))))∧kA (i+1)∣m*IntKind.u64.wrap (X*IntKind.u64.wrap (2-IntKind.u64.wrap (m*X)))-1):=
    ⟨uW _,qE i hi HI.out.2⟩
   clear HI
   go_wp2
   go_round
   case rel=>exact⟨i+1,_,by omega,rfl,by go_num,HI'⟩
   case measure=>simp[intOf];omega
  ·obtain rfl:i=5:=by omega
   have p0:decide ((5:Nat)<5)=false:=by decide
   have hU:=HI.out.1
   have hd:(18446744073709551616:Int)∣m*IntKind.u64.wrap (-X)+1:=by
    rw[kQ]
    have a1:(18446744073709551616:Int)∣ -X%18446744073709551616- -X:=dR _ _
    have a2:(18446744073709551616:Int)∣m*X-1:=HI.out.2
    generalize-X%18446744073709551616=B at*
    have e:m*B+1=m*(B- -X)-(m*X-1):=by
     rw[Int.mul_sub,Int.mul_neg];omega
    rw[e]
    exact Int.dvd_sub (Int.dvd_mul_of_dvd_right a1) a2
   have HD:=aa.mk hd
   clear hd hU HI hi hi5
   go_wp2_with (first
    |(go_at_call 125;(with_reducible refine(l7 M1).mono ?_);rintro e w' ⟨rfl,⟨nd,rfl⟩⟩;(try first|exact qA|exact qB))
    |(go_at_call 126;(with_reducible refine(dD.calls k h l m s _ K1.out).mono ?_);rintro e w' ⟨rfl,⟨nd,rfl⟩⟩;(try first|exact qA|exact qB))
    )
   go_ret2
   refine⟨w.heap.size,IntKind.u64.wrap (-X),by first|rfl|(simp;done),Nat.le_refl _,?_,uW _,HD.out,by repeat(first|exact Below.refl _ _|apply aQ|apply ay)⟩
   unfold fQ
   rw[←HO.out,←HS.out]
   exact gR _ _
theorem pD{m:Int}{w:World}(hm:cy m):
  Calls Tryz.prog 95 #[.int .u64 m] w fun e w'=> ∃v,e= .returned (.tuple #[v, .int .i64 0])∧eN w' v m∧Below w.heap.size w w':=by
 refine(oo hm).mono ?_
 rintro e w' ⟨g,t,he,_,hb,ht,hd,hB⟩
 exact⟨_,he,⟨g,t,rfl,hb,hm,ht,hd⟩,hB⟩
end Go.Proofs.YtndkmnjbjlfeaaaGreat.Mont
end
section
namespace Go.Proofs.YtndkmnjbjlfeaaaGreat.XS
open Go Go.RowKit Go.Proofs.YtndkmnjbjlfeaaaGreatW.PrintWords Go.Proofs.YtndkmnjbjlfeaaaGreatW.PrintLast Go.Proofs.YtndkmnjbjlfeaaaGreatW.PrintMore Go.Proofs.YtndkmnjbjlfeaaaGreat.Given Go.Proofs.YtndkmnjbjlfeaaaGreat.M
theorem fZ{a b m:Int}(ha:U a)(hb:U b)(hm:U m)(h:m≠0):Ev (fun k=>du.f k a b m) (a*b%m):=by
 have hlt:a*b<18446744073709551616*18446744073709551616:=by
  have:=fT ha.1 hb.1 (A:=18446744073709551615) (B:=18446744073709551615) (by unfold U at*;omega) (by unfold U at*;omega)
  omega
 have h0:0≤a*b:=Int.mul_nonneg ha.1 hb.1
 have e:=iE (a*b/18446744073709551616) (a*b%18446744073709551616) m (by unfold U;omega) (by unfold U;omega) hm h
 rw[show a*b/18446744073709551616*18446744073709551616+a*b%18446744073709551616=a*b from by omega] at e
 refine Ev.congr (fun k=>?_) (Ev.bind e (Ev.now _))
 unfold du.f bits_Mul64.f
 rw[if_neg h,if_pos ⟨ha.1,ha.2,hb.1,hb.2⟩]
 rfl
theorem nr{m:Int}(hm:U m)(h:m≠0)(n:Nat): ∀(e:Nat) (a out:Int),e≤n→(e:Int)<18446744073709551616→U a→U out→out%m=out→
  Ev (fun k=>cD.l0 k a e m out) (out*a^e%m):=by
 induction n using Nat.strongRecOn with
 |_ n ih=>
  intro e a out hen heU ha ho hom
  by_cases hz:e=0
  ·subst hz
   rw[Int.pow_zero,Int.mul_one,hom]
   refine Ev.step (fun k=>?_) (Ev.now _)
   simp only[cD.l0]
   rw[if_neg (by simp)]
  ·have hc:((e:Int)/2)=((e/2:Nat):Int):=by omega
   have hU:U (e:Int):=by unfold U;omega
   by_cases hb:e%2=1
   ·have i:=ih (e/2) (by omega) (e/2) (a*a%m) (out*a%m) (by omega) (by omega) (fu _ hm h) (fu _ hm h) (Int.emod_emod _ _)
    have e1:out*a%m*(a*a%m)^(e/2)%m=out*a^e%m:=by
     rw[bl,←bV,dC,bV,Int.mul_assoc,lH a e hb]
    rw[e1] at i
    refine bX ⟨_,fun k=>by simp only[cD.l0];rw[if_pos (by omega),if_pos (by rw[r8 _ hU];omega),hc],?_⟩
    exact Ev.bind (fZ ho ha hm h) (Ev.bind (fZ ha ha hm h) i)
   ·have i:=ih (e/2) (by omega) (e/2) (a*a%m) out (by omega) (by omega) (fu _ hm h) ho hom
    have e1:out*(a*a%m)^(e/2)%m=out*a^e%m:=by
     rw[←bV,dC,bV,nu a e (by omega)]
    rw[e1] at i
    refine bX ⟨_,fun k=>by simp only[cD.l0];rw[if_pos (by omega),if_neg (by rw[r8 _ hU];omega),hc],?_⟩
    exact Ev.bind (fZ ha ha hm h) i
theorem my{a e m:Int}(ha:U a)(he:U e)(hm:U m)(h:m≠0):Ev (fun k=>cD.f k a e m) (a^e.toNat%m):=by
 obtain⟨n,rfl⟩:=Int.eq_ofNat_of_zero_le he.1
 have i:=nr hm h n n a (1%m) (Nat.le_refl _) he.2 ha (Ai hm h) (Int.emod_emod _ _)
 rw[bl,Int.one_mul] at i
 refine Ev.congr (fun k=>?_) i
 unfold cD.f
 rw[if_neg h]
end Go.Proofs.YtndkmnjbjlfeaaaGreat.XS
end
section
namespace Go.Proofs.YtndkmnjbjlfeaaaGreat.XS
open Go Go.RowKit Go.Proofs.YtndkmnjbjlfeaaaGreatW.PrintWords Go.Proofs.YtndkmnjbjlfeaaaGreatW.PrintLast Go.Proofs.YtndkmnjbjlfeaaaGreatW.PrintMore Go.Proofs.YtndkmnjbjlfeaaaGreat.Given Go.Proofs.YtndkmnjbjlfeaaaGreat.M
theorem mR{a b m:Int}(ha:U a)(hb:U b)(hm:U m)(h:m≠0):Ev (fun k=>fp.f k a b m) ((a+b)%m):=by
 have h1:=fu a hm h
 have h2:=fu b hm h
 have hs:(a%m+b%m+0)/18446744073709551616*18446744073709551616+(a%m+b%m+0)%18446744073709551616=a%m+b%m:=by omega
 have e:=iE ((a%m+b%m+0)/18446744073709551616) ((a%m+b%m+0)%18446744073709551616) m (by unfold U at*;omega) (by unfold U at*;omega) hm h
 rw[hs,Int.emod_add_emod,Int.add_emod_emod] at e
 refine Ev.congr (fun k=>?_) (Ev.bind e (Ev.now _))
 unfold fp.f dJ.f
 rw[if_neg h,bH ha.1,bH hb.1,if_pos (by unfold U at*;omega)]
 rfl
theorem mN{a m:Int}(ha:U a)(hm:U m)(h:m≠0):Ev (fun k=>dh.f k a m) ((-a)%m):=by
 have hp:=qJ hm h
 refine Ev.congr (f:=fun k=>dh.j0 k a m (a%m==0)) (fun k=>by unfold dh.f;rw[if_neg h,bH ha.1]) ?_
 refine Ev.step (f:=fun _=>some ((-a)%m)) (fun k=>?_) (Ev.now _)
 simp only[dh.j0]
 by_cases hz:a%m=0
 ·rw[if_pos (beq_iff_eq.mpr hz)]
  congr 1
  rw[eq_comm,Int.emod_eq_zero_of_dvd]
  exact(Int.dvd_neg).2 (Int.dvd_of_emod_eq_zero hz)
 ·rw[if_neg (by rw[beq_iff_eq];exact hz),if_neg h,bH ha.1,pv hp hz]
  have:=fu a hm h
  unfold U at*
  rw[aX _ (by have:=Int.emod_lt_of_pos a hp;omega) (by omega)]
theorem mP{a b m:Int}(ha:U a)(hb:U b)(hm:U m)(h:m≠0):Ev (fun k=>fR.f k a b m) ((a-b)%m):=by
 have e:=mR ha (fu (-b) hm h) hm h
 rw[Int.add_emod_emod,←Int.sub_eq_add_neg] at e
 exact Ev.congr (fun k=>rfl) (Ev.bind (mN hb hm h) (Ev.bind e (Ev.now _)))
def yJ(a m:Int)(g:Nat)(R:Int×Bool):Prop:=
 (g=1→R.2=true∧0≤R.1∧R.1<m∧m∣R.1*a-1)∧(g≠1→R=(0,false))
theorem dR(x m:Int):m∣x%m-x:=by
 rw[Int.emod_def]
 exact⟨-(x/m),by rw[Int.mul_neg];omega⟩
theorem mZ{a m:Int}(hm:U m)(h2:2≤m)(n:Nat): ∀(next r:Nat) (t step:Int),next≤n→(next:Int)≤m→(r:Int)≤m→0≤t→t<m→0≤step→step<m→m∣t*a-r→m∣step*a-next→
  ∃R,Ev (fun k=>cu.l0 k m r next t step) R∧yJ a m (Nat.gcd r next) R:=by
 have h:m≠0:=by omega
 induction n using Nat.strongRecOn with
 |_ n ih=>
  intro next r t step hn hnm hrm ht0 ht hs0 hs hd1 hd2
  by_cases hz:next=0
  ·subst hz
   rw[Nat.gcd_zero_right]
   by_cases h1:r=1
   ·refine⟨(t,true),bX ⟨_,fun k=>by simp only[cu.l0];rw[if_neg (by simp),if_pos (by omega)],Ev.now _⟩,fun _=>⟨rfl,ht0,ht,?_⟩,fun hh=>absurd h1 hh⟩
    rw[h1] at hd1;exact hd1
   ·exact⟨(0,false),bX ⟨_,fun k=>by simp only[cu.l0];rw[if_neg (by simp),if_neg (by omega)],Ev.now _⟩,fun hh=>absurd hh h1,fun _=>rfl⟩
  ·have hq0:(0:Int)≤(r:Int)/next:=Int.ediv_nonneg (by omega) (by omega)
   have hqle:(r:Int)/next≤r:=Int.ediv_le_self _ (by omega)
   have hqU:U ((r:Int)/next):=by unfold U at*;omega
   have hsU:U step:=by unfold U at*;omega
   have htU:U t:=by unfold U at*;omega
   have m1:=fZ hqU hsU hm h
   have m2:=mP htU (fu ((r:Int)/next*step) hm h) hm h
   have hmod:((r%next:Nat):Int)=r-(r:Int)/next*next:=by
    rw[Int.natCast_emod]
    have:=Int.mul_ediv_add_emod (r:Int) next
    rw[Int.mul_comm] at this
    omega
   have hp0:0≤(r:Int)/next*next:=Int.mul_nonneg hq0 (by omega)
   have hlt:r%next<next:=Nat.mod_lt _ (by omega)
   have hw:IntKind.u64.wrap ((r:Int)-IntKind.u64.wrap (IntKind.u64.wrap (Int.tdiv (r:Int) next)*next))=((r%next:Nat):Int):=by
    rw[dr (by omega),aX _ hqU.1 hqU.2,aX _ hp0 (by unfold U at hm;omega),aX _ (by omega) (by unfold U at hm;omega)]
    omega
   generalize hq:(r:Int)/next=q at*
   have hdT:m∣(t-q*step%m)%m*a-((r%next:Nat):Int):=by
    have e1:m∣(t-q*step%m)%m-(t-q*step%m):=dR _ _
    have e2:m∣q*step%m-q*step:=dR _ _
    have e3:(t-q*step%m)%m*a-((r%next:Nat):Int)=((t-q*step%m)%m-(t-q*step%m))*a-(q*step%m-q*step)*a+(t*a-r)-q*(step*a-next):=by
     rw[hmod]
     generalize(t-q*step%m)%m=A
     generalize q*step%m=B
     simp only[Int.sub_mul,Int.mul_sub,Int.mul_assoc]
     omega
    rw[e3]
    exact Int.dvd_sub (Int.dvd_add (Int.dvd_sub (Int.dvd_mul_of_dvd_left e1) (Int.dvd_mul_of_dvd_left e2)) hd1) (Int.dvd_mul_of_dvd_right hd2)
   have hb0:=Int.emod_nonneg (t-q*step%m) h
   have hb1:=Int.emod_lt_of_pos (t-q*step%m) (by omega:0<m)
   obtain⟨R,hR,hI⟩:=ih (r%next) (by omega) (r%next) next step ((t-q*step%m)%m) (Nat.le_refl _) (by omega) hnm hs0 hs hb0 hb1 hd2 hdT
   rw[Nat.gcd_comm,←Nat.gcd_rec,Nat.gcd_comm] at hI
   refine⟨R,?_,hI⟩
   refine bX ⟨_,fun k=>by simp only[cu.l0];rw[if_pos (by omega),if_neg (by omega),hw,dr (by omega),hq,aX _ hqU.1 hqU.2],?_⟩
   exact Ev.bind m1 (Ev.bind m2 hR)
theorem kC{a m:Int}(hm:m<2):Ev (fun k=>cu.f k a m) (0,false):=
 Ev.congr (fun k=>by unfold cu.f;rw[if_pos hm]) (Ev.now _)
theorem mL{a m:Nat}(hm:U m)(h2:2≤m): ∃R,Ev (fun k=>cu.f k a m) R∧yJ a m (Nat.gcd a m) R:=by
 have hlt:a%m<m:=Nat.mod_lt _ (by omega)
 obtain⟨R,hR,hI⟩:=mZ (a:=a) hm (by omega) (a%m) (a%m) m 0 1 (Nat.le_refl _) (by omega) (by omega) (by omega) (by omega) (by omega) (by omega) (by rw[Int.zero_mul,Int.zero_sub];exact(Int.dvd_neg).2 (Int.dvd_refl _))
  (by rw[Int.one_mul,Int.natCast_emod];have:=(Int.dvd_neg).2 (dR (a:Int) m);rwa[Int.neg_sub] at this)
 have hg:Nat.gcd m (a%m)=Nat.gcd a m:=by rw[Nat.gcd_comm,←Nat.gcd_rec,Nat.gcd_comm]
 rw[hg] at hI
 refine⟨R,ri ⟨_,fun k=>by unfold cu.f;rw[if_neg (by omega),if_neg (by omega),bH (by omega),←Int.natCast_emod],hR⟩,hI⟩
theorem fN{x y m:Int}(h:m∣x-y):x%m=y%m:=Int.emod_eq_emod_iff_emod_sub_eq_zero.2 (Int.emod_eq_zero_of_dvd h)
theorem gL{x y m:Int}(h:x%m=y%m):m∣x-y:=Int.dvd_of_emod_eq_zero (Int.emod_eq_emod_iff_emod_sub_eq_zero.1 h)
end Go.Proofs.YtndkmnjbjlfeaaaGreat.XS
end
section
namespace Go.Proofs.YtndkmnjbjlfeaaaGreat.Given04
open Go Go.RowKit Go.Proofs.YtndkmnjbjlfeaaaGreatW.PrintWords Go.Proofs.YtndkmnjbjlfeaaaGreatW.PrintLast Go.Proofs.YtndkmnjbjlfeaaaGreatW.PrintMore Go.Proofs.YtndkmnjbjlfeaaaGreat.Given Go.Proofs.YtndkmnjbjlfeaaaGreat.M Go.Proofs.YtndkmnjbjlfeaaaGreat.Mont Go.Proofs.YtndkmnjbjlfeaaaGreat.XS Go.Proofs.YtndkmnjbjlfeaaaGreat.XT
theorem jM{p g q:Int}{sv:Value}{b:Nat}{w:World}{r:Bool}(hb:w.heap[b]?=some (.cells #[.int .u64 q] 22 (0,0)))(hr:aa ((p==q)=r)):
  Calls Tryz.prog 180 #[.agg #[.int .u64 p, .int .u64 g,sv], .pointer (some ⟨b,0,none⟩)] w fun e w'=>e= .returned (.bool r)∧Below w.heap.size w w':=by
 have hc:w.cell? ⟨b,0,none⟩=some (.int .u64 q):=(aj hb 0).trans rfl
 have hf:=ab hb 0
 have hu:=Tryz.underlying94
 have hlt:=de hb
 clear hb
 go_enter Tryz.func180,Tryz.ntmps180
 go_wp2
 go_ret
 exact⟨by rw[←hr.out]<;>first|rfl|(simp;done),aQ (Below.refl _ _) _⟩
def ej(l:List dA)(q:Int):Bool:=l.any fun e=>e.f0==q
theorem nK(l:List dA)(q:Int)(i:Nat)(h:i<l.length):ej (l.take (i+1)) q=(ej (l.take i) q||((aW l (i:Int)).f0==q)):=by
 unfold ej aW
 rw[List.take_succ_eq_append_getElem h,List.any_append]
 simp[List.getD,List.getElem?_eq_getElem h]
theorem oF{l:List dA}{q:Int}{i:Nat}(h:ej (l.take i) q=true):ej l q=true:=by
 unfold ej at*
 rw[List.any_eq_true] at*
 obtain⟨x,hx,he⟩:=h
 exact⟨x,List.mem_of_mem_take hx,he⟩
set_option maxHeartbeats 2000000 in
theorem jA{A0:Option Addr}{c0 b:Nat}{l0:List dA}{q:Int}{w:World}(hr0:Kd.C kt w A0 l0.length l0)(hb:w.heap[b]?=some (.cells #[.int .u64 q] 22 (0,0))):
  Calls Tryz.prog 187 #[.slice A0 l0.length c0, .func (Fn.func 180) #[] #[.pointer (some ⟨b,0,none⟩)]] w fun e w'=> ∃i:Int,e= .returned (.int .i64 i)∧decide (0≤i)=ej l0 q∧Below w.heap.size w w':=by
 have hlen:l0.length≤9223372036854775807:=hr0.2.1
 have HR0:=aa.mk hr0
 have HC:=aa.mk hb
 have h0:aa (ej (l0.take 0) q=false):=⟨rfl⟩
 clear hr0 hb
 go_enter Tryz.func187,Tryz.ntmps187
 go_wp2
 go_loopw [8] (fun v8 w'=> ∃i:Nat,v8= .int .i64 i∧i≤l0.length∧aa (ej (l0.take i) q=false)∧aa (Below w.heap.size w w')) (fun v8 _=>l0.length-(intOf v8).toNat)
 case atStart=>exact⟨0,rfl,by omega,h0,⟨Below.refl _ _⟩⟩
 case round=>
  clear h0
  obtain⟨i,rfl,hi,H1,HB⟩:=hrel
  by_cases hlt:i<l0.length
  ·have c3b0:decide ((i:Int)<(l0.length:Int))=true:=decide_eq_true (by omega)
   have c3b1:decide (i<l0.length)=true:=decide_eq_true hlt
   have p1:0≤(i:Int):=by omega
   have q1:(i:Int)<(l0.length:Int):=by omega
   obtain⟨ad,A2,c2,e1,hx0,hx1,hx2,hl2,hi2⟩:=lA HR0.out i p1 q1
   cases e1
   replace hx0:=(HB.out.cell (World.block_lt_of_cell? w _ hx0)).trans hx0
   replace hx1:=(HB.out.cell (World.block_lt_of_cell? w _ hx1)).trans hx1
   replace hx2:=(HB.out.cell (World.block_lt_of_cell? w _ hx2)).trans hx2
   simp only[Int.toNat_natCast] at hx0 hx1 hx2
   have HBLK:=aa.mk (aU HC.out HB.out)
   have hstep:=nK l0 q i hlt
   clear hi2 hl2 hlt
   cases hm:((aW l0 (i:Int)).f0==q) with
   |true=>
    have HM:=aa.mk hm
    have HF:aa (ej l0 q=true):=⟨oF (i:=i+1) (by rw[hstep,hm];simp)⟩
    clear hm hstep
    go_wp2_with (go_at_call 180;(with_reducible refine(jM HBLK.out HM).mono ?_);rintro e w2 ⟨rfl,hb2⟩;have HB2:=aa.mk hb2;clear hb2)
    go_ret
    exact⟨i,by first|rfl|(simp;done),by rw[HF.out];exact decide_eq_true (by omega),ah HB.out HB2.out⟩
   |false=>
    have HM:=aa.mk hm
    have HF:aa (ej (l0.take (i+1)) q=false):=⟨by rw[hstep,hm,H1.out];rfl⟩
    clear hm hstep
    go_wp2_with (go_at_call 180;(with_reducible refine(jM HBLK.out HM).mono ?_);rintro e w2 ⟨rfl,hb2⟩;have HB2:=aa.mk hb2;clear hb2)
    go_roundw
    case rel=>exact⟨i+1,by go_num,by omega,HF,⟨ah HB.out HB2.out⟩⟩
    case measure=>simp[intOf];omega
  ·have c3b0:decide ((i:Int)<(l0.length:Int))=false:=decide_eq_false (by omega)
   have c3b1:decide (i<l0.length)=false:=decide_eq_false hlt
   have HF:aa (ej l0 q=false):=⟨by have:=H1.out;rwa[List.take_of_length_le (by omega)] at this⟩
   clear hlt
   go_wp2
   go_ret
   exact⟨-1,by first|rfl|(simp;done),by rw[HF.out];rfl,HB.out⟩
theorem ga{A0:Option Addr}{c0 b:Nat}{l0:List dA}{q:Int}{w:World}(hr0:Kd.C kt w A0 l0.length l0)(hb:w.heap[b]?=some (.cells #[.int .u64 q] 22 (0,0))):
  Calls Tryz.prog 179 #[.slice A0 l0.length c0, .func (Fn.func 180) #[] #[.pointer (some ⟨b,0,none⟩)]] w fun e w'=>e= .returned (.bool (ej l0 q))∧Below w.heap.size w w':=by
 have HR0:=aa.mk hr0
 have HC:=aa.mk hb
 clear hr0 hb
 go_enter Tryz.func179,Tryz.ntmps179
 go_wp2_with (go_at_call 187;(with_reducible refine(jA HR0.out HC.out).mono ?_);rintro e w2 ⟨i,rfl,hd,hb2⟩;have HB2:=aa.mk hb2;have HD:=aa.mk hd;clear hb2 hd)
 go_ret
 exact⟨by rw[←HD.out]<;>first|rfl|(simp;done),HB2.out⟩
def e8.f(l0:List dA)(a1:Int):Option Bool:=some (ej l0 a1)
theorem e8.calls(A0:Option Addr)(c0:Nat)(l0:List dA)(a1:Int)(r:Bool)(w:World)(hr0:Kd.C kt w A0 l0.length l0)(_hc0:l0.length≤c0)(h:e8.f l0 a1=some r):
  Calls Tryz.prog 165 #[.slice A0 l0.length c0, .int .u64 a1] w fun e w'=>e= .returned (.bool r)∧Below w.heap.size w w':=by
 have HR:aa (ej l0 a1=r):=⟨Option.some.inj h⟩
 have HR0:aa (Kd.C kt (w.alloc (.cells #[.int .u64 a1] 22)) A0 l0.length l0):=⟨Kd.dB hr0 _⟩
 have HC:aa ((w.alloc (.cells #[.int .u64 a1] 22)).heap[w.heap.size]?=some (.cells #[.int .u64 a1] 22 (0,0))):=⟨gR _ _⟩
 clear h hr0
 go_enter Tryz.func165,Tryz.ntmps165
 go_wp2_with (go_at_call 179;(with_reducible refine(ga HR0.out HC.out).mono ?_);rintro e w2 ⟨rfl,hb2⟩;have HB2:=aa.mk hb2;clear hb2)
 go_ret
 exact⟨by rw[←HR.out]<;>first|rfl|(simp;done),ah (aQ (Below.refl _ _) _) HB2.out⟩
end Go.Proofs.YtndkmnjbjlfeaaaGreat.Given04
end
