/- Parts of this claim's texts, packed by wip/tools/prune.py: what the proof does not reach is left out. -/
import Derived.Test.YtndkmnjbjlfeaaaGreatPCi12
section
namespace Go.Proofs.YtndkmnjbjlfeaaaGreat.XC
open Go.RowKit Go.Proofs.YtndkmnjbjlfeaaaGreat.Given Go.Proofs.YtndkmnjbjlfeaaaGreat.Row05 Go.Proofs.YtndkmnjbjlfeaaaGreat.XS Go.Proofs.YtndkmnjbjlfeaaaGreat.XT Go.Proofs.YtndkmnjbjlfeaaaGreat.XR Go.Proofs.YtndkmnjbjlfeaaaGreat.F06 Go.Proofs.YtndkmnjbjlfeaaaGreat.XK Go.Proofs.YtndkmnjbjlfeaaaGreat.XW Go.Proofs.YtndkmnjbjlfeaaaGreat.XG Go.Proofs.YtndkmnjbjlfeaaaGreat.XM Go.Proofs.YtndkmnjbjlfeaaaGreatW.PrintWords Go.Proofs.YtndkmnjbjlfeaaaGreatW.PrintLast Go.Proofs.YtndkmnjbjlfeaaaGreatW.PrintMore
attribute [local go_sem] bZ bW cC cB bG bH bX ca
set_option linter.unusedVariables false
set_option linter.unusedSimpArgs false
noncomputable def aT.l0:Nat→List Int→List Int→Int→Int→Option (Bool)
 |0,_,_,_,_=>none
 |k+1,x0,x1,x12,x13=>if x13<x12 then(if 0≤x13 then(if x13<(x0.length:Int) then(if x13<(x1.length:Int) then(if(rd x0 x13)=(rd x1 x13) then(aT.l0 k x0 x1 x12 (wrap64 (x13+1))) else(some false)) else(none)) else(none)) else(none)) else(some true)
noncomputable def aT.f(k:Nat)(l0:List Int)(l1:List Int):Option (Bool):=if(l0.length:Int)=(l1.length:Int) then(aT.l0 k l0 l1 (l0.length:Int) 0) else(some false)
theorem aT.fx: ∀k,(∀y0 y1 y2 y3,dh (aT.l0 k y0 y1 y2 y3) (aT.l0 (k+1) y0 y1 y2 y3))
 |0=>fun _ _ _ _ r h=>by simp[aT.l0] at h
 |k+1=>by
  have ih0:=aT.fx k
  ·intro y0 y1 y2 y3
   unfold aT.l0
   repeat' first
   |(with_reducible exact ih0 _ _ _ _)
   |(with_reducible exact dh.refl _)
   |(with_reducible exact dh.none _)
   |(with_reducible refine dh.ite ?_ ?_)
   |(with_reducible refine dh.bind ?_ (fun _=>?_))
theorem aT.mono: ∀a0 a1 k,dh (aT.f k a0 a1) (aT.f (k+1) a0 a1):=by
 intro a0 a1 k
 have ih0:=aT.fx k
 unfold aT.f
 repeat' first
   |(with_reducible exact ih0 _ _ _ _)
   |(with_reducible exact dh.refl _)
   |(with_reducible exact dh.none _)
   |(with_reducible refine dh.ite ?_ ?_)
   |(with_reducible refine dh.bind ?_ (fun _=>?_))
set_option maxHeartbeats 8000000 in
set_option maxRecDepth 100000 in
theorem aT.calls(k:Nat)(A0:Option Addr)(c0:Nat)(l0:List Int)(A1:Option Addr)(c1:Nat)(l1:List Int)(r:Bool)(w:World)(hr0:Kd.C (Kd.int .i64) w A0 l0.length l0)(hc0:l0.length≤c0)(hr1:Kd.C (Kd.int .i64) w A1 l1.length l1)(hc1:l1.length≤c1)(h:aT.f k l0 l1=some r):
  Calls Tryz.prog 81 #[.slice A0 l0.length c0, .slice A1 l1.length c1] w fun e w'=>e= .returned (.bool r)∧al w w':=by
 have HR0:=aa.mk hr0
 have HC0:=aa.mk hc0
 clear hr0 hc0
 have HR1:=aa.mk hr1
 have HC1:=aa.mk hc1
 clear hr1 hc1
 have H:=h;unfold aT.f at H
 clear h
 by_cases c3:(l0.length:Int)=(l1.length:Int)
 ·rw[if_pos c3] at H
  have c3b0:=beq_iff_eq.mpr c3
  have c3b1:=bne_eq_false_iff_eq.mpr c3
  have c3b2:(l0.length==l1.length)=true:=by first|simpa using c3|(simp at c3 ⊢;omega)
  clear c3
  have H':=aa.mk H
  clear H
  go_enter Tryz.func81,Tryz.ntmps81
  go_wp2
  go_loopg [13] k (fun kq v13 w'=> ∃(x13_1:Int),v13= .int .i64 x13_1∧aa (aT.l0 kq l0 l1 (l0.length:Int) x13_1=some r)∧aa (kq≤k)∧al w w')
  case atStart=>exact⟨(0),ba,H',⟨Nat.le_refl _⟩,dA⟩
  case round=>
   clear H'
   obtain⟨x13_1,rfl,HA,HK1,⟨m1,rfl⟩⟩:=hrel
   cases gk with
   |zero=>exact absurd HA.out (by simp[aT.l0])
   |succ k1=>
    have H:=HA.out
    clear HA
    simp only[aT.l0] at H
    by_cases c4:x13_1<(l0.length:Int)
    ·rw[if_pos c4] at H
     have c4b0:=decide_eq_true c4
     clear c4
     by_cases c5:0≤x13_1
     ·rw[if_pos c5] at H
      have c5b0:=decide_eq_true c5
      clear c5
      by_cases c6:x13_1<(l0.length:Int)
      ·rw[if_pos c6] at H
       have c6b0:=decide_eq_true c6
       clear c6
       by_cases c7:x13_1<(l1.length:Int)
       ·rw[if_pos c7] at H
        have c7b0:=decide_eq_true c7
        clear c7
        by_cases c8:(rd l0 x13_1)=(rd l1 x13_1)
        ·rw[if_pos c8] at H
         have c8b0:=beq_iff_eq.mpr c8
         have c8b1:=bne_eq_false_iff_eq.mpr c8
         clear c8
         have H':=aa.mk H
         clear H
         have p101:0≤(x13_1:Int):=of_decide_eq_true (by assumption)
         have q101:x13_1<(l0.length:Int):=of_decide_eq_true (by assumption)
         obtain⟨ad101,e101,hx101_0⟩:=Kd.cS HR0.out x13_1 p101 q101
         cases e101
         replace p101:=eq_true p101
         replace q101:=eq_true q101
         have p102:0≤(x13_1:Int):=of_decide_eq_true (by assumption)
         have q102:x13_1<(l1.length:Int):=of_decide_eq_true (by assumption)
         obtain⟨ad102,e102,hx102_0⟩:=Kd.cS HR1.out x13_1 p102 q102
         cases e102
         replace p102:=eq_true p102
         replace q102:=eq_true q102
         go_wp2
         repeat(go_quiet (fail);try go_wp2)
         go_roundg k1
         case measure=>have:=HK1.out;omega
         case rel=>exact⟨(wrap64 (x13_1+1)),ba,H',⟨by have:=HK1.out;omega⟩,dA⟩
        ·rw[if_neg c8] at H
         have c8b0:=beq_eq_false_iff_ne.mpr c8
         have c8b1:=bne_iff_ne.mpr c8
         obtain rfl:=Option.some.inj H
         have p101:0≤(x13_1:Int):=of_decide_eq_true (by assumption)
         have q101:x13_1<(l0.length:Int):=of_decide_eq_true (by assumption)
         obtain⟨ad101,e101,hx101_0⟩:=Kd.cS HR0.out x13_1 p101 q101
         cases e101
         replace p101:=eq_true p101
         replace q101:=eq_true q101
         have p102:0≤(x13_1:Int):=of_decide_eq_true (by assumption)
         have q102:x13_1<(l1.length:Int):=of_decide_eq_true (by assumption)
         obtain⟨ad102,e102,hx102_0⟩:=Kd.cS HR1.out x13_1 p102 q102
         cases e102
         replace p102:=eq_true p102
         replace q102:=eq_true q102
         go_wp2
         repeat(go_quiet (fail);try go_wp2)
         go_ret
         exact⟨ba,dA⟩
       ·rw[if_neg c7] at H
        exact absurd H (by simp)
      ·rw[if_neg c6] at H
       exact absurd H (by simp)
     ·rw[if_neg c5] at H
      exact absurd H (by simp)
    ·rw[if_neg c4] at H
     have c4b0:=decide_eq_false c4
     clear c4
     obtain rfl:=Option.some.inj H
     go_wp2
     go_ret
     exact⟨ba,dA⟩
 ·rw[if_neg c3] at H
  have c3b0:=beq_eq_false_iff_ne.mpr c3
  have c3b1:=bne_iff_ne.mpr c3
  have c3b2:(l0.length==l1.length)=false:=by first|simpa using c3|(simp at c3 ⊢;omega)
  obtain rfl:=Option.some.inj H
  go_enter Tryz.func81,Tryz.ntmps81
  go_wp2
  go_ret
  exact⟨ba,dA⟩
noncomputable def bS.l0:Nat→Int→Int→Option (Int)
 |0,_,_=>none
 |k+1,x0,x1=>if x1>0 then(if x1=0 then(none) else(bS.l0 k x1 (Int.tmod x0 x1))) else(some x0)
noncomputable def bS.f(k:Nat)(a0:Int)(a1:Int):Option (Int):=bS.l0 k a0 a1
theorem bS.fx: ∀k,(∀y0 y1,dh (bS.l0 k y0 y1) (bS.l0 (k+1) y0 y1))
 |0=>fun _ _ r h=>by simp[bS.l0] at h
 |k+1=>by
  have ih0:=bS.fx k
  ·intro y0 y1
   unfold bS.l0
   repeat' first
   |(with_reducible exact ih0 _ _)
   |(with_reducible exact dh.refl _)
   |(with_reducible exact dh.none _)
   |(with_reducible refine dh.ite ?_ ?_)
   |(with_reducible refine dh.bind ?_ (fun _=>?_))
theorem bS.mono: ∀a0 a1 k,dh (bS.f k a0 a1) (bS.f (k+1) a0 a1):=by
 intro a0 a1 k
 have ih0:=bS.fx k
 unfold bS.f
 repeat' first
   |(with_reducible exact ih0 _ _)
   |(with_reducible exact dh.refl _)
   |(with_reducible exact dh.none _)
   |(with_reducible refine dh.ite ?_ ?_)
   |(with_reducible refine dh.bind ?_ (fun _=>?_))
set_option maxHeartbeats 8000000 in
set_option maxRecDepth 100000 in
theorem bS.calls(k:Nat)(a0:Int)(a1:Int)(r:Int)(w:World)(h:bS.f k a0 a1=some r):
  Calls Tryz.prog 141 #[.int .u64 a0, .int .u64 a1] w fun e w'=>e= .returned (.int .u64 r)∧al w w':=by
 have H:=h;unfold bS.f at H
 clear h
 have H':=aa.mk H
 clear H
 go_enter Tryz.func141,Tryz.ntmps141
 go_wp2
 go_loopg [0,1] k (fun kq v0 v1 w'=> ∃(x0_1:Int) (x1_1:Int),v0= .int .u64 x0_1∧v1= .int .u64 x1_1∧aa (bS.l0 kq x0_1 x1_1=some r)∧aa (kq≤k)∧al w w')
 case atStart=>exact⟨(a0),(a1),ba,ba,H',⟨Nat.le_refl _⟩,dA⟩
 case round=>
  clear H'
  obtain⟨x0_1,x1_1,rfl,rfl,HA,HK1,⟨m1,rfl⟩⟩:=hrel
  cases gk with
  |zero=>exact absurd HA.out (by simp[bS.l0])
  |succ k1=>
   have H:=HA.out
   clear HA
   simp only[bS.l0] at H
   by_cases c3:x1_1>0
   ·rw[if_pos c3] at H
    have c3b0:=decide_eq_true c3
    clear c3
    by_cases c4:x1_1=0
    ·rw[if_pos c4] at H
     exact absurd H (by simp)
    ·rw[if_neg c4] at H
     have c4b0:=beq_eq_false_iff_ne.mpr c4
     have c4b1:=bne_iff_ne.mpr c4
     have H':=aa.mk H
     clear H
     go_wp2
     repeat(go_quiet (fail);try go_wp2)
     go_roundg k1
     case measure=>have:=HK1.out;omega
     case rel=>exact⟨(x1_1),(Int.tmod x0_1 x1_1),ba,ba,H',⟨by have:=HK1.out;omega⟩,dA⟩
   ·rw[if_neg c3] at H
    have c3b0:=decide_eq_false c3
    clear c3
    obtain rfl:=Option.some.inj H
    go_wp2
    go_ret
    exact⟨ba,dA⟩
noncomputable def df.f(k:Nat)(a0:Int)(a1:Int):Option (Bool):=(bS.f k a0 a1).bind fun t103=>(some (t103==1))
theorem df.mono: ∀a0 a1 k,dh (df.f k a0 a1) (df.f (k+1) a0 a1):=by
 intro a0 a1 k
 unfold df.f
 repeat' first
   |(with_reducible exact bS.mono _ _ _)
   |(with_reducible exact dh.refl _)
   |(with_reducible exact dh.none _)
   |(with_reducible refine dh.ite ?_ ?_)
   |(with_reducible refine dh.bind ?_ (fun _=>?_))
set_option maxHeartbeats 8000000 in
set_option maxRecDepth 100000 in
theorem df.calls(k:Nat)(a0:Int)(a1:Int)(r:Bool)(w:World)(h:df.f k a0 a1=some r):
  Calls Tryz.prog 114 #[.int .u64 a0, .int .u64 a1] w fun e w'=>e= .returned (.bool r)∧al w w':=by
 have H:=h;unfold df.f at H
 clear h
 replace H:=Option.bind_eq_some_iff.mp H
 obtain⟨t103,A30,H⟩:=H
 (try dsimp only at H)
 have A3:=aa.mk A30
 clear A30
 obtain rfl:=Option.some.inj H
 go_enter Tryz.func114,Tryz.ntmps114
 go_wp2_with (first|(refine ez 7 Tryz.func141 #[.int .u64 a0, .int .u64 a1] rfl ?_;(with_reducible refine(bS.calls k a0 a1 t103 _ A3.out).mono ?_);rintro e w' ⟨rfl,⟨nd,rfl⟩⟩;refine⟨_,rfl,?_⟩))
 go_ret
 exact⟨ba,dA⟩
noncomputable def bq.f(k:Nat)(a0:Int)(a1:Int):Option (Bool):=if a0>1 then(if a1>1 then(if a1<a0 then(if a1=0 then(none) else(if(Int.tmod a0 a1)=0 then((df.f k (IntKind.u64.wrap (a1)) (IntKind.u64.wrap (wrap64 (Int.tdiv a0 a1)))).bind fun t104=>(some t104)) else(some false))) else(some false)) else(some false)) else(some false)
theorem bq.mono: ∀a0 a1 k,dh (bq.f k a0 a1) (bq.f (k+1) a0 a1):=by
 intro a0 a1 k
 unfold bq.f
 repeat' first
   |(with_reducible exact df.mono _ _ _)
   |(with_reducible exact dh.refl _)
   |(with_reducible exact dh.none _)
   |(with_reducible refine dh.ite ?_ ?_)
   |(with_reducible refine dh.bind ?_ (fun _=>?_))
set_option maxHeartbeats 8000000 in
set_option maxRecDepth 100000 in
theorem bq.calls(k:Nat)(a0:Int)(a1:Int)(r:Bool)(w:World)(h:bq.f k a0 a1=some r):
  Calls Tryz.prog 84 #[.int .i64 a0, .int .i64 a1] w fun e w'=>e= .returned (.bool r)∧al w w':=by
 have H:=h;unfold bq.f at H
 clear h
 by_cases c3:a0>1
 ·rw[if_pos c3] at H
  have c3b0:=decide_eq_true c3
  clear c3
  by_cases c4:a1>1
  ·rw[if_pos c4] at H
   have c4b0:=decide_eq_true c4
   clear c4
   by_cases c5:a1<a0
   ·rw[if_pos c5] at H
    have c5b0:=decide_eq_true c5
    clear c5
    by_cases c6:a1=0
    ·rw[if_pos c6] at H
     exact absurd H (by simp)
    ·rw[if_neg c6] at H
     have c6b0:=beq_eq_false_iff_ne.mpr c6
     have c6b1:=bne_iff_ne.mpr c6
     by_cases c7:(Int.tmod a0 a1)=0
     ·rw[if_pos c7] at H
      have c7b0:=beq_iff_eq.mpr c7
      have c7b1:=bne_eq_false_iff_eq.mpr c7
      clear c7
      replace H:=Option.bind_eq_some_iff.mp H
      obtain⟨t104,A80,H⟩:=H
      (try dsimp only at H)
      have A8:=aa.mk A80
      clear A80
      obtain rfl:=Option.some.inj H
      go_enter Tryz.func84,Tryz.ntmps84
      go_wp2_with (first|(go_at_call 114;(with_reducible refine(df.calls k (IntKind.u64.wrap (a1)) (IntKind.u64.wrap (wrap64 (Int.tdiv a0 a1))) t104 _ A8.out).mono ?_);rintro e w' ⟨rfl,⟨nd,rfl⟩⟩))
      go_ret
      exact⟨ba,dA⟩
     ·rw[if_neg c7] at H
      have c7b0:=beq_eq_false_iff_ne.mpr c7
      have c7b1:=bne_iff_ne.mpr c7
      obtain rfl:=Option.some.inj H
      go_enter Tryz.func84,Tryz.ntmps84
      go_wp2
      go_ret
      exact⟨ba,dA⟩
   ·rw[if_neg c5] at H
    have c5b0:=decide_eq_false c5
    clear c5
    obtain rfl:=Option.some.inj H
    go_enter Tryz.func84,Tryz.ntmps84
    go_wp2
    go_ret
    exact⟨ba,dA⟩
  ·rw[if_neg c4] at H
   have c4b0:=decide_eq_false c4
   clear c4
   obtain rfl:=Option.some.inj H
   go_enter Tryz.func84,Tryz.ntmps84
   go_wp2
   go_ret
   exact⟨ba,dA⟩
 ·rw[if_neg c3] at H
  have c3b0:=decide_eq_false c3
  clear c3
  obtain rfl:=Option.some.inj H
  go_enter Tryz.func84,Tryz.ntmps84
  go_wp2
  go_ret
  exact⟨ba,dA⟩
noncomputable def dj.f(a0:Int)(a1:Int):Option (Bool):=if a0>0 then(if a1>0 then(if a1=0 then(none) else(some (decide (a0≤(wrap64 (Int.tdiv (1024:Int) a1)))))) else(some false)) else(some false)
set_option maxHeartbeats 8000000 in
set_option maxRecDepth 100000 in
theorem dj.calls(a0:Int)(a1:Int)(r:Bool)(w:World)(h:dj.f a0 a1=some r):
  Calls Tryz.prog 113 #[.int .i64 a0, .int .i64 a1] w fun e w'=>e= .returned (.bool r)∧al w w':=by
 have H:=h;unfold dj.f at H
 clear h
 by_cases c3:a0>0
 ·rw[if_pos c3] at H
  have c3b0:=decide_eq_true c3
  clear c3
  by_cases c4:a1>0
  ·rw[if_pos c4] at H
   have c4b0:=decide_eq_true c4
   clear c4
   by_cases c5:a1=0
   ·rw[if_pos c5] at H
    exact absurd H (by simp)
   ·rw[if_neg c5] at H
    have c5b0:=beq_eq_false_iff_ne.mpr c5
    have c5b1:=bne_iff_ne.mpr c5
    obtain rfl:=Option.some.inj H
    go_enter Tryz.func113,Tryz.ntmps113
    go_wp2
    go_ret
    exact⟨ba,dA⟩
  ·rw[if_neg c4] at H
   have c4b0:=decide_eq_false c4
   clear c4
   obtain rfl:=Option.some.inj H
   go_enter Tryz.func113,Tryz.ntmps113
   go_wp2
   go_ret
   exact⟨ba,dA⟩
 ·rw[if_neg c3] at H
  have c3b0:=decide_eq_false c3
  clear c3
  obtain rfl:=Option.some.inj H
  go_enter Tryz.func113,Tryz.ntmps113
  go_wp2
  go_ret
  exact⟨ba,dA⟩
mutual
noncomputable def aQ.l0:Nat→List (dN)→List (dD)→Int→Int→Option ((List (dN)))
 |0,_,_,_,_=>none
 |k+1,x3,x9,x10,x11=>if x11<x10 then(if 0≤x11 then(if x11<(x9.length:Int) then(aQ.l1 k x3 ([]:List (bT)) x9 x10 x11 ((ag x9 x11).f2) (((ag x9 x11).f2).length:Int) 0 ((ag x9 x11).f0) ((ag x9 x11).f1) ((ag x9 x11).f2)) else(none)) else(none)) else(some x3)
noncomputable def aQ.l1:Nat→List (dN)→List (bT)→List (dD)→Int→Int→List (eX)→Int→Int→Int→Int→List (eX)→Option ((List (dN)))
 |0,_,_,_,_,_,_,_,_,_,_,_=>none
 |k+1,x3,x6,x9,x10,x11,x16,x17,x18,x111000,x111001,x111002=>if x18<x17 then(if 0≤x18 then(if x18<(x16.length:Int) then(if x6.length<8796093022208 then(aQ.l1 k x3 (x6++[(⟨(aI x16 x18).f0,(aI x16 x18).f1⟩:bT)]) x9 x10 x11 x16 x17 (wrap64 (x18+1)) x111000 x111001 x111002) else(none)) else(none)) else(none)) else(if x3.length<3518437208883 then(aQ.l0 k (x3++[(⟨x111000,x111001,x6⟩:dN)]) x9 x10 (wrap64 (x11+1))) else(none))
end
noncomputable def aQ.f(k:Nat)(l0:List (dD)):Option ((List (dN))):=aQ.l0 k ([]:List (dN)) l0 (l0.length:Int) 0
set_option maxHeartbeats 8000000 in
set_option maxRecDepth 100000 in
theorem aQ.calls(k:Nat)(A0:Option Addr)(c0:Nat)(l0:List (dD))(r:List (dN))(w:World)(hr0:Kd.C kv w A0 l0.length l0)(hc0:l0.length≤c0)(h:aQ.f k l0=some r):
  Calls Tryz.prog 85 #[.slice A0 l0.length c0] w fun e w'=> ∃v0_:Value,e= .returned (v0_)∧Kd.S kx 94 w' w.heap.size (fun _=>True) v0_ r∧Below w.heap.size w w':=by
 have hu134:=Tryz.underlying134
 have hu146:=Tryz.underlying146
 have hu94:=Tryz.underlying94
 have HR0:=aa.mk hr0
 have HC0:=aa.mk hc0
 clear hr0 hc0
 have HB:=aa.mk (Below.refl w.heap.size w)
 have H:=h;unfold aQ.f at H
 clear h
 have H':=aa.mk H
 clear H
 go_enter Tryz.func85,Tryz.ntmps85
 go_wp2
 go_loopg [3,11] k (fun kq v3 v11 w'=> ∃(x3_1:List (dN)) (x11_1:Int),v11= .int .i64 x11_1∧aa (aQ.l0 kq x3_1 l0 (l0.length:Int) x11_1=some r)∧aa (kq≤k)∧aa (Kd.S kx 94 w' w.heap.size (fun _=>True) v3 x3_1)∧aa (Below w.heap.size w w'))
 case atStart=>exact⟨(([]:List (dN))),(0),ba,H',⟨Nat.le_refl _⟩,⟨by first|exact Kd.jV _ _ _ _ _|exact Kd.l7 _ _ _ _ _|exact Kd.mr _ _ _ _ _|exact Kd.mi _ _ _ _ _|exact Kd.gi _ _ _ _ _⟩,⟨aj⟩⟩
 case round=>
  clear H'
  obtain⟨x3_1,x11_1,rfl,HA,HK1,HO_3,HB⟩:=hrel
  cases gk with
  |zero=>exact absurd HA.out (by simp[aQ.l0])
  |succ k1=>
   have H:=HA.out
   clear HA
   simp only[aQ.l0] at H
   by_cases c2:x11_1<(l0.length:Int)
   ·rw[if_pos c2] at H
    have c2b0:=decide_eq_true c2
    clear c2
    by_cases c3:0≤x11_1
    ·rw[if_pos c3] at H
     have c3b0:=decide_eq_true c3
     clear c3
     by_cases c4:x11_1<(l0.length:Int)
     ·rw[if_pos c4] at H
      have c4b0:=decide_eq_true c4
      clear c4
      have H':=aa.mk H
      clear H
      have p109:0≤(x11_1:Int):=of_decide_eq_true (by assumption)
      have q109:x11_1<(l0.length:Int):=of_decide_eq_true (by assumption)
      obtain⟨ad109,A109_2,c109_2,e109,hx109_0,hx109_1,hx109_2,hl109_2,hi109_2⟩:=ij HR0.out x11_1 p109 q109
      cases e109
      replace hx109_0:=ej HB.out hx109_0
      replace hx109_1:=ej HB.out hx109_1
      replace hx109_2:=ej HB.out hx109_2
      have HR109_2:=aa.mk hi109_2
      have HC109_2:=aa.mk hl109_2
      clear hi109_2 hl109_2
      replace p109:=eq_true p109
      replace q109:=eq_true q109
      go_wp2_with (first|((with_reducible refine a8 (N:=5) rfl ?_);refine iX 5 #[.int .u64 0, .int .u64 0, .slice none 0 0] 134 ?_;intro gb110 hg w5 hbox hb;have n0_:=aa.mk (Kd.iR (by(with_reducible repeat(first|apply Kd.gA|apply Kd.gx|apply Kd.iz));exact HO_3.out) hb);have n1_:=aa.mk (ai aj hb);have n2_:=aa.mk (hbox);have n3_:=aa.mk ((by rw[hg];exact(ah aj):w.heap.size≤gb110));have n4_:=aa.mk ((by rw[hg];exact(ah aj):w.heap.size≤gb110));clear HO_3;clear HB;have HO_3:=n0_;have HB:=n1_;have BK110:=n2_;have GW110:=n3_;have GE110:=n4_;clear n0_ n1_ n2_ n3_ n4_;clear hb hbox hg;have hcz6_0:=bD BK110.out 0 rfl;have hcz6_1:=bD BK110.out 1 rfl;have hcz6_2:=bD BK110.out 2 rfl;have hfz6_0:=ab BK110.out 0;have hfz6_1:=ab BK110.out 1;have hfz6_2:=ab BK110.out 2))
      go_loopg [6,18] k1 (fun kq v6 v18 w'=> ∃(x6_2:List (bT)) (x18_2:Int),v18= .int .i64 x18_2∧aa (aQ.l1 kq x3_1 x6_2 l0 (l0.length:Int) x11_1 ((ag l0 x11_1).f2) (((ag l0 x11_1).f2).length:Int) x18_2 ((ag l0 x11_1).f0) ((ag l0 x11_1).f1) ((ag l0 x11_1).f2)=some r)∧aa (kq≤k1)∧aa (Kd.S kx 94 w' w.heap.size (fun k_=>some k_≠(v6:Value).ownBlock) u3 x3_1)∧aa (Kd.R eD 147 w' w.heap.size (fun _=>True) v6 x6_2)∧aa (w'.heap[gb110]?=some (.cells #[.int .u64 ((ag l0 x11_1).f0), .int .u64 ((ag l0 x11_1).f1),(.slice A109_2 ((ag l0 x11_1).f2).length c109_2)] 134 (0,0)))∧aa (Below w.heap.size w w'))
      case atStart=>exact⟨(([]:List (bT))),(0),ba,H',⟨Nat.le_refl _⟩,⟨by(with_reducible repeat(first|apply Kd.gA|apply Kd.gx|apply Kd.iz));exact Kd.kG (Kd.qg (p:=⟨gb110,2,none⟩) (Kd.qg (p:=⟨gb110,1,none⟩) (Kd.qg (p:=⟨gb110,0,none⟩) (Kd.sJ HO_3.out BK110.out (by decide)) (fun _ hk=>hk.2) (.int .u64 ((ag l0 x11_1).f0))) (fun _ hk=>hk.2) (.int .u64 ((ag l0 x11_1).f1))) (fun _ hk=>hk.2) (.slice A109_2 ((ag l0 x11_1).f2).length c109_2)) (fun _ hk=>(by simp[Value.ownBlock]))⟩,⟨rQ⟩,⟨bN (bN (bN BK110.out 0 _ rfl) 1 _ rfl) 2 _ rfl⟩,⟨aj⟩⟩
      case round=>
       clear H'
       try clear hx1
       try clear hx109_0
       try clear hx109_1
       try clear hx109_2
       obtain⟨x6_2,x18_2,rfl,HA,HK2,HO_3,HO_6,BK110,HB⟩:=hrel
       cases gk with
       |zero=>exact absurd HA.out (by simp[aQ.l1])
       |succ k2=>
        have H:=HA.out
        clear HA
        simp only[aQ.l1] at H
        by_cases c7:x18_2<(((ag l0 x11_1).f2).length:Int)
        ·rw[if_pos c7] at H
         have c7b0:=decide_eq_true c7
         clear c7
         by_cases c8:0≤x18_2
         ·rw[if_pos c8] at H
          have c8b0:=decide_eq_true c8
          clear c8
          by_cases c9:x18_2<(((ag l0 x11_1).f2).length:Int)
          ·rw[if_pos c9] at H
           have c9b0:=decide_eq_true c9
           clear c9
           by_cases dR:x6_2.length<8796093022208
           ·rw[if_pos dR] at H
            have LMc10:=aa.mk dR
            clear dR
            obtain⟨y113,hy113⟩: ∃y_:List (bT),y_=(x6_2++[(⟨(aI ((ag l0 x11_1).f2) x18_2).f0,(aI ((ag l0 x11_1).f2) x18_2).f1⟩:bT)]):=⟨_,rfl⟩
            replace H:(aQ.l1 k2 x3_1 y113 l0 (l0.length:Int) x11_1 ((ag l0 x11_1).f2) (((ag l0 x11_1).f2).length:Int) (wrap64 (x18_2+1)) ((ag l0 x11_1).f0) ((ag l0 x11_1).f1) ((ag l0 x11_1).f2))=some r:=by first|(rw[hy113];with_reducible exact H)|(have H2_:=(Option.bind_some _ _).symm.trans H;rw[hy113];with_reducible exact H2_)|(have H2_:=(Option.bind_some _ _).symm.trans H;with_reducible exact H2_)|with_reducible exact H|(rw[hy113];exact H)|exact H
            have Ny113:=aa.mk hy113
            clear hy113
            have H':=aa.mk H
            clear H
            have p111:0≤(x18_2:Int):=of_decide_eq_true (by assumption)
            have q111:x18_2<(((ag l0 x11_1).f2).length:Int):=of_decide_eq_true (by assumption)
            obtain⟨ad111,e111,hx111_0,hx111_1⟩:=gL HR109_2.out x18_2 p111 q111
            cases e111
            replace hx111_0:=ej HB.out hx111_0
            replace hx111_1:=ej HB.out hx111_1
            replace p111:=eq_true p111
            replace q111:=eq_true q111
            go_wp2_with (first|((with_reducible refine a8 (N:=8) rfl ?_);refine iX 8 #[.int .u64 0, .int .i64 0] 146 ?_;intro gb112 hg w11 hbox hb;have n0_:=aa.mk (Kd.iR (by(with_reducible repeat(first|apply Kd.gA|apply Kd.gx|apply Kd.iz));exact HO_3.out) hb);have n1_:=aa.mk (Kd.de (bw HO_6.out) hb);have n2_:=aa.mk (aH BK110.out hb);have n3_:=aa.mk (ai aj hb);have n4_:=aa.mk (hbox);have n5_:=aa.mk ((by rw[hg];exact(ah aj):w.heap.size≤gb112));have n6_:=aa.mk ((by rw[hg];exact(ah aj):w.heap.size≤gb112));have n7_:=aa.mk ((by rw[hg];exact Nat.ne_of_lt (dw BK110.out):gb110≠gb112));have n8_:=aa.mk ((by rw[hg];exact Nat.ne_of_gt (dw BK110.out):gb112≠gb110));clear HO_3;clear HO_6;clear BK110;clear HB;have HO_3:=n0_;have HO_6:=n1_;have BK110:=n2_;have HB:=n3_;have BK112:=n4_;have GW112:=n5_;have GE112:=n6_;have NB110_112:=n7_;have NB112_110:=n8_;clear n0_ n1_ n2_ n3_ n4_ n5_ n6_ n7_ n8_;clear hb hbox hg;have hnb12:=NB112_110.out;have hnc12:=NB110_112.out;have hcz13_0:=bD BK112.out 0 rfl;have hcz13_1:=bD BK112.out 1 rfl;have hfz13_0:=ab BK112.out 0;have hfz13_1:=ab BK112.out 1)|((with_reducible refine dm (b:= .append) (xs:= #[.tmp 22, .tmp 24]) rfl ?_);at_builtin;refine Kd.gP eD (w0:=w) w.heap.size rfl (.tmp 22) (.tmp 24) 92 147 (.agg #[(.int .u64 0),(.int .i64 0)]) 16 rfl Tryz.underlying92 kb rfl (by decide) (by omega) u6 x6_2 (⟨(aI ((ag l0 x11_1).f2) x18_2).f0,(aI ((ag l0 x11_1).f2) x18_2).f1⟩:bT) [.int .u64 ((aI ((ag l0 x11_1).f2) x18_2).f0), .int .i64 ((aI ((ag l0 x11_1).f2) x18_2).f1)] (fun _=>True) (fun _=>False) rfl (by first|(go_simp;done)|(go_simp;rfl)) ?aP (fun _ hk=>hk.elim) ?aF ?aO ?aB ?aS ?aL ?_;(case aP=>exact k8 _ _ _ (⟨(aI ((ag l0 x11_1).f2) x18_2).f0,(aI ((ag l0 x11_1).f2) x18_2).f1⟩:bT));(case aB=>exact aj);(case aF=>exact(fun _ _=>trivial));(case aO=>exact(by(with_reducible repeat(first|apply Kd.bE|apply Kd.bL|apply Kd.bO));exact Kd.bz (Kd.nE (p:=⟨gb112,1,none⟩) (Kd.nE (p:=⟨gb112,0,none⟩) (Kd.oS HO_6.out BK112.out (by decide)) (fun _ hk=>hk.2) (.int .u64 ((aI ((ag l0 x11_1).f2) x18_2).f0))) (fun _ hk=>hk.2) (.int .i64 ((aI ((ag l0 x11_1).f2) x18_2).f1))) (fun _ hk=>trivial)));(case aS=>exact(ah aj));(case aL=>have:=LMc10.out;omega);intro v114 w14 ho hb hg hat;rw[←Ny113.out] at ho;have n0_:=aa.mk (Kd.xn (ok:=(fun _=>True)) (by(with_reducible repeat(first|apply Kd.gA|apply Kd.gx|apply Kd.iz));exact Kd.kG (Kd.qg (p:=⟨gb112,1,none⟩) (Kd.qg (p:=⟨gb112,0,none⟩) (Kd.sJ HO_3.out BK112.out (by decide)) (fun _ hk=>hk.2) (.int .u64 ((aI ((ag l0 x11_1).f2) x18_2).f0))) (fun _ hk=>hk.2) (.int .i64 ((aI ((ag l0 x11_1).f2) x18_2).f1))) (fun _ hk=>⟨trivial,hk.1⟩)) hg hat);have n1_:=aa.mk (ga (g:=gb110) (o:= .cells #[.int .u64 ((ag l0 x11_1).f0), .int .u64 ((ag l0 x11_1).f1), .slice (some ad111) ((ag l0 x11_1).f2).length c109_2] 134 (0,0)) (by(with_reducible repeat(first|refine cK ?_ _|refine bR ?_|refine cL ?_ _));refine dL ?_ NB110_112.out _;(with_reducible repeat(first|refine cK ?_ _|refine bR ?_|refine cL ?_ _));refine dL ?_ NB110_112.out _;(with_reducible repeat(first|refine cK ?_ _|refine bR ?_|refine cL ?_ _));exact BK110.out) hg (Kd.o8 HO_6.out BK110.out (by decide)));have n2_:=aa.mk (ga (g:=gb112) (o:= .cells #[.int .u64 ((aI ((ag l0 x11_1).f2) x18_2).f0), .int .i64 ((aI ((ag l0 x11_1).f2) x18_2).f1)] 146 (0,0)) (by(with_reducible repeat(first|refine cK ?_ _|refine bR ?_|refine cL ?_ _));refine bN (cs:= #[.int .u64 ((aI ((ag l0 x11_1).f2) x18_2).f0), .int .i64 0]) ?_ 1 _ rfl;(with_reducible repeat(first|refine cK ?_ _|refine bR ?_|refine cL ?_ _));refine bN (cs:= #[.int .u64 0, .int .i64 0]) ?_ 0 _ rfl;(with_reducible repeat(first|refine cK ?_ _|refine bR ?_|refine cL ?_ _));exact BK112.out) hg (Kd.o8 HO_6.out BK112.out (by decide)));have n3_:=aa.mk (hb);have n4_:=aa.mk (ho);clear HO_3;clear BK110;clear BK112;clear HB;clear HO_6;have HO_3:=n0_;have BK110:=n1_;have BK112:=n2_;have HB:=n3_;have HO115:=n4_;clear n0_ n1_ n2_ n3_ n4_;clear ho hb hg hat))
            go_roundg k2
            case measure=>have:=HK1.out;have:=HK2.out;omega
            case rel=>exact⟨(y113),(wrap64 (x18_2+1)),ba,H',⟨by have:=HK1.out;have:=HK2.out;omega⟩,⟨by(with_reducible repeat(first|apply Kd.gA|apply Kd.gx|apply Kd.iz));exact Kd.kG HO_3.out (fun _ hk=>hk.2)⟩,⟨bw HO115.out⟩,⟨ch BK110.out⟩,⟨aj⟩⟩
           ·rw[if_neg dR] at H
            exact absurd H (by simp)
          ·rw[if_neg c9] at H
           exact absurd H (by simp)
         ·rw[if_neg c8] at H
          exact absurd H (by simp)
        ·rw[if_neg c7] at H
         have c7b0:=decide_eq_false c7
         clear c7
         by_cases im:x3_1.length<3518437208883
         ·rw[if_pos im] at H
          have LMc15:=aa.mk im
          clear im
          obtain⟨y116,hy116⟩: ∃y_:List (dN),y_=(x3_1++[(⟨((ag l0 x11_1).f0),((ag l0 x11_1).f1),x6_2⟩:dN)]):=⟨_,rfl⟩
          replace H:(aQ.l0 k2 y116 l0 (l0.length:Int) (wrap64 (x11_1+1)))=some r:=by first|(rw[hy116];with_reducible exact H)|(have H2_:=(Option.bind_some _ _).symm.trans H;rw[hy116];with_reducible exact H2_)|(have H2_:=(Option.bind_some _ _).symm.trans H;with_reducible exact H2_)|with_reducible exact H|(rw[hy116];exact H)|exact H
          have Ny116:=aa.mk hy116
          clear hy116
          have H':=aa.mk H
          clear H
          have hcz16_0:=bD BK110.out 0 rfl
          have hcz16_1:=bD BK110.out 1 rfl
          have hcz16_2:=bD BK110.out 2 rfl
          have hfz16_0:=ab BK110.out 0
          have hfz16_1:=ab BK110.out 1
          have hfz16_2:=ab BK110.out 2
          obtain⟨Ao17,co17,eo17⟩:=Kd.bF HO_6.out
          subst eo17
          go_wp2_with (first|((with_reducible refine dm (b:= .append) (xs:= #[.tmp 27, .tmp 34]) rfl ?_);at_builtin;refine Kd.pW kx (w0:=w) w.heap.size rfl (.tmp 27) (.tmp 34) 81 94 (.agg #[(.int .u64 0),(.int .u64 0),(.slice none 0 0)]) 40 rfl Tryz.underlying81 kH rfl (by decide) (by omega) u3 x3_1 (⟨((ag l0 x11_1).f0),((ag l0 x11_1).f1),x6_2⟩:dN) [.int .u64 ((ag l0 x11_1).f0), .int .u64 ((ag l0 x11_1).f1), .slice Ao17 x6_2.length co17] (fun _=>True) (fun k_=>some k_=(.slice Ao17 x6_2.length co17:Value).ownBlock) rfl rfl ?aP (fun k_ hk_=>((Kd.bz (ok':=fun k_=>((fun _=>True)) k_∧some k_≠(u3:Value).ownBlock) (Kd.jL (HO_6.out) (Kd.sX HO_3.out) (by decide)) (fun k_ hk=>⟨trivial,hk.2⟩))).1 k_ hk_.symm) ?aF ?aO ?aB ?aS ?aL ?_;(case aP=>exact oU _ _ _ (⟨((ag l0 x11_1).f0),((ag l0 x11_1).f1),x6_2⟩:dN) (Kd.bz (Kd.jv rfl (Kd.bz (ok':=fun k_=>((fun _=>True)) k_∧some k_≠(u3:Value).ownBlock) (Kd.jL (HO_6.out) (Kd.sX HO_3.out) (by decide)) (fun k_ hk=>⟨trivial,hk.2⟩))) (fun _ h_=>h_)));(case aB=>exact aj);(case aF=>exact(fun _ _=>trivial));(case aO=>exact(by(with_reducible repeat(first|apply Kd.gA|apply Kd.gx|apply Kd.iz));exact Kd.kG HO_3.out (fun k_ hk=>⟨trivial,fun e_=>hk e_⟩)));(case aS=>exact(ah aj));(case aL=>have:=LMc15.out;omega);intro v117 w18 ho hb hg hat;rw[←Ny116.out] at ho;have n0_:=aa.mk (ga (g:=gb110) (o:= .cells #[.int .u64 ((ag l0 x11_1).f0), .int .u64 ((ag l0 x11_1).f1), .slice A109_2 ((ag l0 x11_1).f2).length c109_2] 134 (0,0)) (ch BK110.out) hg (Kd.Bt HO_3.out BK110.out (by decide)));have n1_:=aa.mk (hb);have n2_:=aa.mk (ho);clear BK110;clear HB;clear HO_3;clear HO_6;have BK110:=n0_;have HB:=n1_;have HO118:=n2_;clear n0_ n1_ n2_;clear ho hb hg hat))
          go_roundg k2
          case measure=>have:=HK1.out;have:=HK2.out;omega
          case rel=>exact⟨(y116),(wrap64 (x11_1+1)),ba,H',⟨by have:=HK1.out;have:=HK2.out;omega⟩,⟨by(with_reducible repeat(first|apply Kd.gA|apply Kd.gx|apply Kd.iz));exact HO118.out⟩,⟨aj⟩⟩
         ·rw[if_neg im] at H
          exact absurd H (by simp)
     ·rw[if_neg c4] at H
      exact absurd H (by simp)
    ·rw[if_neg c3] at H
     exact absurd H (by simp)
   ·rw[if_neg c2] at H
    have c2b0:=decide_eq_false c2
    clear c2
    obtain rfl:=Option.some.inj H
    go_wp2
    go_ret
    exact⟨_,ba,by(with_reducible repeat(first|apply Kd.gA|apply Kd.gx|apply Kd.iz));exact HO_3.out,aj⟩
noncomputable def br.f(k:Nat)(a0_0:Int)(a0_1:Int)(a0_2:Int)(l0_3:List (dD)):Option ((List (ct))×Int×Int):=(ar.f k a0_0 a0_1 a0_2 l0_3).bind fun bt120=>(if a0_0=0 then((fw.f k a0_2).bind fun bt123=>(some (bt123.1,bt120.1,bt120.2.1))) else(if a0_0=1 then((eu.f k a0_1).bind fun bt127=>(some (bt127.1,bt120.1,bt120.2.1))) else(if(l0_3.length:Int)≤40 then((aQ.f k l0_3).bind fun t131=>((eG.f k t131 a0_2).bind fun bt134=>(some (bt134.1,bt120.1,bt120.2.1)))) else(some (([]:List (ct)),bt120.1,bt120.2.1)))))
def br.T5:Bool×List (List Nat×List Nat):=(true,[([],[]),([0],[0]),([1],[1]),([],[]),([3],[3]),([2,4,2],[2,4]),([5],[5]),([6],[6]),([6],[6]),([7,5,0,1,2,3,4,5,6,7],[7])])
def br.B5:List Nat:=[0,1,3,0,8,31,63,127,127,255]
theorem br.z7:gq .any (opsOf Tryz.f44 5)=br.T5:=by kernel_rfl
theorem br.wP:fL br.T5.2 br.B5=true:=by kernel_rfl
set_option maxHeartbeats 8000000 in
set_option maxRecDepth 100000 in
theorem br.calls(k:Nat)(a0_0:Int)(a0_1:Int)(a0_2:Int)(A0_3:Option Addr)(c0_3:Nat)(l0_3:List (dD))(r1:List (ct))(r2:Int)(r3:Int)(w:World)(hr0_3:Kd.C kv w A0_3 l0_3.length l0_3)(hc0_3:l0_3.length≤c0_3)(h:br.f k a0_0 a0_1 a0_2 l0_3=some (r1,r2,r3)):
  Calls Tryz.prog 44 #[.agg #[.int .i64 a0_0, .int .i64 a0_1, .int .u64 a0_2, .slice A0_3 l0_3.length c0_3]] w fun e w'=> ∃v0_:Value,e= .returned (.tuple #[bh v0_, .int .u64 r2, .int .u64 r3])∧Kd.R fK 97 w' w.heap.size (fun _=>True) v0_ r1∧Below w.heap.size w w':=by
 have hu25:=Tryz.underlying25
 have HR0_3:=aa.mk hr0_3
 have HC0_3:=aa.mk hc0_3
 clear hr0_3 hc0_3
 have HB:=aa.mk (Below.refl w.heap.size w)
 have H:=h;unfold br.f at H
 clear h
 replace H:=Option.bind_eq_some_iff.mp H
 obtain⟨⟨t120,t121,t122⟩,A20,H⟩:=H
 (try dsimp only at H)
 have A2:=aa.mk A20
 clear A20
 by_cases c3:a0_0=0
 ·rw[if_pos c3] at H
  have c3b0:=beq_iff_eq.mpr c3
  have c3b1:=bne_eq_false_iff_eq.mpr c3
  clear c3
  replace H:=Option.bind_eq_some_iff.mp H
  obtain⟨⟨t123,t124⟩,A40,H⟩:=H
  (try dsimp only at H)
  have A4:=aa.mk A40
  clear A40
  simp only[Option.some.injEq,Prod.mk.injEq] at H
  obtain⟨rfl,rfl,rfl⟩:=H
  go_enter Tryz.func44,Tryz.ntmps44
  go_wp2_with (first|((with_reducible refine a8 (N:=1) rfl ?_);refine iX 1 #[.int .i64 a0_0, .int .i64 a0_1, .int .u64 a0_2, .slice A0_3 l0_3.length c0_3] 25 ?_;intro gb119 hg w5 hbox hb;have n0_:=aa.mk (ai aj hb);have n1_:=aa.mk (hbox);have n2_:=aa.mk ((by rw[hg];exact(ah aj):w.heap.size≤gb119));have n3_:=aa.mk ((by rw[hg];exact(ah aj):w.heap.size≤gb119));clear HB;have HB:=n0_;have BK119:=n1_;have GW119:=n2_;have GE119:=n3_;clear n0_ n1_ n2_ n3_;clear hb hbox hg;have hcz6_0:=bD BK119.out 0 rfl;have hcz6_1:=bD BK119.out 1 rfl;have hcz6_2:=bD BK119.out 2 rfl;have hcz6_3:=bD BK119.out 3 rfl;have hfz6_0:=ab BK119.out 0;have hfz6_1:=ab BK119.out 1;have hfz6_2:=ab BK119.out 2;have hfz6_3:=ab BK119.out 3)|(refine ez 11 Tryz.func49 #[.agg #[.int .i64 a0_0, .int .i64 a0_1, .int .u64 a0_2, .slice A0_3 l0_3.length c0_3]] rfl ?_;(with_reducible refine(ar.calls k a0_0 a0_1 a0_2 _ _ l0_3 t120 t121 t122 _ ?side1 ?side2 A2.out).mono ?_);(case side1=>exact cr (Kd.bl HR0_3.out HB.out));(case side2=>exact HC0_3.out);rintro e w7 ⟨rfl,hb⟩;refine⟨_,rfl,?_⟩;have n0_:=aa.mk (aH BK119.out hb);have n1_:=aa.mk (ai aj hb);clear BK119;clear HB;have BK119:=n0_;have HB:=n1_;clear n0_ n1_;have hcz8_0:=bD BK119.out 0 rfl;have hcz8_1:=bD BK119.out 1 rfl;have hcz8_2:=bD BK119.out 2 rfl;have hcz8_3:=bD BK119.out 3 rfl;have hfz8_0:=ab BK119.out 0;have hfz8_1:=ab BK119.out 1;have hfz8_2:=ab BK119.out 2;have hfz8_3:=ab BK119.out 3)|(refine ez 35 Tryz.func48 #[.int .u64 a0_2] rfl ?_;(with_reducible refine(fw.calls k a0_2 t123 t124 _ A4.out).mono ?_);rintro e w9 ⟨v125,rfl,ho0,hb⟩;refine⟨_,rfl,?_⟩;have n0_:=aa.mk (Kd.bA ho0 (ah aj));have n1_:=aa.mk (aH BK119.out hb);have n2_:=aa.mk (ai aj hb);clear BK119;clear HB;have HO126:=n0_;have BK119:=n1_;have HB:=n2_;clear n0_ n1_ n2_;(try clear ho0)))
  go_ret3
  exact⟨_,ba,bw HO126.out,aj⟩
 ·rw[if_neg c3] at H
  have c3b0:=beq_eq_false_iff_ne.mpr c3
  have c3b1:=bne_iff_ne.mpr c3
  by_cases dR:a0_0=1
  ·rw[if_pos dR] at H
   have c10b0:=beq_iff_eq.mpr dR
   have c10b1:=bne_eq_false_iff_eq.mpr dR
   clear dR
   replace H:=Option.bind_eq_some_iff.mp H
   obtain⟨⟨t127,t128⟩,A110,H⟩:=H
   (try dsimp only at H)
   have A11:=aa.mk A110
   clear A110
   simp only[Option.some.injEq,Prod.mk.injEq] at H
   obtain⟨rfl,rfl,rfl⟩:=H
   go_enter Tryz.func44,Tryz.ntmps44
   go_wp2_with (first|((with_reducible refine a8 (N:=1) rfl ?_);refine iX 1 #[.int .i64 a0_0, .int .i64 a0_1, .int .u64 a0_2, .slice A0_3 l0_3.length c0_3] 25 ?_;intro gb119 hg w12 hbox hb;have n0_:=aa.mk (ai aj hb);have n1_:=aa.mk (hbox);have n2_:=aa.mk ((by rw[hg];exact(ah aj):w.heap.size≤gb119));have n3_:=aa.mk ((by rw[hg];exact(ah aj):w.heap.size≤gb119));clear HB;have HB:=n0_;have BK119:=n1_;have GW119:=n2_;have GE119:=n3_;clear n0_ n1_ n2_ n3_;clear hb hbox hg;have hcz13_0:=bD BK119.out 0 rfl;have hcz13_1:=bD BK119.out 1 rfl;have hcz13_2:=bD BK119.out 2 rfl;have hcz13_3:=bD BK119.out 3 rfl;have hfz13_0:=ab BK119.out 0;have hfz13_1:=ab BK119.out 1;have hfz13_2:=ab BK119.out 2;have hfz13_3:=ab BK119.out 3)|(refine ez 11 Tryz.func49 #[.agg #[.int .i64 a0_0, .int .i64 a0_1, .int .u64 a0_2, .slice A0_3 l0_3.length c0_3]] rfl ?_;(with_reducible refine(ar.calls k a0_0 a0_1 a0_2 _ _ l0_3 t120 t121 t122 _ ?side1 ?side2 A2.out).mono ?_);(case side1=>exact cr (Kd.bl HR0_3.out HB.out));(case side2=>exact HC0_3.out);rintro e w14 ⟨rfl,hb⟩;refine⟨_,rfl,?_⟩;have n0_:=aa.mk (aH BK119.out hb);have n1_:=aa.mk (ai aj hb);clear BK119;clear HB;have BK119:=n0_;have HB:=n1_;clear n0_ n1_;have hcz15_0:=bD BK119.out 0 rfl;have hcz15_1:=bD BK119.out 1 rfl;have hcz15_2:=bD BK119.out 2 rfl;have hcz15_3:=bD BK119.out 3 rfl;have hfz15_0:=ab BK119.out 0;have hfz15_1:=ab BK119.out 1;have hfz15_2:=ab BK119.out 2;have hfz15_3:=ab BK119.out 3)|(refine ez 43 Tryz.func50 #[.int .i64 a0_1] rfl ?_;(with_reducible refine(eu.calls k a0_1 t127 t128 _ A11.out).mono ?_);rintro e w16 ⟨v129,rfl,ho0,hb⟩;refine⟨_,rfl,?_⟩;have n0_:=aa.mk (Kd.bA ho0 (ah aj));have n1_:=aa.mk (aH BK119.out hb);have n2_:=aa.mk (ai aj hb);clear BK119;clear HB;have HO130:=n0_;have BK119:=n1_;have HB:=n2_;clear n0_ n1_ n2_;(try clear ho0)))
   go_ret3
   exact⟨_,ba,bw HO130.out,aj⟩
  ·rw[if_neg dR] at H
   have c10b0:=beq_eq_false_iff_ne.mpr dR
   have c10b1:=bne_iff_ne.mpr dR
   by_cases gQ:(l0_3.length:Int)≤40
   ·rw[if_pos gQ] at H
    have c17b0:=decide_eq_true gQ
    have c17b1:decide (l0_3.length≤40)=true:=decide_eq_true (by omega)
    clear gQ
    replace H:=Option.bind_eq_some_iff.mp H
    obtain⟨t131,A180,H⟩:=H
    (try dsimp only at H)
    have A18:=aa.mk A180
    clear A180
    replace H:=Option.bind_eq_some_iff.mp H
    obtain⟨⟨t134,t135⟩,A190,H⟩:=H
    (try dsimp only at H)
    have A19:=aa.mk A190
    clear A190
    simp only[Option.some.injEq,Prod.mk.injEq] at H
    obtain⟨rfl,rfl,rfl⟩:=H
    go_enter Tryz.func44,Tryz.ntmps44
    try go_wp2_with (first|((with_reducible refine a8 (N:=1) rfl ?_);refine iX 1 #[.int .i64 a0_0, .int .i64 a0_1, .int .u64 a0_2, .slice A0_3 l0_3.length c0_3] 25 ?_;intro gb119 hg w20 hbox hb;have n0_:=aa.mk (ai aj hb);have n1_:=aa.mk (hbox);have n2_:=aa.mk ((by rw[hg];exact(ah aj):w.heap.size≤gb119));have n3_:=aa.mk ((by rw[hg];exact(ah aj):w.heap.size≤gb119));clear HB;have HB:=n0_;have BK119:=n1_;have GW119:=n2_;have GE119:=n3_;clear n0_ n1_ n2_ n3_;clear hb hbox hg;have hcz21_0:=bD BK119.out 0 rfl;have hcz21_1:=bD BK119.out 1 rfl;have hcz21_2:=bD BK119.out 2 rfl;have hcz21_3:=bD BK119.out 3 rfl;have hfz21_0:=ab BK119.out 0;have hfz21_1:=ab BK119.out 1;have hfz21_2:=ab BK119.out 2;have hfz21_3:=ab BK119.out 3)|(refine ez 11 Tryz.func49 #[.agg #[.int .i64 a0_0, .int .i64 a0_1, .int .u64 a0_2, .slice A0_3 l0_3.length c0_3]] rfl ?_;(with_reducible refine(ar.calls k a0_0 a0_1 a0_2 _ _ l0_3 t120 t121 t122 _ ?side1 ?side2 A2.out).mono ?_);(case side1=>exact cr (Kd.bl HR0_3.out HB.out));(case side2=>exact HC0_3.out);rintro e w22 ⟨rfl,hb⟩;refine⟨_,rfl,?_⟩;have n0_:=aa.mk (aH BK119.out hb);have n1_:=aa.mk (ai aj hb);clear BK119;clear HB;have BK119:=n0_;have HB:=n1_;clear n0_ n1_;have hcz23_0:=bD BK119.out 0 rfl;have hcz23_1:=bD BK119.out 1 rfl;have hcz23_2:=bD BK119.out 2 rfl;have hcz23_3:=bD BK119.out 3 rfl;have hfz23_0:=ab BK119.out 0;have hfz23_1:=ab BK119.out 1;have hfz23_2:=ab BK119.out 2;have hfz23_3:=ab BK119.out 3))
    have n0_:=aa.mk (bR BK119.out)
    have n1_:=aa.mk (bx HB.out)
    clear BK119
    clear HB
    have BK119:=n0_
    have HB:=n1_
    clear n0_ n1_
    refine fN (n:=10) (S:=fun w'=>w'.cell? ⟨gb119,0,none⟩=some (.int .i64 a0_0)∧w'.cell? ⟨gb119,1,none⟩=some (.int .i64 a0_1)∧w'.cell? ⟨gb119,2,none⟩=some (.int .u64 a0_2)∧w'.cell? ⟨gb119,3,none⟩=some (.slice A0_3 l0_3.length c0_3)) (ds:=[]) #[false,false,false,false,false,false,false,false,false,false] (by kernel_rfl) rfl rfl ⟨(ak BK119.out 0).trans rfl,(ak BK119.out 1).trans rfl,(ak BK119.out 2).trans rfl,(ak BK119.out 3).trans rfl⟩ (fun hHeld=>?_);refine ey br.z7 br.wP (fun HT_ HW_=>?_)
    generalize w22.drew=w24 at BK119 HB hHeld ⊢
    refine dt 0 22 HT_ rfl rfl ?_
    refine dt 3 25 HT_ rfl rfl ?_
    refine jC 1 23 (cm HT_.out HW_.out (by kernel_rfl)) hHeld (by rintro w' ⟨s0,s1,s2,s3⟩;go_simp;with_reducible rfl) rfl rfl ?_
    refine jC 4 26 (cm HT_.out HW_.out (by kernel_rfl)) hHeld (by rintro w' ⟨s0,s1,s2,s3⟩;go_simp;with_reducible rfl) rfl rfl ?_
    refine jG (i:=2) (N:=some 24) #[true,true,true,true,true,false,false,false,false,false] rfl rfl (fe HT_.out (by kernel_rfl)) (by decide) (fun K hK=>?_)
    refine gN Tryz.func85 (by kernel_rfl) rfl #[.slice A0_3 l0_3.length c0_3] (by rfl) rfl rfl zn ?_
    with_reducible refine(aQ.calls k _ _ l0_3 t131 _ ?side1 ?side2 A18.out).mono ?_
    (case side1=>exact cr (Kd.bl HR0_3.out HB.out))
    (case side2=>exact HC0_3.out)
    rintro e w25 ⟨v132,rfl,ho0,hb⟩
    refine⟨_,rfl,?_⟩
    have n0_:=aa.mk (Kd.kY ho0 (ah aj))
    have n1_:=aa.mk (aH BK119.out hb)
    have n2_:=aa.mk (ai aj hb)
    clear BK119
    clear HB
    have HO133:=n0_
    have BK119:=n1_
    have HB:=n2_
    clear n0_ n1_ n2_
    (try clear hb)
    (try clear hb2)
    (try clear hk)
    (try clear hi)
    (try clear ho0)
    obtain⟨Ao26,co26,eo26⟩:=Kd.oT HO133.out
    (first|subst eo26|(injection eo26 with f1_ f2_ f3_;have f4_:=f1_.symm;have f5_:=f3_.symm;clear f1_ f2_ f3_;subst f4_;subst f5_))
    refine hK.out _ _ ⟨(ak BK119.out 0).trans rfl,(ak BK119.out 1).trans rfl,(ak BK119.out 2).trans rfl,(ak BK119.out 3).trans rfl⟩ (fun hHeld=>?_)
    clear hK K
    refine qU ?_
    refine jG (i:=5) (N:=some 27) #[true,true,true,true,true,true,false,false,false,false] rfl rfl (fe HT_.out (by kernel_rfl)) (by decide) (fun K hK=>?_)
    refine gN Tryz.func51 (by kernel_rfl) rfl #[.slice Ao26 t131.length co26, .int .u64 a0_2] (by rfl) rfl rfl zn ?_
    with_reducible refine(eG.calls k _ _ t131 a0_2 t134 t135 _ ?side1 ?side2 A19.out).mono ?_
    (case side1=>repeat(first|exact(Kd.je HO133.out).2.2|(with_reducible refine Kd.cM ?_ _)|(with_reducible refine Kd.db ?_ _)|(with_reducible refine Kd.dC ?_)))
    (case side2=>exact(Kd.je HO133.out).2.1)
    rintro e w27 ⟨v136,rfl,ho0,hb⟩
    refine⟨_,rfl,?_⟩
    have n0_:=aa.mk (Kd.iR (by(with_reducible repeat(first|apply Kd.gA|apply Kd.gx|apply Kd.iz));exact HO133.out) hb)
    have n1_:=aa.mk (Kd.bA ho0 (ah aj))
    have n2_:=aa.mk (aH BK119.out hb)
    have n3_:=aa.mk (ai aj hb)
    clear HO133
    clear BK119
    clear HB
    have HO133:=n0_
    have HO137:=n1_
    have BK119:=n2_
    have HB:=n3_
    clear n0_ n1_ n2_ n3_
    (try clear hb)
    (try clear hb2)
    (try clear hk)
    (try clear hi)
    (try clear ho0)
    refine hK.out _ _ ⟨(ak BK119.out 0).trans rfl,(ak BK119.out 1).trans rfl,(ak BK119.out 2).trans rfl,(ak BK119.out 3).trans rfl⟩ (fun hHeld=>?_)
    clear hK K
    refine qU ?_
    refine dt 6 21 HT_ rfl rfl ?_
    refine dt 7 28 HT_ rfl rfl ?_
    refine dt 8 29 HT_ rfl rfl ?_
    refine dt 9 8 HT_ rfl rfl ?_
    refine ic (fH HT_.out (by kernel_rfl)) ?_
    try go_wp2
    go_ret3
    exact⟨_,ba,bw HO137.out,aj⟩
   ·rw[if_neg gQ] at H
    have c17b0:=decide_eq_false gQ
    have c17b1:decide (l0_3.length≤40)=false:=decide_eq_false (by omega)
    clear gQ
    simp only[Option.some.injEq,Prod.mk.injEq] at H
    obtain⟨rfl,rfl,rfl⟩:=H
    go_enter Tryz.func44,Tryz.ntmps44
    go_wp2_with (first|((with_reducible refine a8 (N:=1) rfl ?_);refine iX 1 #[.int .i64 a0_0, .int .i64 a0_1, .int .u64 a0_2, .slice A0_3 l0_3.length c0_3] 25 ?_;intro gb119 hg w28 hbox hb;have n0_:=aa.mk (ai aj hb);have n1_:=aa.mk (hbox);have n2_:=aa.mk ((by rw[hg];exact(ah aj):w.heap.size≤gb119));have n3_:=aa.mk ((by rw[hg];exact(ah aj):w.heap.size≤gb119));clear HB;have HB:=n0_;have BK119:=n1_;have GW119:=n2_;have GE119:=n3_;clear n0_ n1_ n2_ n3_;clear hb hbox hg;have hcz29_0:=bD BK119.out 0 rfl;have hcz29_1:=bD BK119.out 1 rfl;have hcz29_2:=bD BK119.out 2 rfl;have hcz29_3:=bD BK119.out 3 rfl;have hfz29_0:=ab BK119.out 0;have hfz29_1:=ab BK119.out 1;have hfz29_2:=ab BK119.out 2;have hfz29_3:=ab BK119.out 3)|(refine ez 11 Tryz.func49 #[.agg #[.int .i64 a0_0, .int .i64 a0_1, .int .u64 a0_2, .slice A0_3 l0_3.length c0_3]] rfl ?_;(with_reducible refine(ar.calls k a0_0 a0_1 a0_2 _ _ l0_3 t120 t121 t122 _ ?side1 ?side2 A2.out).mono ?_);(case side1=>exact cr (Kd.bl HR0_3.out HB.out));(case side2=>exact HC0_3.out);rintro e w30 ⟨rfl,hb⟩;refine⟨_,rfl,?_⟩;have n0_:=aa.mk (aH BK119.out hb);have n1_:=aa.mk (ai aj hb);clear BK119;clear HB;have BK119:=n0_;have HB:=n1_;clear n0_ n1_;have hcz31_0:=bD BK119.out 0 rfl;have hcz31_1:=bD BK119.out 1 rfl;have hcz31_2:=bD BK119.out 2 rfl;have hcz31_3:=bD BK119.out 3 rfl;have hfz31_0:=ab BK119.out 0;have hfz31_1:=ab BK119.out 1;have hfz31_2:=ab BK119.out 2;have hfz31_3:=ab BK119.out 3))
    go_ret3
    exact⟨(.slice none 0 0),ba,rQ,aj⟩
end Go.Proofs.YtndkmnjbjlfeaaaGreat.XC
end
section
namespace Go.Proofs.YtndkmnjbjlfeaaaGreat.XC
open Go Go.RowKit Go.Proofs.YtndkmnjbjlfeaaaGreatW.PrintWords Go.Proofs.YtndkmnjbjlfeaaaGreatW.PrintLast Go.Proofs.YtndkmnjbjlfeaaaGreatW.PrintMore Go.Proofs.YtndkmnjbjlfeaaaGreat.Given Go.Proofs.YtndkmnjbjlfeaaaGreat.M Go.Proofs.YtndkmnjbjlfeaaaGreat.Mont Go.Proofs.YtndkmnjbjlfeaaaGreat.XS Go.Proofs.YtndkmnjbjlfeaaaGreat.XT Go.Proofs.YtndkmnjbjlfeaaaGreat.XR Go.Proofs.YtndkmnjbjlfeaaaGreat.F06 Go.Proofs.YtndkmnjbjlfeaaaGreat.XM
set_option linter.unusedVariables false
mutual
noncomputable def a7.l0:Nat→Int→Int→Int→List Int→Int→Option (List Int)
 |0,_,_,_,_,_=>none
 |k+1,a,b,n,x6,x25=>if x25<a then a7.l1 k a b n x6 x25 0 else some x6
noncomputable def a7.l1:Nat→Int→Int→Int→List Int→Int→Int→Option (List Int)
 |0,_,_,_,_,_,_=>none
 |k+1,a,b,n,x6,x25,x29=>if x29<b then(if n=0 then none else if x6.length<17592186044416 then a7.l1 k a b n (x6++[Int.tmod (wrap64 (wrap64 (b*x25)+wrap64 (a*x29))) n]) x25 (wrap64 (x29+1)) else none) else a7.l0 k a b n x6 (wrap64 (x25+1))
end
noncomputable def a7.f(k:Nat)(a b:Int):Option (List Int):=(dj.f a b).bind fun s=>if s=true then((bq.f k (wrap64 (a*b)) a).bind fun t=>if t=true then(if 0≤wrap64 (a*b)∧wrap64 (a*b)≤1024 then a7.l0 k a b (wrap64 (a*b)) [] 0 else none) else some []) else some []
theorem a7.fx: ∀k,(∀y0 y1 y2 y3 y4,dh (a7.l0 k y0 y1 y2 y3 y4) (a7.l0 (k+1) y0 y1 y2 y3 y4))∧(∀y0 y1 y2 y3 y4 y5,dh (a7.l1 k y0 y1 y2 y3 y4 y5) (a7.l1 (k+1) y0 y1 y2 y3 y4 y5))
 |0=>⟨fun _ _ _ _ _ r h=>by simp[a7.l0] at h,fun _ _ _ _ _ _ r h=>by simp[a7.l1] at h⟩
 |k+1=>by
  obtain⟨ih0,ih1⟩:=a7.fx k
  refine⟨?_,?_⟩
  ·intro y0 y1 y2 y3 y4
   unfold a7.l0
   exact dh.ite (ih1 _ _ _ _ _ _) (dh.refl _)
  ·intro y0 y1 y2 y3 y4 y5
   unfold a7.l1
   exact dh.ite (dh.ite (dh.refl _) (dh.ite (ih1 _ _ _ _ _ _) (dh.refl _))) (ih0 _ _ _ _ _)
theorem a7.mono: ∀a0 a1 k,dh (a7.f k a0 a1) (a7.f (k+1) a0 a1):=by
 intro a0 a1 k
 unfold a7.f
 exact dh.bind (dh.refl _) fun _=>dh.ite (dh.bind (bq.mono _ _ _) fun _=>dh.ite (dh.ite ((a7.fx k).1 _ _ _ _ _) (dh.refl _)) (dh.refl _)) (dh.refl _)
set_option maxHeartbeats 8000000 in
set_option maxRecDepth 100000 in
theorem a7.calls(k:Nat)(a0:Int)(a1:Int)(r:List Int)(w:World)(h:a7.f k a0 a1=some r):
  Calls Tryz.prog 82 #[.int .i64 a0, .int .i64 a1] w fun e w'=> ∃v0_:Value,e= .returned (v0_)∧Kd.R (Kd.int .i64) 3 w' w.heap.size (fun _=>True) v0_ r∧Below w.heap.size w w':=by
 have HB:=aa.mk (Below.refl w.heap.size w)
 unfold a7.f at h
 obtain⟨s,hs,h⟩:=Option.bind_eq_some_iff.mp h
 have HS:=aa.mk hs
 clear hs
 obtain⟨n9,hn9⟩: ∃z_:Int,wrap64 (a0*a1)=z_:=⟨_,rfl⟩
 have hn9v:IntKind.i64.wrap (a0*a1)=n9:=by simp only[bs];exact hn9
 rw[hn9] at h
 cases s with
 |false=>
  rw[if_neg Bool.false_ne_true] at h
  obtain rfl:=Option.some.inj h
  clear h
  go_enter Tryz.func82,Tryz.ntmps82
  go_wp2_with (first|(go_at_call 113;(with_reducible refine(dj.calls a0 a1 false _ HS.out).mono ?_);rintro e w' ⟨rfl,⟨nd,rfl⟩⟩))
  go_ret
  exact⟨_,rfl,Kd.gi _ _ _ _ _,by repeat(first|exact HB.out|apply ay|apply bx)⟩
 |true=>
  rw[if_pos rfl] at h
  obtain⟨t,ht,h⟩:=Option.bind_eq_some_iff.mp h
  have HT:=aa.mk ht
  clear ht
  cases t with
  |false=>
   rw[if_neg Bool.false_ne_true] at h
   obtain rfl:=Option.some.inj h
   clear h
   go_enter Tryz.func82,Tryz.ntmps82
   go_wp2_with (first
    |(go_at_call 113;(with_reducible refine(dj.calls a0 a1 true _ HS.out).mono ?_);rintro e w' ⟨rfl,⟨nd,rfl⟩⟩)
    |(go_at_call 84;(with_reducible refine(bq.calls k n9 a0 false _ HT.out).mono ?_);rintro e w' ⟨rfl,⟨nd2,rfl⟩⟩))
   go_ret
   exact⟨_,rfl,Kd.gi _ _ _ _ _,by repeat(first|exact HB.out|apply ay|apply bx)⟩
  |true=>
   rw[if_pos rfl] at h
   by_cases c:0≤n9∧n9≤1024
   ·rw[if_pos c] at h
    have H':=aa.mk h
    have HC:=aa.mk c
    clear h c
    obtain⟨i3,e1,e2,e3,e4⟩:=info_parts pF
    have HI:=aa.mk (And.intro e1 (And.intro e2 (And.intro e3 e4)))
    clear e1 e2 e3 e4
    go_enter Tryz.func82,Tryz.ntmps82
    go_wp2_with (first
     |(go_at_call 113;(with_reducible refine(dj.calls a0 a1 true _ HS.out).mono ?_);rintro e w' ⟨rfl,⟨nd,rfl⟩⟩)
     |(go_at_call 84;(with_reducible refine(bq.calls k n9 a0 true _ HT.out).mono ?_);rintro e w' ⟨rfl,⟨nd2,rfl⟩⟩)
     |((with_reducible refine a8 (N:=23) rfl ?_);refine wpList_make_own _ rfl (.const (.int .i64 0)) (.tmp 22) 98 rfl w.heap.size 3 i3 (.int .i64 0) 1 Tryz.underlying98 HI.out.1 HI.out.2.1 HI.out.2.2.1 .i64 .i64 n9 n9.toNat rfl rfl (by have:=HC.out;omega) (by rw[HI.out.2.2.2];have:=HC.out;omega) (by have:=HC.out;unfold Go.maxLen;omega) (Nat.le_refl _) ?_;intro w7 hown hg;have n0_:aa (Below w.heap.size w w7):=⟨(by repeat(first|exact HB.out|apply ay|apply bx):Below w.heap.size w _).grown hg (Nat.le_refl _) (fun k hk=>by cases hk)⟩;have n1_:aa (Kd.R (Kd.int .i64) 3 w7 w.heap.size (fun _=>True) (.slice (some ⟨_,0,none⟩) 0 n9.toNat) []):=⟨⟨fun _ _=>trivial,[],hown,cH.none _ _⟩⟩;clear HB;have HB:=n0_;have HO:=n1_;clear n0_ n1_ hown hg))
    clear HI
    go_loopg [6,25] k (fun kq v6 v25 w'=> ∃(x6:List Int) (x25:Int),v25= .int .i64 x25∧aa (a7.l0 kq a0 a1 n9 x6 x25=some r)∧aa (kq≤k)∧aa (Kd.R (Kd.int .i64) 3 w' w.heap.size (fun _=>True) v6 x6)∧aa (Below w.heap.size w w'))
    case atStart=>exact⟨[],0,rfl,H',⟨Nat.le_refl _⟩,HO,HB⟩
    case round=>
     clear H' HO HB
     obtain⟨x6,x25,rfl,HA,HK1,HO,HB⟩:=hrel
     cases gk with
     |zero=>exact absurd HA.out (by simp[a7.l0])
     |succ k1=>
      have H:=HA.out
      clear HA
      simp only[a7.l0] at H
      by_cases c1:x25<a0
      ·rw[if_pos c1] at H
       have c1b:decide (x25<a0)=true:=decide_eq_true c1
       have H':=aa.mk H
       clear H c1
       go_wp2
       go_loopg [6,29] k1 (fun kq v6 v29 w'=> ∃(x6:List Int) (x29:Int),v29= .int .i64 x29∧aa (a7.l1 kq a0 a1 n9 x6 x25 x29=some r)∧aa (kq≤k1)∧aa (Kd.R (Kd.int .i64) 3 w' w.heap.size (fun _=>True) v6 x6)∧aa (Below w.heap.size w w'))
       case atStart=>exact⟨x6,0,rfl,H',⟨Nat.le_refl _⟩,HO,HB⟩
       case round=>
        clear H' HO HB c1b
        obtain⟨x6,x29,rfl,HA,HK2,HO,HB⟩:=hrel
        cases gk with
        |zero=>exact absurd HA.out (by simp[a7.l1])
        |succ k2=>
         have H:=HA.out
         clear HA
         simp only[a7.l1] at H
         by_cases c2:x29<a1
         ·rw[if_pos c2] at H
          have c2b:decide (x29<a1)=true:=decide_eq_true c2
          clear c2
          by_cases c3:n9=0
          ·rw[if_pos c3] at H
           cases H
          rw[if_neg c3] at H
          have c3b:(n9==0)=false:=beq_eq_false_iff_ne.mpr c3
          by_cases c4:x6.length<17592186044416
          ·rw[if_pos c4] at H
           have HL:=aa.mk c4
           obtain⟨u9,hu9⟩: ∃z_:Int,wrap64 (a1*x25)=z_:=⟨_,rfl⟩
           have hu9v:IntKind.i64.wrap (a1*x25)=u9:=by simp only[bs];exact hu9
           obtain⟨v9,hv9⟩: ∃z_:Int,wrap64 (a0*x29)=z_:=⟨_,rfl⟩
           have hv9v:IntKind.i64.wrap (a0*x29)=v9:=by simp only[bs];exact hv9
           obtain⟨s9,hs9⟩: ∃z_:Int,wrap64 (u9+v9)=z_:=⟨_,rfl⟩
           have hs9v:IntKind.i64.wrap (u9+v9)=s9:=by simp only[bs];exact hs9
           rw[hu9,hv9,hs9] at H
           have H':=aa.mk H
           clear H c4
           go_wp2_with (first|((with_reducible refine dm (b:= .append) (xs:= #[.tmp 32, .tmp 42]) rfl ?_);at_builtin;refine Kd.gP (Kd.int .i64) (w0:=w) w.heap.size rfl (.tmp 32) (.tmp 42) 98 3 (.int .i64 0) 8 rfl Tryz.underlying98 pF rfl (by decide) (by omega) u6 x6 (Int.tmod s9 n9) [.int .i64 (Int.tmod s9 n9)] (fun _=>True) (fun _=>False) rfl rfl ?aP (fun _ hk=>hk.elim) ?aF ?aO ?aB ?aS ?aL ?_;(case aP=>exact rfl);(case aB=>exact HB.out);(case aF=>exact(fun _ _=>trivial));(case aO=>exact HO.out);(case aS=>exact ah HB.out);(case aL=>have:=HL.out;omega);intro v211 w13 ho hb hg hat;have n0_:=aa.mk (hb);have n1_:=aa.mk (ho);clear HB;clear HO;have HB:=n0_;have HO:=n1_;clear n0_ n1_;clear ho hb hg hat))
           go_roundg k2
           case measure=>have:=HK1.out;have:=HK2.out;omega
           case rel=>exact⟨(x6++[Int.tmod s9 n9]),(wrap64 (x29+1)),(by first|rfl|(simp;done)|(simp[*];done)),H',⟨by have:=HK2.out;omega⟩,HO,HB⟩
          ·rw[if_neg c4] at H
           cases H
         ·rw[if_neg c2] at H
          have c2b:decide (x29<a1)=false:=decide_eq_false c2
          have H':=aa.mk H
          clear H c2
          go_wp2
          go_roundg k2
          case measure=>have:=HK1.out;have:=HK2.out;omega
          case rel=>exact⟨x6,(wrap64 (x25+1)),(by first|rfl|(simp;done)|(simp[*];done)),H',⟨by have:=HK1.out;have:=HK2.out;omega⟩,HO,HB⟩
      ·rw[if_neg c1] at H
       have c1b:decide (x25<a0)=false:=decide_eq_false c1
       obtain rfl:=Option.some.inj H
       clear H c1
       go_wp2
       go_ret
       exact⟨_,rfl,HO.out,HB.out⟩
   ·rw[if_neg c] at h
    cases h
end Go.Proofs.YtndkmnjbjlfeaaaGreat.XC
end
section
namespace Go.Proofs.YtndkmnjbjlfeaaaGreat.XM
open Go.RowKit Go.Proofs.YtndkmnjbjlfeaaaGreat.Given Go.Proofs.YtndkmnjbjlfeaaaGreat.Row05 Go.Proofs.YtndkmnjbjlfeaaaGreat.XS Go.Proofs.YtndkmnjbjlfeaaaGreat.XT Go.Proofs.YtndkmnjbjlfeaaaGreat.XR Go.Proofs.YtndkmnjbjlfeaaaGreat.F06 Go.Proofs.YtndkmnjbjlfeaaaGreat.XK Go.Proofs.YtndkmnjbjlfeaaaGreat.XW Go.Proofs.YtndkmnjbjlfeaaaGreat.XG Go.Proofs.YtndkmnjbjlfeaaaGreatW.PrintWords Go.Proofs.YtndkmnjbjlfeaaaGreatW.PrintLast Go.Proofs.YtndkmnjbjlfeaaaGreatW.PrintMore
attribute [local go_sem] bZ bW cC cB bG bH bX ca
set_option linter.unusedVariables false
set_option linter.unusedSimpArgs false
mutual
noncomputable def aq.j0:Nat→Int→List Int→Bool→Option (List Int×Bool)
 |0,_,_,_=>none
 |k+1,x0,x4,x11=>if x11=true then(some (x4,false)) else(aq.l0 k x0 x4)
noncomputable def aq.l0:Nat→Int→List Int→Option (List Int×Bool)
 |0,_,_=>none
 |k+1,x0,x4=>if x0>1 then(aq.l1 k x0 x4 2) else(some (x4,true))
noncomputable def aq.l1:Nat→Int→List Int→Int→Option (List Int×Bool)
 |0,_,_,_=>none
 |k+1,x0,x4,x5=>if x5<8 then(if x5=0 then(none) else(aq.j3 k x0 x4 x5 ((Int.tmod x0 x5) !=0))) else(aq.j3 k x0 x4 x5 false)
noncomputable def aq.j3:Nat→Int→List Int→Int→Bool→Option (List Int×Bool)
 |0,_,_,_,_=>none
 |k+1,x0,x4,x5,x22=>if x22=true then(aq.l1 k x0 x4 (wrap64 (x5+1))) else(if x5=8 then(some (([]:List Int),false)) else(if x4.length<17592186044416 then(if x5=0 then(none) else(aq.l0 k (wrap64 (Int.tdiv x0 x5)) (x4++[x5]))) else(none)))
end
noncomputable def aq.f(k:Nat)(a0:Int):Option (List Int×Bool):=if a0<1 then(aq.j0 k a0 ([]:List Int) true) else(aq.j0 k a0 ([]:List Int) (decide (a0>1024)))
theorem aq.fx: ∀k,(∀y0 y1 y2,dh (aq.j0 k y0 y1 y2) (aq.j0 (k+1) y0 y1 y2))∧(∀y0 y1,dh (aq.l0 k y0 y1) (aq.l0 (k+1) y0 y1))∧(∀y0 y1 y2,dh (aq.l1 k y0 y1 y2) (aq.l1 (k+1) y0 y1 y2))∧(∀y0 y1 y2 y3,dh (aq.j3 k y0 y1 y2 y3) (aq.j3 (k+1) y0 y1 y2 y3))
 |0=>⟨fun _ _ _ r h=>by simp[aq.j0] at h,fun _ _ r h=>by simp[aq.l0] at h,fun _ _ _ r h=>by simp[aq.l1] at h,fun _ _ _ _ r h=>by simp[aq.j3] at h⟩
 |k+1=>by
  obtain⟨ih0,ih1,ih2,ih3⟩:=aq.fx k
  refine⟨?_,?_,?_,?_⟩
  ·intro y0 y1 y2
   unfold aq.j0
   repeat' first
   |(with_reducible exact ih0 _ _ _)
   |(with_reducible exact ih1 _ _)
   |(with_reducible exact ih2 _ _ _)
   |(with_reducible exact ih3 _ _ _ _)
   |(with_reducible exact dh.refl _)
   |(with_reducible exact dh.none _)
   |(with_reducible refine dh.ite ?_ ?_)
   |(with_reducible refine dh.bind ?_ (fun _=>?_))
   |exact ih0 _ _ _
   |exact ih1 _ _
   |exact ih2 _ _ _
   |exact ih3 _ _ _ _
   |exact dh.none _
   |refine dh.ite ?_ ?_
   |refine dh.bind ?_ (fun _=>?_)
  ·intro y0 y1
   unfold aq.l0
   repeat' first
   |(with_reducible exact ih0 _ _ _)
   |(with_reducible exact ih1 _ _)
   |(with_reducible exact ih2 _ _ _)
   |(with_reducible exact ih3 _ _ _ _)
   |(with_reducible exact dh.refl _)
   |(with_reducible exact dh.none _)
   |(with_reducible refine dh.ite ?_ ?_)
   |(with_reducible refine dh.bind ?_ (fun _=>?_))
   |exact ih0 _ _ _
   |exact ih1 _ _
   |exact ih2 _ _ _
   |exact ih3 _ _ _ _
   |exact dh.none _
   |refine dh.ite ?_ ?_
   |refine dh.bind ?_ (fun _=>?_)
  ·intro y0 y1 y2
   unfold aq.l1
   repeat' first
   |(with_reducible exact ih0 _ _ _)
   |(with_reducible exact ih1 _ _)
   |(with_reducible exact ih2 _ _ _)
   |(with_reducible exact ih3 _ _ _ _)
   |(with_reducible exact dh.refl _)
   |(with_reducible exact dh.none _)
   |(with_reducible refine dh.ite ?_ ?_)
   |(with_reducible refine dh.bind ?_ (fun _=>?_))
   |exact ih0 _ _ _
   |exact ih1 _ _
   |exact ih2 _ _ _
   |exact ih3 _ _ _ _
   |exact dh.none _
   |refine dh.ite ?_ ?_
   |refine dh.bind ?_ (fun _=>?_)
  ·intro y0 y1 y2 y3
   unfold aq.j3
   repeat' first
   |(with_reducible exact ih0 _ _ _)
   |(with_reducible exact ih1 _ _)
   |(with_reducible exact ih2 _ _ _)
   |(with_reducible exact ih3 _ _ _ _)
   |(with_reducible exact dh.refl _)
   |(with_reducible exact dh.none _)
   |(with_reducible refine dh.ite ?_ ?_)
   |(with_reducible refine dh.bind ?_ (fun _=>?_))
   |exact ih0 _ _ _
   |exact ih1 _ _
   |exact ih2 _ _ _
   |exact ih3 _ _ _ _
   |exact dh.none _
   |refine dh.ite ?_ ?_
   |refine dh.bind ?_ (fun _=>?_)
theorem aq.mono: ∀a0 k,dh (aq.f k a0) (aq.f (k+1) a0):=by
 intro a0 k
 obtain⟨ih0,ih1,ih2,ih3⟩:=aq.fx k
 unfold aq.f
 repeat' first
   |(with_reducible exact ih0 _ _ _)
   |(with_reducible exact ih1 _ _)
   |(with_reducible exact ih2 _ _ _)
   |(with_reducible exact ih3 _ _ _ _)
   |(with_reducible exact dh.refl _)
   |(with_reducible exact dh.none _)
   |(with_reducible refine dh.ite ?_ ?_)
   |(with_reducible refine dh.bind ?_ (fun _=>?_))
   |exact ih0 _ _ _
   |exact ih1 _ _
   |exact ih2 _ _ _
   |exact ih3 _ _ _ _
   |exact dh.none _
   |refine dh.ite ?_ ?_
   |refine dh.bind ?_ (fun _=>?_)
end Go.Proofs.YtndkmnjbjlfeaaaGreat.XM
end
section
namespace Go.Proofs.YtndkmnjbjlfeaaaGreat.D14
open Go Go.RowKit Go.Proofs.YtndkmnjbjlfeaaaGreatW.PrintWords Go.Proofs.YtndkmnjbjlfeaaaGreatW.PrintLast Go.Proofs.YtndkmnjbjlfeaaaGreatW.PrintMore Go.Proofs.YtndkmnjbjlfeaaaGreat.Given Go.Proofs.YtndkmnjbjlfeaaaGreat.M Go.Proofs.YtndkmnjbjlfeaaaGreat.Mont Go.Proofs.YtndkmnjbjlfeaaaGreat.XS Go.Proofs.YtndkmnjbjlfeaaaGreat.XT Go.Proofs.YtndkmnjbjlfeaaaGreat.XR Go.Proofs.YtndkmnjbjlfeaaaGreat.Num Go.Proofs.YtndkmnjbjlfeaaaGreat.XK Go.Proofs.YtndkmnjbjlfeaaaGreat.F06 Go.Proofs.YtndkmnjbjlfeaaaGreat.T10 Go.Proofs.YtndkmnjbjlfeaaaGreat.D11 Go.Proofs.YtndkmnjbjlfeaaaGreat.XW Go.Proofs.YtndkmnjbjlfeaaaGreat.XG Go.Proofs.YtndkmnjbjlfeaaaGreat.XM
set_option linter.unusedVariables false
noncomputable def yV(n:Nat):Bool:=match aU.f 60 (n:Int),aq.f 60 (n:Int) with
 |some a,some b=>a.1==b.1&&a.2==b.2&&(!a.2||(bp (a.1.map Int.toNat)==n&&a.1.all (fun r=>decide (2≤r)&&decide (r≤7))&&decide (a.1.length≤10)&&decide (1≤n)))
 |_,_=>false
theorem yG:(List.range 1025).all yV=true:=by kernel_rfl
def iL(rs:List Nat):List Int:=rs.map fun r:Nat=>(r:Int)
theorem lP(rs:List Nat):(iL rs).length=rs.length:=List.length_map _
theorem wX{rs:List Nat}{i:Nat}(h:i<rs.length):rd (iL rs) (i:Int)=(rs[i]:Int):=by
 rw[gB (by rw[lP];exact h)]
 exact List.getElem_map _
structure pI (rs:List Nat) (n:Nat):Prop where
 prod:bp rs=n
 two: ∀r∈rs,2≤r∧r≤7
 ya:rs.length≤10
 pos:1≤n
 top:n≤1024
theorem mN: ∀l:List Int,(∀r∈l,2≤r)→l=iL (l.map Int.toNat)
 |[],_=>rfl
 |x::l,h=>by
  have h1:=h x List.mem_cons_self
  have h2:=mN l fun r hr=>h r (List.mem_cons_of_mem _ hr)
  show x::l=((x.toNat:Nat):Int)::iL (l.map Int.toNat)
  rw[←h2,Int.toNat_of_nonneg (by omega)]
theorem xA{n:Nat}(hn:n≤1024): ∃l b,aU.f 60 (n:Int)=some (l,b)∧aq.f 60 (n:Int)=some (l,b)∧(b=true→ ∃rs,l=iL rs∧pI rs n):=by
 have h:=List.all_eq_true.1 yG n (List.mem_range.2 (by omega))
 unfold yV at h
 split at h
 ·rename_i a b ea eb
  obtain⟨a1,a2⟩:=a
  obtain⟨b1,b2⟩:=b
  simp only[Bool.and_eq_true,beq_iff_eq] at h
  obtain⟨⟨h1,h2⟩,h3⟩:=h
  subst h1
  subst h2
  refine⟨a1,a2,ea,eb,fun hb=>?_⟩
  subst hb
  simp only[Bool.not_true,Bool.false_or,Bool.and_eq_true,beq_iff_eq,decide_eq_true_eq,List.all_eq_true] at h3
  obtain⟨⟨⟨h3,h4⟩,h5⟩,h6⟩:=h3
  refine⟨a1.map Int.toNat,mN a1 fun r hr=>(h4 r hr).1,h3,fun r hr=>?_,by rw[List.length_map];exact h5,h6,hn⟩
  obtain⟨x,hx,rfl⟩:=List.mem_map.1 hr
  have:=h4 x hx
  omega
 ·cases h
theorem Af(n:Int): ∃l b,Ev (fun k=>aU.f k n) (l,b)∧Ev (fun k=>aq.f k n) (l,b)∧(b=true→ ∃rs m,n=((m:Nat):Int)∧l=iL rs∧pI rs m):=by
 have J: ∀l,Ev (fun k=>aq.j0 k n l true) (l,false):=fun l=>bU ⟨_,fun k=>by simp only[aq.j0];rw[if_pos trivial],Ev.now _⟩
 by_cases h1:n<1
 ·exact⟨[],false,Ev.congr (fun k=>rfl) (dJ h1 (Ev.now _)),Ev.congr (fun k=>rfl) (dJ h1 (J _)),fun h=>by cases h⟩
 by_cases h2:n>1024
 ·refine⟨[],false,Ev.congr (fun k=>rfl) (fM h1 (dJ h2 (Ev.now _))),Ev.congr (fun k=>rfl) (fM h1 ?_),fun h=>by cases h⟩
  rw[decide_eq_true h2]
  exact J _
 obtain⟨m,rfl⟩: ∃m:Nat,n=m:=⟨n.toNat,by omega⟩
 obtain⟨l,b,ha,hb,h⟩:=xA (n:=m) (by omega)
 exact⟨l,b,Ev.of (g:=fun k=>aU.f k (m:Int)) (fun k=>aU.mono m k) (k:=60) ha,Ev.of (g:=fun k=>aq.f k (m:Int)) (fun k=>aq.mono m k) (k:=60) hb,fun e=>(h e).imp fun rs hr=>⟨m,rfl,hr⟩⟩
theorem kk: ∀(rs:List Nat),(∀r∈rs,2≤r∧r≤7)→1≤bp rs
 |[],_=>Nat.le_refl _
 |r::rs,h=>by
  have h1:=(h r List.mem_cons_self).1
  have h2:=kk rs fun x hx=>h x (List.mem_cons_of_mem _ hx)
  exact Nat.mul_pos (show 0<r by omega) h2
theorem fY{x:Nat}(h:x≤1000000000000):wrap64 (x:Int)=(x:Int):=dd _ (by omega) (by omega)
theorem xE{rs:List Nat}(hl:rs.length≤10)(h2: ∀r∈rs,2≤r∧r≤7)(rest:List Nat): ∀(i a:Nat),rs.drop i=rest→i≤rs.length→1≤a→a*bp rest≤1024→
  Ev (fun k=>cb.l0 k (a:Int) false (iL rs) ((iL rs).length:Int) (i:Int)) (((a*bp rest:Nat):Int),0):=by
 have ll:=lP rs
 induction rest with
 |nil=>
  intro i a hd hi ha hp
  have hlen:rs.length≤i:=List.drop_eq_nil_iff.1 hd
  rw[show a*bp []=a from Nat.mul_one a]
  exact bU ⟨_,fun k=>by simp only[cb.l0];rw[if_neg (by omega),if_neg Bool.false_ne_true],Ev.now _⟩
 |cons r rest ih=>
  intro i a hd hi ha hp
  have hlt:i<rs.length:=by
   refine Nat.lt_of_not_le fun c=>?_
   rw[List.drop_eq_nil_of_le c] at hd
   cases hd
  rw[List.drop_eq_getElem_cons hlt] at hd
  injection hd with hd1 hd2
  have hr:=h2 r (by rw[←hd1];exact List.getElem_mem hlt)
  have ws:wrap64 ((i:Int)+1)=((i+1:Nat):Int):=by clear ih hp;exact cu (by omega)
  have p1:(i:Int)<((iL rs).length:Int):=by clear ih hp;omega
  have p2:(0:Int)≤(i:Int):=Int.natCast_nonneg _
  have p3: ¬(r:Int)<2:=by clear ih hp;omega
  have p4: ¬(a:Int)=0:=by clear ih hp;omega
  have hi1:i+1≤rs.length:=hlt
  have hr0:0<r:=Nat.lt_of_lt_of_le (by decide) hr.1
  have hpos:=kk rest fun x hx=>h2 x (by rw[←hd2] at hx;exact List.mem_of_mem_drop hx)
  have hrd:=wX hlt
  rw[hd1] at hrd
  have har:a*r*bp rest≤1024:=by rw[Nat.mul_assoc];exact hp
  have har':a*r≤1024:=Nat.le_trans (Nat.le_mul_of_pos_right _ hpos) har
  have ha4:a≤1024:=Nat.le_trans (Nat.le_mul_of_pos_right _ hr0) har'
  have hdiv:r≤4096/a:=(Nat.le_div_iff_mul_le ha).2 (by rw[Nat.mul_comm];exact Nat.le_trans har' (by decide))
  have wd:wrap64 (Int.tdiv (4096:Int) (a:Int))=((4096/a:Nat):Int):=by
   rw[dG (by decide),show(4096:Int)=((4096:Nat):Int) from rfl,←Int.natCast_ediv]
   exact fY (Nat.le_trans (Nat.div_le_self _ _) (by decide))
  have wm:wrap64 ((a:Int)*(r:Int))=((a*r:Nat):Int):=by rw[←Int.natCast_mul];exact fY (Nat.le_trans har' (by decide))
  have p5: ¬(r:Int)>((4096/a:Nat):Int):=by
   intro c
   exact Nat.not_lt.2 hdiv (Int.ofNat_lt.1 c)
  have IH:=ih (i+1) (a*r) hd2 hi1 (Nat.mul_pos ha hr0) har
  rw[show a*bp (r::rest)=a*r*bp rest from(Nat.mul_assoc _ _ _).symm]
  refine bU ⟨_,fun k=>by simp only[cb.l0];rw[if_pos p1,if_pos p2,if_pos p1,hrd,if_neg p3,if_neg Bool.false_ne_true,if_neg p4,wd,decide_eq_false p5],?_⟩
  exact bU ⟨_,fun k=>by simp only[cb.j1];rw[if_neg Bool.false_ne_true,wm,ws],IH⟩
theorem xj{rs:List Nat}{n:Nat}(h:pI rs n):Ev (fun k=>cb.f k (iL rs)) ((n:Int),0):=by
 have ll:=lP rs
 have hf:=h.ya
 have S:=xE h.ya h.two rs 0 1 rfl (Nat.zero_le _) (Nat.le_refl _) (by rw[Nat.one_mul,h.prod];exact h.top)
 rw[Nat.one_mul,h.prod] at S
 exact Ev.congr (fun k=>rfl) (fM (by omega) S)
theorem xR{rs:List Nat}(hl:rs.length≤10)(h2: ∀r∈rs,2≤r∧r≤7)(rest:List Nat): ∀(i x o:Nat),rs.drop i=rest→i≤rs.length→x≤4096→(o+1)*bp rest≤4096→
  Ev (fun k=>dx.l0 k (x:Int) (o:Int) (iL rs) ((iL rs).length:Int) (i:Int)) ((o*bp rest+eS rest x:Nat):Int):=by
 have ll:=lP rs
 induction rest with
 |nil=>
  intro i x o hd hi hx ho
  have hlen:rs.length≤i:=List.drop_eq_nil_iff.1 hd
  rw[show o*bp []+eS [] x=o by show o*1+0=o;omega]
  exact bU ⟨_,fun k=>by simp only[dx.l0];rw[if_neg (by omega)],Ev.now _⟩
 |cons r rest ih=>
  intro i x o hd hi hx ho
  have hlt:i<rs.length:=by
   refine Nat.lt_of_not_le fun c=>?_
   rw[List.drop_eq_nil_of_le c] at hd
   cases hd
  rw[List.drop_eq_getElem_cons hlt] at hd
  injection hd with hd1 hd2
  have hr:=h2 r (by rw[←hd1];exact List.getElem_mem hlt)
  have ws:wrap64 ((i:Int)+1)=((i+1:Nat):Int):=by clear ih ho;exact cu (by omega)
  have p1:(i:Int)<((iL rs).length:Int):=by clear ih ho;omega
  have p2:(0:Int)≤(i:Int):=Int.natCast_nonneg _
  have p4: ¬(r:Int)=0:=by clear ih ho;omega
  have hi1:i+1≤rs.length:=hlt
  have hr0:0<r:=Nat.lt_of_lt_of_le (by decide) hr.1
  have hpos:=kk rest fun x hx=>h2 x (by rw[←hd2] at hx;exact List.mem_of_mem_drop hx)
  have hrd:=wX hlt
  rw[hd1] at hrd
  have hxr:x%r<r:=Nat.mod_lt _ hr0
  have e0:o*r+x%r+1≤(o+1)*r:=by rw[Nat.succ_mul];exact Nat.add_lt_add_left hxr _
  have e1:(o*r+x%r+1)*bp rest≤4096:=by
   refine Nat.le_trans (Nat.mul_le_mul_right _ e0) ?_
   rw[Nat.mul_assoc]
   exact ho
  have e2:o*r+x%r+1≤4096:=Nat.le_trans (Nat.le_mul_of_pos_right _ hpos) e1
  have e3:o*r+x%r≤1000000000000:=Nat.le_trans (Nat.le_succ _) (Nat.le_trans e2 (by decide))
  have e4:o*r≤1000000000000:=Nat.le_trans (Nat.le_add_right _ _) e3
  have w1:wrap64 (Int.tdiv (x:Int) (r:Int))=((x/r:Nat):Int):=by
   rw[dG (Int.natCast_nonneg _),←Int.natCast_ediv]
   exact fY (Nat.le_trans (Nat.div_le_self _ _) (Nat.le_trans hx (by decide)))
  have w2:wrap64 ((o:Int)*(r:Int))=((o*r:Nat):Int):=by rw[←Int.natCast_mul];exact fY e4
  have w3:Int.tmod (x:Int) (r:Int)=((x%r:Nat):Int):=by rw[bQ (Int.natCast_nonneg _),Int.natCast_emod]
  have w4:wrap64 (((o*r:Nat):Int)+((x%r:Nat):Int))=((o*r+x%r:Nat):Int):=by rw[←Int.natCast_add];exact fY e3
  have IH:=ih (i+1) (x/r) (o*r+x%r) hd2 hi1 (Nat.le_trans (Nat.div_le_self _ _) hx) e1
  have ev:o*bp (r::rest)+eS (r::rest) x=(o*r+x%r)*bp rest+eS rest (x/r):=by
   show o*(r*bp rest)+((x%r)*bp rest+eS rest (x/r))=_
   rw[Nat.add_mul,Nat.mul_assoc,Nat.add_assoc]
  rw[ev]
  exact bU ⟨_,fun k=>by simp only[dx.l0];rw[if_pos p1,if_pos p2,if_pos p1,hrd,if_neg p4,w1,w2,w3,w4,ws],IH⟩
theorem xX{rs:List Nat}{n:Nat}(h:pI rs n){i:Nat}(hi:i<n):Ev (fun k=>dx.f k (iL rs) (i:Int)) ((eS rs i:Nat):Int):=by
 have ht:=h.top
 have S:=xR h.ya h.two rs 0 i 0 rfl (Nat.zero_le _) (by omega) (by rw[Nat.zero_add,Nat.one_mul,h.prod];omega)
 rw[Nat.zero_mul,Nat.zero_add] at S
 exact Ev.congr (fun k=>rfl) S
theorem oJ: ∀(rs:List Nat),(∀r∈rs,2≤r∧r≤7)→ ∀i j,i<bp rs→j<bp rs→eS rs i=eS rs j→i=j
 |[],_,i,j,hi,hj,_=>by
  have h1:i<1:=hi
  have h2:j<1:=hj
  omega
 |r::rs,h,i,j,hi,hj,e=>by
  have hr:=(h r List.mem_cons_self).1
  have hi':i/r<bp rs:=Nat.div_lt_of_lt_mul hi
  have hj':j/r<bp rs:=Nat.div_lt_of_lt_mul hj
  have a1:=kJ rs _ hi'
  have a2:=kJ rs _ hj'
  have e':(i%r)*bp rs+eS rs (i/r)=(j%r)*bp rs+eS rs (j/r):=e
  have d1:i%r=j%r:=by
   have h1:((i%r)*bp rs+eS rs (i/r))/bp rs=i%r:=by
    rw[Nat.mul_comm,Nat.mul_add_div (by omega),Nat.div_eq_of_lt a1,Nat.add_zero]
   have h2:((j%r)*bp rs+eS rs (j/r))/bp rs=j%r:=by
    rw[Nat.mul_comm,Nat.mul_add_div (by omega),Nat.div_eq_of_lt a2,Nat.add_zero]
   rw[←h1,←h2,e']
  rw[d1] at e'
  have d2:=oJ rs (fun x hx=>h x (List.mem_cons_of_mem _ hx)) _ _ hi' hj' (by omega)
  rw[←Nat.div_add_mod i r,←Nat.div_add_mod j r,d1,d2]
theorem ny{rs:List Nat}{n:Nat}(h:pI rs n){l:List Int}(hl:l.length=n)(d:Nat): ∀(i:Nat) (y:List Int),i+d=n→y.length=n→(∀x∈y,x∈l∨x=0)→(∀t:Nat,t<i→rd y ((eS rs t:Nat):Int)=rd l (t:Int))→
  ∃z,Ev (fun k=>cP.l0 k (iL rs) y l (l.length:Int) (i:Int)) (z,0)∧z.length=n∧(∀x∈z,x∈l∨x=0)∧ ∀t:Nat,t<n→rd z ((eS rs t:Nat):Int)=rd l (t:Int):=by
 have ht:=h.top
 induction d with
 |zero=>
  intro i y hi hy hm hv
  obtain rfl:i=n:=by omega
  exact⟨y,bU ⟨_,fun k=>by simp only[cP.l0];rw[if_neg (by omega)],Ev.now _⟩,hy,hm,hv⟩
 |succ d ih=>
  intro i y hi hy hm hv
  have hlt:i<n:=by omega
  have ht':eS rs i<n:=by rw[←h.prod];exact kJ rs i (by rw[h.prod];exact hlt)
  have p1:(i:Int)<(l.length:Int):=by omega
  have p2:(0:Int)≤(i:Int):=Int.natCast_nonneg _
  have ws:wrap64 ((i:Int)+1)=((i+1:Nat):Int):=cu (by omega)
  have q0:(0:Int)≤((eS rs i:Nat):Int):=Int.natCast_nonneg _
  have q1:((eS rs i:Nat):Int)<(y.length:Int):=by rw[hy];exact Int.ofNat_lt.2 ht'
  obtain⟨z,E,z1,z2,z3⟩:=ih (i+1) (y.set (eS rs i) (rd l (i:Int))) (by omega) (by rw[List.length_set];exact hy) (fun x hx=>by
   rcases List.mem_or_eq_of_mem_set hx with h'|h'
   ·exact hm x h'
   ·exact .inl (by rw[h'];exact hH (by omega))) (fun t ht=>by
   by_cases c:t=i
   ·subst c
    exact jr _ (by omega)
   ·rw[eW _ fun e=>c (oJ rs h.two i t (by rw[h.prod];exact hlt) (by rw[h.prod];omega) e).symm]
    exact hv t (by omega))
  refine⟨z,bU ⟨_,fun k=>by simp only[cP.l0];rw[if_pos p1,if_pos p2,if_pos p1,ws],?_⟩,z1,z2,z3⟩
  refine Ev.bind (xX h hlt) (dJ q0 (dJ q1 ?_))
  rw[Int.toNat_natCast]
  exact E
theorem vl{rs:List Nat}{n:Nat}(h:pI rs n){l:List Int}(hl:l.length=n): ∃z,Ev (fun k=>cP.f k l (iL rs)) (z,0)∧z.length=n∧(∀x∈z,x∈l∨x=0)∧ ∀t:Nat,t<n→rd z ((eS rs t:Nat):Int)=rd l (t:Int):=by
 have ht:=h.top
 obtain⟨z,E,z1,z2,z3⟩:=ny h hl n 0 (List.replicate n 0) (by omega) List.length_replicate (fun x hx=> .inr (List.eq_of_mem_replicate hx)) (fun t ht=>by omega)
 refine⟨z,Ev.congr (fun k=>rfl) (Ev.bind (xj h) (dJ rfl (dJ (by rw[hl]) (dJ (Int.natCast_nonneg _) (dJ (by show(n:Int).toNat≤_;omega) (Ev.congr (fun k=>?_) E)))))),z1,z2,z3⟩
 simp only[Int.toNat_natCast]
 rfl
end Go.Proofs.YtndkmnjbjlfeaaaGreat.D14
end
section
namespace Go.Proofs.YtndkmnjbjlfeaaaGreat.D14
open Go Go.RowKit Go.Proofs.YtndkmnjbjlfeaaaGreatW.PrintWords Go.Proofs.YtndkmnjbjlfeaaaGreatW.PrintLast Go.Proofs.YtndkmnjbjlfeaaaGreatW.PrintMore Go.Proofs.YtndkmnjbjlfeaaaGreat.Given Go.Proofs.YtndkmnjbjlfeaaaGreat.M Go.Proofs.YtndkmnjbjlfeaaaGreat.Mont Go.Proofs.YtndkmnjbjlfeaaaGreat.XS Go.Proofs.YtndkmnjbjlfeaaaGreat.XT Go.Proofs.YtndkmnjbjlfeaaaGreat.XR Go.Proofs.YtndkmnjbjlfeaaaGreat.Num Go.Proofs.YtndkmnjbjlfeaaaGreat.XK Go.Proofs.YtndkmnjbjlfeaaaGreat.F06 Go.Proofs.YtndkmnjbjlfeaaaGreat.T10 Go.Proofs.YtndkmnjbjlfeaaaGreat.D11 Go.Proofs.YtndkmnjbjlfeaaaGreat.XW Go.Proofs.YtndkmnjbjlfeaaaGreat.XG Go.Proofs.YtndkmnjbjlfeaaaGreat.XM
set_option linter.unusedVariables false
structure eJ (F:ct) (T:List Int) (n r m:Nat) (w:Int):Prop where
 iF:aJ F
 len:T.length=n
 tab: ∀j,j<n→rd T (j:Int)=iM F.p (w^j%F.p)
 round: ∀a,w^a%F.p=w^(a%n)%F.p
 r2:2≤r∧r≤7
 m1:1≤m
 dvd:r*m∣n
 pos:1≤n
 top:n≤1024
section
variable {F:ct} {T:List Int} {n r m:Nat} {w:Int}
theorem eJ.rm(S:eJ F T n r m w):r*m≤n:=Nat.le_of_dvd S.pos S.dvd
theorem eJ.AZ(S:eJ F T n r m w):1≤r*m:=Nat.mul_pos (Nat.lt_of_lt_of_le (by decide) S.r2.1) S.m1
theorem eJ.zU(S:eJ F T n r m w):m≤1024:=Nat.le_trans (Nat.le_mul_of_pos_left _ (Nat.lt_of_lt_of_le (by decide) S.r2.1)) (Nat.le_trans S.rm S.top)
def Wr(n r m:Nat)(w:Int):Int:=w^(n/(r*m))
theorem eJ.lift(S:eJ F T n r m w){a:Nat}(ha:a≤1000000):dz.f [F] T (r:Int) (m:Int) (a:Int)=some (iM F.p (w^(a*(n/(r*m))%n)%F.p)):=by
 have h1:=S.rm
 have h2:=S.AZ
 have h3:=S.top
 have h4:=S.pos
 have h5:=S.len
 have hq:n/(r*m)≤1024:=Nat.le_trans (Nat.div_le_self _ _) h3
 have haq:a*(n/(r*m))≤1000000000000:=Nat.le_trans (Nat.mul_le_mul ha hq) (by decide)
 have w1:wrap64 ((r:Int)*(m:Int))=((r*m:Nat):Int):=by rw[←Int.natCast_mul];exact fY (Nat.le_trans h1 (Nat.le_trans h3 (by decide)))
 have w2:wrap64 (Int.tdiv (T.length:Int) ((r*m:Nat):Int))=((n/(r*m):Nat):Int):=by
  rw[h5,dG (Int.natCast_nonneg _),←Int.natCast_ediv]
  exact fY (Nat.le_trans hq (by decide))
 have w3:wrap64 ((a:Int)*((n/(r*m):Nat):Int))=((a*(n/(r*m)):Nat):Int):=by rw[←Int.natCast_mul];exact fY haq
 have w4:Int.tmod ((a*(n/(r*m)):Nat):Int) (T.length:Int)=((a*(n/(r*m))%n:Nat):Int):=by
  rw[h5,bQ (Int.natCast_nonneg _),Int.natCast_emod]
 have hm:a*(n/(r*m))%n<n:=Nat.mod_lt _ h4
 have q1: ¬((r*m:Nat):Int)=0:=fun e=>by
  have e':r*m=0:=Int.ofNat_inj.1 e
  rw[e'] at h2
  exact absurd h2 (by decide)
 have q2: ¬(T.length:Int)=0:=by omega
 have q3:(0:Int)≤((a*(n/(r*m))%n:Nat):Int):=Int.natCast_nonneg _
 have q4:((a*(n/(r*m))%n:Nat):Int)<(T.length:Int):=by rw[h5];exact Int.ofNat_lt.2 hm
 unfold dz.f
 rw[w1,w2,w3,w4,if_neg q1,if_neg q2,if_pos q3,if_pos q4,S.tab _ hm]
theorem eJ.times(S:eJ F T n r m w){a:Nat}{x:Int}(hx:U x):bd.f [F] (iM F.p (w^(a*(n/(r*m))%n)%F.p)) x=some (Wr n r m w^a*x%F.p):=by
 rw[bd.at_ ⟨show U (iM F.p (w^(a*(n/(r*m))%n)%F.p)) from S.iF.uE _,hx⟩,pk S.iF.m,←S.round,bj]
 unfold Wr
 rw[←Int.pow_mul,Nat.mul_comm a]
def pc(y:List Int)(s m k:Nat)(q:Nat):Int:=rd y ((s+(q*m+k):Nat):Int)
def nO(W p:Int)(y:List Int)(s r m k i:Nat):Int:=cx (fun q=>W^(q*(i*m))*(W^(q*k)*pc y s m k q%p)) r%p
theorem eJ.zY(S:eJ F T n r m w){y:List Int}(hy:y.length=n)(hu: ∀x∈y,U x){s k:Nat}(hs:s+r*m≤n)(hk:k<m){z:List Int}(d:Nat): ∀(q:Nat) (t:List Int),q+d=r→t.length=r→(∀j:Nat,j<q→rd t (j:Int)=Wr n r m w^(j*k)*pc y s m k j%F.p)→
  (∀t:List Int,t.length=r→(∀j:Nat,j<r→rd t (j:Int)=Wr n r m w^(j*k)*pc y s m k j%F.p)→Ev (fun κ=>au.l1 s (r*m) κ y (k:Int) t (r:Int) 0 [F] T (r:Int) (m:Int)) z)→
  Ev (fun κ=>au.l0 s (r*m) κ y (k:Int) t (r:Int) (q:Int) [F] T (r:Int) (m:Int)) z:=by
 have hr7:=S.r2
 have hm:=S.zU
 have htop:=S.top
 induction d with
 |zero=>
  intro q t hq ht hv H
  obtain rfl:q=r:=by omega
  have E:=H t ht hv
  have ht':(t.length:Int)=(q:Int):=by rw[ht]
  exact bU ⟨_,fun k=>by simp only[au.l0];rw[if_neg (by omega),ht'],E⟩
 |succ d ih=>
  intro q t hq ht hv H
  have hqr:q<r:=by clear ih hs;omega
  have ws:wrap64 ((q:Int)+1)=((q+1:Nat):Int):=(by clear ih hs;exact cu (by omega))
  have p0:(q:Int)<(r:Int):=Int.ofNat_lt.2 hqr
  have p2:(0:Int)≤(q:Int):=Int.natCast_nonneg _
  have p3:(q:Int)<(t.length:Int):=by rw[ht];exact Int.ofNat_lt.2 hqr
  have hq7:q≤7:=by clear ih hs;omega
  have hk10:k≤1024:=by clear ih hs;omega
  have hqk:q*k≤7168:=Nat.le_trans (Nat.mul_le_mul hq7 hk10) (by decide)
  have hqk':q*k≤1000000:=Nat.le_trans hqk (by decide)
  have hqm:q*m≤7168:=Nat.le_trans (Nat.mul_le_mul hq7 hm) (by decide)
  have hin:q*m+k<r*m:=by
   have h1:(q+1)*m≤r*m:=Nat.mul_le_mul_right _ hqr
   rw[Nat.succ_mul] at h1
   exact Nat.lt_of_lt_of_le (Nat.add_lt_add_left hk _) h1
  have w1:wrap64 ((q:Int)*(k:Int))=((q*k:Nat):Int):=by rw[←Int.natCast_mul];exact fY (Nat.le_trans hqk (by decide))
  have w2:wrap64 ((q:Int)*(m:Int))=((q*m:Nat):Int):=by rw[←Int.natCast_mul];exact fY (Nat.le_trans hqm (by decide))
  have w3:wrap64 (((q*m:Nat):Int)+(k:Int))=((q*m+k:Nat):Int):=by rw[←Int.natCast_add];exact fY (Nat.le_trans (Nat.le_of_lt hin) (Nat.le_trans S.rm (Nat.le_trans htop (by decide))))
  have q0:(0:Int)≤((q*m+k:Nat):Int):=Int.natCast_nonneg _
  have q1:((q*m+k:Nat):Int)<((r*m:Nat):Int):=Int.ofNat_lt.2 hin
  have er:zy s y ((q*m+k:Nat):Int)=pc y s m k q:=by unfold zy pc;rw[Int.natCast_add s]
  have uc:U (pc y s m k q):=hu _ (hH (by rw[hy];exact Nat.lt_of_lt_of_le (Nat.add_lt_add_left hin s) hs))
  have L:=S.lift hqk'
  have Ti:=S.times (a:=q*k) uc
  refine bU ⟨_,fun k=>by simp only[au.l0];rw[if_pos p0,w1,w2,w3,er,ws,Int.toNat_natCast],?_⟩
  refine jz L (dJ q0 (dJ q1 ?_))
  refine jz Ti (dJ p2 (dJ p3 ?_))
  have hq1:q+1+d=r:=by rw[←hq,Nat.add_assoc,Nat.add_comm 1 d]
  have hqt:q<t.length:=by rw[ht];exact hqr
  refine ih (q+1) (t.set q (Wr n r m w^(q*k)*pc y s m k q%F.p)) hq1 (by rw[List.length_set];exact ht) (fun j hj=>?_) H
  by_cases c:j=q
  ·subst c
   exact jr _ hqt
  ·rw[eW _ (Ne.symm c)]
   exact hv j (Nat.lt_of_le_of_ne (Nat.le_of_lt_succ hj) c)
theorem eJ.zi(S:eJ F T n r m w){s k i:Nat}(hi:i<r){t:List Int}(ht:t.length=r){V:Nat→Int}(hv: ∀j:Nat,j<r→rd t (j:Int)=V j%F.p)(hin:i*m+k<r*m){z:List Int}{Y:List Int}(d:Nat): ∀q:Nat,q+d=r→
  Ev (fun κ=>au.l1 s (r*m) κ (Y.set (s+(i*m+k)) (cx (fun q=>Wr n r m w^(q*(i*m))*(V q%F.p)) r%F.p)) (k:Int) t (r:Int) ((i+1:Nat):Int) [F] T (r:Int) (m:Int)) z→
  Ev (fun κ=>au.l2 s (r*m) κ Y (k:Int) t (i:Int) (cx (fun q=>Wr n r m w^(q*(i*m))*(V q%F.p)) q%F.p) (r:Int) (i:Int) t (r:Int) (q:Int) [F] T (r:Int) (m:Int)) z:=by
 have hr7:=S.r2
 have hm:=S.zU
 have htop:=S.top
 have hi7:i≤7:=by omega
 have him:i*m≤7168:=Nat.le_trans (Nat.mul_le_mul hi7 hm) (by decide)
 induction d with
 |zero=>
  intro q hq E
  obtain rfl:q=r:=by omega
  have ws:wrap64 ((i:Int)+1)=((i+1:Nat):Int):=by clear hin him;exact cu (by omega)
  have w2:wrap64 ((i:Int)*(m:Int))=((i*m:Nat):Int):=by rw[←Int.natCast_mul];exact fY (Nat.le_trans him (by decide))
  have w3:wrap64 (((i*m:Nat):Int)+(k:Int))=((i*m+k:Nat):Int):=by rw[←Int.natCast_add];exact fY (Nat.le_trans (Nat.le_of_lt hin) (Nat.le_trans S.rm (Nat.le_trans htop (by decide))))
  have q0:(0:Int)≤((i*m+k:Nat):Int):=Int.natCast_nonneg _
  have q1:((i*m+k:Nat):Int)<((q*m:Nat):Int):=Int.ofNat_lt.2 hin
  have q2: ¬(q:Int)<(q:Int):=Int.lt_irrefl _
  exact bU ⟨_,fun k=>by simp only[au.l2];rw[if_neg q2,w2,w3,if_pos q0,if_pos q1,ws,Int.toNat_natCast],E⟩
 |succ d ih=>
  intro q hq E
  have hqr:q<r:=by clear ih hin him;omega
  have ws:wrap64 ((q:Int)+1)=((q+1:Nat):Int):=by clear ih hin him;exact cu (by omega)
  have p0:(q:Int)<(r:Int):=Int.ofNat_lt.2 hqr
  have p2:(0:Int)≤(q:Int):=Int.natCast_nonneg _
  have p3:(q:Int)<(t.length:Int):=by rw[ht];exact Int.ofNat_lt.2 hqr
  have hq7:q≤7:=by clear ih hin him;omega
  have hqi:q*i≤49:=Nat.mul_le_mul hq7 hi7
  have hqim:q*i*m≤50176:=Nat.le_trans (Nat.mul_le_mul hqi hm) (by decide)
  have w1:wrap64 ((q:Int)*(i:Int))=((q*i:Nat):Int):=by rw[←Int.natCast_mul];exact fY (Nat.le_trans hqi (by decide))
  have w2:wrap64 (((q*i:Nat):Int)*(m:Int))=((q*i*m:Nat):Int):=by rw[←Int.natCast_mul];exact fY (Nat.le_trans hqim (by decide))
  have L:=S.lift (a:=q*i*m) (Nat.le_trans hqim (by decide))
  have hvq:=hv q hqr
  have ut:U (rd t (q:Int)):=by rw[hvq];exact S.iF.uE _
  have Ti:=S.times (a:=q*i*m) ut
  have A:=cW.at_ (F:=F) (l:=[]) ⟨S.iF.uE (cx (fun q=>Wr n r m w^(q*(i*m))*(V q%F.p)) q),S.iF.uE (Wr n r m w^(q*i*m)*rd t (q:Int))⟩
  have e:(cx (fun q=>Wr n r m w^(q*(i*m))*(V q%F.p)) q%F.p+Wr n r m w^(q*i*m)*rd t (q:Int)%F.p)%F.p=cx (fun q=>Wr n r m w^(q*(i*m))*(V q%F.p)) (q+1)%F.p:=by
   rw[hvq,Nat.mul_assoc]
   exact kV (Int.emod_emod _ _) (Int.emod_emod _ _)
  rw[e] at A
  refine bU ⟨_,fun k=>by simp only[au.l2];rw[if_pos p0,if_pos p2,if_pos p3,w1,w2,ws],?_⟩
  refine jz L ?_
  refine jz Ti ?_
  refine jz A ?_
  exact ih (q+1) (by rw[←hq,Nat.add_assoc,Nat.add_comm 1 d]) E
def kM(y:List Int)(s m k:Nat)(v:Nat→Int):Nat→List Int
 |0=>y
 |i+1=>(kM y s m k v i).set (s+(i*m+k)) (v i)
theorem qk(y:List Int)(s m k:Nat)(v:Nat→Int)(i:Nat):(kM y s m k v i).length=y.length:=by
 induction i with
 |zero=>rfl
 |succ i ih=>show((kM y s m k v i).set _ _).length=_;rw[List.length_set,ih]
theorem vN{y:List Int}{s m k:Nat}{v:Nat→Int}{x:Nat}(i:Nat)(h: ∀j,j<i→s+(j*m+k)≠x):rd (kM y s m k v i) (x:Int)=rd y (x:Int):=by
 induction i with
 |zero=>rfl
 |succ i ih=>
  show rd ((kM y s m k v i).set _ _) _=_
  rw[eW _ (h i (Nat.lt_succ_self i))]
  exact ih fun j hj=>h j (Nat.lt_succ_of_lt hj)
theorem xJ{y:List Int}{s m k:Nat}{v:Nat→Int}(hm:1≤m){j:Nat}(i:Nat)(hj:j<i)(hl:s+(j*m+k)<y.length):rd (kM y s m k v i) ((s+(j*m+k):Nat):Int)=v j:=by
 induction i with
 |zero=>exact absurd hj (Nat.not_lt_zero _)
 |succ i ih=>
  show rd ((kM y s m k v i).set _ _) _=_
  by_cases c:j=i
  ·subst c
   exact jr _ (by rw[qk];exact hl)
  ·have hne:s+(i*m+k)≠s+(j*m+k):=fun e=>by
    have e1:i*m+k=j*m+k:=Nat.add_left_cancel e
    have e2:i*m=j*m:=Nat.add_right_cancel e1
    exact c (Nat.eq_of_mul_eq_mul_right hm e2).symm
   rw[eW _ hne]
   exact ih (Nat.lt_of_le_of_ne (Nat.le_of_lt_succ hj) c)
theorem eJ.z8(S:eJ F T n r m w){y:List Int}{s k:Nat}(hk:k<m){t:List Int}(ht:t.length=r){V:Nat→Int}(hv: ∀j:Nat,j<r→rd t (j:Int)=V j%F.p)(d:Nat): ∀i:Nat,i+d=r→
  Ev (fun κ=>au.l1 s (r*m) κ (kM y s m k (fun i=>cx (fun q=>Wr n r m w^(q*(i*m))*(V q%F.p)) r%F.p) i) (k:Int) t (r:Int) (i:Int) [F] T (r:Int) (m:Int)) (kM y s m k (fun i=>cx (fun q=>Wr n r m w^(q*(i*m))*(V q%F.p)) r%F.p) r):=by
 have hr7:=S.r2
 induction d with
 |zero=>
  intro i hi
  obtain rfl:i=r:=by omega
  exact bU ⟨_,fun k=>by simp only[au.l1];rw[if_neg (Int.lt_irrefl _)],Ev.now _⟩
 |succ d ih=>
  intro i hi
  have hir:i<r:=by omega
  have p0:(i:Int)<(r:Int):=by omega
  have ht':(t.length:Int)=(r:Int):=by rw[ht]
  have hin:i*m+k<r*m:=by
   have h1:(i+1)*m≤r*m:=Nat.mul_le_mul_right _ hir
   rw[Nat.succ_mul] at h1
   exact Nat.lt_of_lt_of_le (Nat.add_lt_add_left hk _) h1
  have E:=S.zi (s:=s) (Y:=kM y s m k (fun i=>cx (fun q=>Wr n r m w^(q*(i*m))*(V q%F.p)) r%F.p) i) hir ht hv hin r 0 (by omega) (ih (i+1) (by omega))
  rw[show cx (fun q=>Wr n r m w^(q*(i*m))*(V q%F.p)) 0=0 from rfl,Int.zero_emod] at E
  refine bU ⟨_,fun k=>by simp only[au.l1];rw[if_pos p0,ht'],?_⟩
  exact E
theorem eJ.Aa(S:eJ F T n r m w){y:List Int}(hy:y.length=n)(hu: ∀x∈y,U x){s k:Nat}(hs:s+r*m≤n)(hk:k<m):
  Ev (fun κ=>au.f s (r*m) κ [F] T (r:Int) (m:Int) y (k:Int)) (kM y s m k (fun i=>nO (Wr n r m w) F.p y s r m k i) r):=by
 have hr7:=S.r2
 have E:=S.zY hy hu hs hk (z:=kM y s m k (fun i=>nO (Wr n r m w) F.p y s r m k i) r) r 0 (List.replicate r 0) (by omega) List.length_replicate (fun j hj=>absurd hj (Nat.not_lt_zero _)) (fun t ht hv=>S.z8 (y:=y) (s:=s) hk ht hv r 0 (by omega))
 have q0:(0:Int)≤(r:Int):=Int.natCast_nonneg _
 have q1:(r:Int).toNat≤35184372088832:=by omega
 refine Ev.congr (fun k=>rfl) (dJ q0 (dJ q1 (Ev.congr (fun k=>?_) E)))
 simp only[Option.bind_some,List.length_replicate,Int.toNat_natCast]
 rfl
end
end Go.Proofs.YtndkmnjbjlfeaaaGreat.D14
end
section
namespace Go.Proofs.YtndkmnjbjlfeaaaGreat.D14
open Go Go.RowKit Go.Proofs.YtndkmnjbjlfeaaaGreatW.PrintWords Go.Proofs.YtndkmnjbjlfeaaaGreatW.PrintLast Go.Proofs.YtndkmnjbjlfeaaaGreatW.PrintMore Go.Proofs.YtndkmnjbjlfeaaaGreat.Given Go.Proofs.YtndkmnjbjlfeaaaGreat.M Go.Proofs.YtndkmnjbjlfeaaaGreat.Mont Go.Proofs.YtndkmnjbjlfeaaaGreat.XS Go.Proofs.YtndkmnjbjlfeaaaGreat.XT Go.Proofs.YtndkmnjbjlfeaaaGreat.XR Go.Proofs.YtndkmnjbjlfeaaaGreat.Num Go.Proofs.YtndkmnjbjlfeaaaGreat.XK Go.Proofs.YtndkmnjbjlfeaaaGreat.F06 Go.Proofs.YtndkmnjbjlfeaaaGreat.T10 Go.Proofs.YtndkmnjbjlfeaaaGreat.D11 Go.Proofs.YtndkmnjbjlfeaaaGreat.XW Go.Proofs.YtndkmnjbjlfeaaaGreat.XG Go.Proofs.YtndkmnjbjlfeaaaGreat.XM
set_option linter.unusedVariables false
def Aj(W:Int)(r m:Nat)(h:Nat→Int)(x:Nat):Int:=cx (fun q=>W^(q*(x% (r*m)))*h (x/(r*m)*(r*m)+(q*m+x% (r*m)%m))) r
theorem o6{r m b i k:Nat}(hi:i<r)(hk:k<m):(b*(r*m)+(i*m+k))% (r*m)=i*m+k∧(b*(r*m)+(i*m+k))/(r*m)=b∧(i*m+k)%m=k∧i*m+k<r*m:=by
 have hin:i*m+k<r*m:=by
  have h1:(i+1)*m≤r*m:=Nat.mul_le_mul_right _ hi
  rw[Nat.succ_mul] at h1
  exact Nat.lt_of_lt_of_le (Nat.add_lt_add_left hk _) h1
 refine⟨?_,?_,?_,hin⟩
 ·rw[Nat.mul_comm b,Nat.mul_add_mod,Nat.mod_eq_of_lt hin]
 ·rw[Nat.mul_comm b,Nat.mul_add_div (Nat.lt_of_le_of_lt (Nat.zero_le _) hin),Nat.div_eq_of_lt hin,Nat.add_zero]
 ·rw[Nat.mul_comm i,Nat.mul_add_mod,Nat.mod_eq_of_lt hk]
theorem zo{r m b i k:Nat}(hk:k<m):(b*(r*m)+(i*m+k))%m=k:=by
 rw[←Nat.mul_assoc,←Nat.add_assoc,←Nat.add_mul,Nat.mul_comm _ m,Nat.mul_add_mod,Nat.mod_eq_of_lt hk]
theorem sw{r m x:Nat}(hm:1≤m)(hr:1≤r):x=x/(r*m)*(r*m)+(x% (r*m)/m*m+x%m)∧x% (r*m)/m<r∧x%m<m:=by
 have h1:x% (r*m)%m=x%m:=by rw[Nat.mul_comm r m,Nat.mod_mul_right_mod]
 refine⟨?_,?_,Nat.mod_lt _ hm⟩
 ·rw[←h1]
  have e1:=Nat.div_add_mod x (r*m)
  have e2:=Nat.div_add_mod (x% (r*m)) m
  rw[Nat.mul_comm (x/(r*m)),Nat.mul_comm (x% (r*m)/m),e2,e1]
 ·exact Nat.div_lt_of_lt_mul (by rw[Nat.mul_comm m r];exact Nat.mod_lt _ (Nat.mul_pos hr hm))
theorem yy{W p:Int}{y:List Int}{r m b i k:Nat}(hi:i<r)(hk:k<m):nO W p y (b*(r*m)) r m k i=Aj W r m (fun x=>rd y (x:Int)) (b*(r*m)+(i*m+k))%p:=by
 obtain⟨e1,e2,e3,_⟩:=o6 (b:=b) hi hk
 unfold nO Aj
 rw[e1,e2]
 refine fB fun q _=>?_
 rw[cj,e3,←Int.mul_assoc,←Int.pow_add,←Nat.mul_add]
 rfl
section
variable {F:ct} {T:List Int} {n r m:Nat} {w:Int} {y0:List Int}
structure mB (F:ct) (n r m:Nat) (w:Int) (y0:List Int) (b k:Nat) (y:List Int):Prop where
 len:y.length=n
 new: ∀x,x<n→(x/(r*m)<b∨(x/(r*m)=b∧x%m<k))→rd y (x:Int)=Aj (Wr n r m w) r m (fun x=>rd y0 (x:Int)) x%F.p
 Ah: ∀x,x<n→ ¬(x/(r*m)<b∨(x/(r*m)=b∧x%m<k))→rd y (x:Int)=rd y0 (x:Int)
theorem mB.u(S:eJ F T n r m w)(hl:y0.length=n)(h0: ∀x∈y0,U x){b k:Nat}{y:List Int}(h:mB F n r m w y0 b k y): ∀x∈y,U x:=fun x hx=>by
 obtain⟨j,hj,rfl⟩:=List.mem_iff_getElem.1 hx
 have hjn:j<n:=by rw[←h.len];exact hj
 rw[←gB hj]
 by_cases c:j/(r*m)<b∨(j/(r*m)=b∧j%m<k)
 ·rw[h.new j hjn c];exact S.iF.uE _
 ·rw[h.Ah j hjn c];exact h0 _ (hH (by rw[hl];exact hjn))
theorem mB.next(S:eJ F T n r m w){b:Nat}{y:List Int}(h:mB F n r m w y0 b m y):mB F n r m w y0 (b+1) 0 y:=by
 have key: ∀x,(x/(r*m)<b+1∨(x/(r*m)=b+1∧x%m<0))↔(x/(r*m)<b∨(x/(r*m)=b∧x%m<m)):=fun x=>by
  have:=Nat.mod_lt x S.m1
  constructor
  ·rintro(h1|⟨_,h2⟩)
   ·rcases Nat.lt_or_eq_of_le (Nat.le_of_lt_succ h1) with h2|h2
    ·exact .inl h2
    ·exact .inr ⟨h2,this⟩
   ·exact absurd h2 (Nat.not_lt_zero _)
  ·rintro(h1|⟨h1,_⟩)
   ·exact .inl (Nat.lt_succ_of_lt h1)
   ·exact .inl (by rw[h1];exact Nat.lt_succ_self _)
 exact⟨h.len,fun x hx c=>h.new x hx ((key x).1 c),fun x hx c=>h.Ah x hx fun c'=>c ((key x).2 c')⟩
theorem mB.BG(S:eJ F T n r m w){b k:Nat}(hk:k<m)(hb:b*(r*m)+r*m≤n){y:List Int}(h:mB F n r m w y0 b k y):mB F n r m w y0 b (k+1) (kM y (b*(r*m)) m k (fun i=>nO (Wr n r m w) F.p y (b*(r*m)) r m k i) r):=by
 have hr1:1≤r:=Nat.le_trans (by decide) S.r2.1
 have Ah: ∀q,q<r→pc y (b*(r*m)) m k q=pc y0 (b*(r*m)) m k q:=fun q hq=>by
  obtain⟨e1,e2,e3,e4⟩:=o6 (b:=b) hq hk
  refine h.Ah _ (Nat.lt_of_lt_of_le (Nat.add_lt_add_left e4 _) hb) ?_
  rw[e2,zo hk]
  rintro(c|⟨_,c⟩)
  ·exact absurd c (Nat.lt_irrefl _)
  ·exact absurd c (Nat.lt_irrefl _)
 have new: ∀i,nO (Wr n r m w) F.p y (b*(r*m)) r m k i=nO (Wr n r m w) F.p y0 (b*(r*m)) r m k i:=fun i=>by
  unfold nO
  exact congrArg (· %F.p) (cw fun q hq=>by rw[Ah q hq])
 have off: ∀x,¬(x/(r*m)=b∧x%m=k)→rd (kM y (b*(r*m)) m k (fun i=>nO (Wr n r m w) F.p y (b*(r*m)) r m k i) r) (x:Int)=rd y (x:Int):=fun x hx=>by
  refine vN r fun j hj e=>hx ?_
  obtain⟨e1,e2,_,_⟩:=o6 (b:=b) hj hk
  rw[←e]
  exact⟨e2,zo hk⟩
 refine⟨by rw[qk];exact h.len,fun x hx c=>?_,fun x hx c=>?_⟩
 ·by_cases hxk:x/(r*m)=b∧x%m=k
  ·obtain⟨f1,f2,f3⟩:=sw (x:=x) S.m1 hr1
   rw[hxk.1,hxk.2] at f1
   have hlt:b*(r*m)+(x% (r*m)/m*m+k)<y.length:=by rw[h.len,←f1];exact hx
   have e:=xJ (y:=y) (v:=fun i=>nO (Wr n r m w) F.p y (b*(r*m)) r m k i) S.m1 r f2 hlt
   rw[←f1] at e
   rw[e,new,yy f2 hk,←f1]
  ·rw[off x hxk]
   refine h.new x hx ?_
   rcases c with c|⟨c1,c2⟩
   ·exact .inl c
   ·exact .inr ⟨c1,Nat.lt_of_le_of_ne (Nat.le_of_lt_succ c2) fun e=>hxk ⟨c1,e⟩⟩
 ·rw[off x fun e=>c (.inr ⟨e.1,by rw[e.2];exact Nat.lt_succ_self _⟩)]
  refine h.Ah x hx fun c'=>c ?_
  rcases c' with c'|⟨c1,c2⟩
  ·exact .inl c'
  ·exact .inr ⟨c1,Nat.lt_succ_of_lt c2⟩
def vr(F:ct)(n r m:Nat)(w:Int)(y0 z:List Int):Prop:=z.length=n∧ ∀x,x<n→rd z (x:Int)=Aj (Wr n r m w) r m (fun x=>rd y0 (x:Int)) x%F.p
theorem eJ.zD(S:eJ F T n r m w)(hl:y0.length=n)(h0: ∀x∈y0,U x){b:Nat}(hb:b*(r*m)+r*m≤n)(H: ∀y,mB F n r m w y0 b m y→ ∃z,Ev (fun κ=>bo.l0 κ [F] T (r:Int) (m:Int) y ((b*(r*m)+r*m:Nat):Int)) z∧vr F n r m w y0 z)(d:Nat): ∀(k:Nat) (y:List Int),k+d=m→mB F n r m w y0 b k y→
  ∃z,Ev (fun κ=>bo.l1 κ [F] T (r:Int) (m:Int) y ((b*(r*m):Nat):Int) (k:Int)) z∧vr F n r m w y0 z:=by
 have htop:=S.top
 have hbn:b*(r*m)+r*m≤1000000000000:=Nat.le_trans hb (Nat.le_trans htop (by decide))
 have w1:wrap64 ((r:Int)*(m:Int))=((r*m:Nat):Int):=by rw[←Int.natCast_mul];exact fY (Nat.le_trans S.rm (Nat.le_trans htop (by decide)))
 have w2:wrap64 (((b*(r*m):Nat):Int)+((r*m:Nat):Int))=((b*(r*m)+r*m:Nat):Int):=by rw[←Int.natCast_add];exact fY hbn
 have hm:=S.zU
 induction d with
 |zero=>
  intro k y hk hI
  obtain rfl:k=m:=by rw[←hk];rfl
  obtain⟨z,E,hz⟩:=H y hI
  exact⟨z,bU ⟨_,fun κ=>by simp only[bo.l1];rw[if_neg (Int.lt_irrefl _),w1,w2],E⟩,hz⟩
 |succ d ih=>
  intro k y hk hI
  have hkm:k<m:=by clear hb hbn;omega
  have p0:(k:Int)<(m:Int):=Int.ofNat_lt.2 hkm
  have ws:wrap64 ((k:Int)+1)=((k+1:Nat):Int):=cu (by clear hb hbn;omega)
  have c3:(0:Int)≤((b*(r*m):Nat):Int)∧((b*(r*m):Nat):Int)<((b*(r*m)+r*m:Nat):Int)∧((b*(r*m)+r*m:Nat):Int)≤(y.length:Int):=⟨Int.natCast_nonneg _,Int.ofNat_lt.2 (Nat.lt_add_of_pos_right S.AZ),by rw[hI.len];exact Int.ofNat_le.2 hb⟩
  obtain⟨z,E,hz⟩:=ih (k+1) _ (by rw[←hk,Nat.add_assoc,Nat.add_comm 1 d]) (hI.BG S hkm hb)
  refine⟨z,bU ⟨_,fun κ=>by simp only[bo.l1];rw[if_pos p0,w1,w2,if_pos c3,ws,Int.toNat_natCast,Int.toNat_natCast,Nat.add_sub_cancel_left],?_⟩,hz⟩
  exact Ev.bind (S.Aa hI.len (hI.u S hl h0) hb hkm) E
theorem eJ.zM(S:eJ F T n r m w)(hl:y0.length=n)(h0: ∀x∈y0,U x){B:Nat}(hB:B*(r*m)=n)(d:Nat): ∀(b:Nat) (y:List Int),b+d=B→mB F n r m w y0 b 0 y→
  ∃z,Ev (fun κ=>bo.l0 κ [F] T (r:Int) (m:Int) y ((b*(r*m):Nat):Int)) z∧vr F n r m w y0 z:=by
 induction d with
 |zero=>
  intro b y hb hI
  obtain rfl:b=B:=by rw[←hb];rfl
  have q: ¬((b*(r*m):Nat):Int)<(y.length:Int):=by rw[hI.len,hB];exact Int.lt_irrefl _
  refine⟨y,bU ⟨_,fun κ=>by simp only[bo.l0];rw[if_neg q],Ev.now _⟩,hI.len,fun x hx=>hI.new x hx (.inl ?_)⟩
  exact Nat.div_lt_of_lt_mul (by rw[Nat.mul_comm,hB];exact hx)
 |succ d ih=>
  intro b y hb hI
  have hbB:b+1≤B:=by rw[←hb];exact Nat.add_le_add_left (Nat.succ_le_succ (Nat.zero_le d)) b
  have hbn:b*(r*m)+r*m≤n:=by
   rw[←Nat.succ_mul,←hB]
   exact Nat.mul_le_mul_right _ hbB
  have q:((b*(r*m):Nat):Int)<(y.length:Int):=by rw[hI.len];exact Int.ofNat_lt.2 (Nat.lt_of_lt_of_le (Nat.lt_add_of_pos_right S.AZ) hbn)
  obtain⟨z,E,hz⟩:=S.zD hl h0 hbn (fun y' hy'=>by
   have:=ih (b+1) y' (by rw[←hb,Nat.add_assoc,Nat.add_comm 1 d]) (hy'.next S)
   rw[Nat.succ_mul] at this
   exact this) m 0 y (Nat.zero_add _) hI
  refine⟨z,bU ⟨_,fun κ=>by simp only[bo.l0];rw[if_pos q],?_⟩,hz⟩
  exact E
theorem eJ.zg(S:eJ F T n r m w)(hl:y0.length=n)(h0: ∀x∈y0,U x): ∃z,Ev (fun κ=>bo.f κ [F] T (r:Int) (m:Int) y0) z∧vr F n r m w y0 z:=by
 obtain⟨B,hB⟩:=S.dvd
 have hI:mB F n r m w y0 0 0 y0:=⟨hl,fun x hx c=>by rcases c with c|⟨_,c⟩<;>exact absurd c (Nat.not_lt_zero _),fun x hx c=>rfl⟩
 obtain⟨z,E,hz⟩:=S.zM hl h0 (B:=B) (by rw[hB,Nat.mul_comm]) B 0 y0 (Nat.zero_add _) hI
 rw[Nat.zero_mul] at E
 exact⟨z,Ev.congr (fun κ=>rfl) E,hz⟩
end
def Mid(F:ct)(n:Nat)(w:Int)(g:Nat→Int)(suf:List Nat)(y:List Int):Prop:=y.length=n∧ ∀x,x<n→rd y (x:Int)=wH suf (w^(n/bp suf)) (fun t=>g (x/bp suf*bp suf+t)) (x%bp suf)%F.p
theorem mid_step{F:ct}{T:List Int}{n r:Nat}{w:Int}{g:Nat→Int}{suf:List Nat}{y z:List Int}(S:eJ F T n r (bp suf) w)(hM:Mid F n w g suf y)(hz:vr F n r (bp suf) w y z):Mid F n w g (r::suf) z:=by
 obtain⟨c,hc⟩:=S.dvd
 have hm1:=S.m1
 have hr1:1≤r:=Nat.le_trans (by decide) S.r2.1
 have hn:n=r*bp suf*c:=hc
 have d1:n/(r*bp suf)=c:=by rw[hn];exact Nat.mul_div_cancel_left _ S.AZ
 have d2:n/bp suf=c*r:=by rw[hn,show r*bp suf*c=bp suf*(c*r) by rw[Nat.mul_comm r,Nat.mul_assoc,Nat.mul_comm r c]];exact Nat.mul_div_cancel_left _ hm1
 refine⟨hz.1,fun x hx=>?_⟩
 rw[hz.2 x hx]
 show Aj (Wr n r (bp suf) w) r (bp suf) (fun x=>rd y (x:Int)) x%F.p=cx (fun q=>(w^(n/(r*bp suf)))^(q*(x% (r*bp suf)))*wH suf ((w^(n/(r*bp suf)))^r) (fun t=>g (x/(r*bp suf)*(r*bp suf)+(q*bp suf+t))) (x% (r*bp suf)%bp suf)) r%F.p
 unfold Aj Wr
 refine fB fun q hq=>eL rfl ?_
 obtain⟨f1,f2,f3⟩:=sw (x:=x) hm1 hr1
 have hj:x% (r*bp suf)%bp suf<bp suf:=Nat.mod_lt _ hm1
 obtain⟨e1,e2,e3,e4⟩:=o6 (b:=x/(r*bp suf)) hq hj
 have hX:x/(r*bp suf)*(r*bp suf)+(q*bp suf+x% (r*bp suf)%bp suf)<n:=by
  have h1:x/(r*bp suf)<c:=Nat.div_lt_of_lt_mul (by rw[←hn];exact hx)
  have h2:(x/(r*bp suf)+1)*(r*bp suf)≤c*(r*bp suf):=Nat.mul_le_mul_right _ h1
  rw[Nat.succ_mul,Nat.mul_comm c,←hn] at h2
  exact Nat.lt_of_lt_of_le (Nat.add_lt_add_left e4 _) h2
 show rd y _%F.p=_
 rw[hM.2 _ hX,Int.emod_emod,zo hj,d2,d1,←Int.pow_mul]
 have ed:(x/(r*bp suf)*(r*bp suf)+(q*bp suf+x% (r*bp suf)%bp suf))/bp suf=x/(r*bp suf)*r+q:=by
  rw[←Nat.mul_assoc,←Nat.add_assoc,←Nat.add_mul,Nat.mul_comm _ (bp suf),Nat.mul_add_div hm1,Nat.div_eq_of_lt hj,Nat.add_zero]
 rw[ed]
 have ef:(fun t=>g ((x/(r*bp suf)*r+q)*bp suf+t))=fun t=>g (x/(r*bp suf)*(r*bp suf)+(q*bp suf+t)):=by
  funext t
  rw[Nat.add_mul,Nat.mul_assoc,Nat.add_assoc]
 rw[ef]
theorem yt{F:ct}(hg:aJ F){rs:List Nat}{n:Nat}(hR:pI rs n){T:List Int}(hT:T.length=n){w:Int}(tab: ∀j,j<n→rd T (j:Int)=iM F.p (w^j%F.p))(round: ∀a,w^a%F.p=w^(a%n)%F.p){g:Nat→Int}{inv:Bool}(d:Nat): ∀(i:Nat) (y:List Int),i=d→i≤rs.length→Mid F n w g (rs.drop i) y→(∀x∈y,U x)→
  ∃z,(∀out,Ev (fun k=>if inv=true then(dr.f k [F] z).bind fun t=>some (t,0) else some (z,0)) out→Ev (fun k=>dH.l0 k [F] inv (iL rs) T y ((bp (rs.drop i):Nat):Int) ((i:Int)-1)) out)∧Mid F n w g rs z∧ ∀x∈z,U x:=by
 have ll:=lP rs
 have hlo:=hg.lo
 induction d with
 |zero=>
  intro i y hi hl hM hu
  subst hi
  refine⟨y,fun out E=>?_,hM,hu⟩
  exact bU ⟨_,fun k=>by simp only[dH.l0];rw[if_neg (show¬((0:Nat):Int)-1≥0 by omega)],E⟩
 |succ d ih=>
  intro i y hi hl hM hu
  subst hi
  have hlt:d<rs.length:=hl
  have hd:rs.drop d=rs[d]::rs.drop (d+1):=List.drop_eq_getElem_cons hlt
  have hmem:rs[d]∈rs:=List.getElem_mem hlt
  have hr:=hR.two _ hmem
  have hpos:=kk (rs.drop (d+1)) fun x hx=>hR.two x (List.mem_of_mem_drop hx)
  have hdv: ∀k,k≤rs.length→bp (rs.drop k)∣n:=fun k=>by
   induction k with
   |zero=>intro _;rw[List.drop_zero,hR.prod];exact Nat.dvd_refl _
   |succ k ihk=>
    intro hk
    have h1:=ihk (Nat.le_of_succ_le hk)
    rw[List.drop_eq_getElem_cons hk] at h1
    exact Nat.dvd_trans (Nat.dvd_mul_left _ _) h1
  have hdv':rs[d]*bp (rs.drop (d+1))∣n:=by
   have h1:=hdv d (Nat.le_of_lt hlt)
   rw[hd] at h1
   exact h1
  have S:eJ F T n rs[d] (bp (rs.drop (d+1))) w:=⟨hg,hT,tab,round,hr,hpos,hdv',hR.pos,hR.top⟩
  obtain⟨z1,E1,hz1⟩:=S.zg hM.1 hu
  have hM1:Mid F n w g (rs.drop d) z1:=by rw[hd];exact mid_step S hM hz1
  have hu1: ∀x∈z1,U x:=fun x hx=>by
   obtain⟨j,hj,rfl⟩:=List.mem_iff_getElem.1 hx
   rw[←gB hj,hz1.2 j (by rw[←hz1.1];exact hj)]
   exact hg.uE _
  obtain⟨z,E,hz,huz⟩:=ih d z1 rfl (Nat.le_of_lt hlt) hM1 hu1
  refine⟨z,fun out hout=>?_,hz,huz⟩
  have hrd:=wX hlt
  have p1:((d+1:Nat):Int)-1=(d:Int):=by omega
  have p2:(d:Int)≥0:=by omega
  have p3:(d:Int)<((iL rs).length:Int):=by rw[ll];exact Int.ofNat_lt.2 hlt
  have w1:wrap64 (((bp (rs.drop (d+1)):Nat):Int)*((rs[d]:Nat):Int))=((bp (rs.drop d):Nat):Int):=by
   rw[←Int.natCast_mul,hd]
   show wrap64 ((bp (rs.drop (d+1))*rs[d]:Nat):Int)=((rs[d]*bp (rs.drop (d+1)):Nat):Int)
   rw[Nat.mul_comm]
   exact fY (Nat.le_trans (Nat.le_of_dvd hR.pos hdv') (Nat.le_trans hR.top (by decide)))
  have hfew:=hR.ya
  have w2:wrap64 ((d:Int)-1)=(d:Int)-1:=dd _ (by omega) (by omega)
  refine bU ⟨_,fun k=>by simp only[dH.l0];rw[p1,if_pos p2,if_pos p2,if_pos p3,hrd,w1,w2],?_⟩
  exact Ev.bind E1 (E out hout)
theorem xT{F:ct}(hg:aJ F){l:List Int}(h:gT F l){rs:List Nat}(hR:pI rs l.length)(hrad:Ev (fun k=>aU.f k (l.length:Int)) (iL rs,true))(inv:Bool):Ev (fun k=>dH.f k [F] l inv) (gO F l inv,0):=by
 have h1:=h.pos
 have h2:=h.top
 have C:=iw (F:=F) (most:=1024) (k9 (l:=l) (by omega))
 rw[q9 (by omega) (by omega) h.div] at C
 have G:=mG (F:=F) (l:=l) (by omega)
 rw[h.all] at G
 have R:=roots hg h1 h.div inv
 have Lf:=oC hg (n:=(l.length:Int)) (by omega) (by omega) h.div inv
 rw[Int.toNat_natCast] at Lf
 have lt:((iT F.p (bV F l.length inv) l.length).map (iM F.p)).length=l.length:=by rw[List.length_map,gR]
 have tab: ∀j,j<l.length→rd ((iT F.p (bV F l.length inv) l.length).map (iM F.p)) (j:Int)=iM F.p (bV F l.length inv^j%F.p):=fun j hj=>by
  rw[gB (by omega),List.getElem_map]
  congr 1
  have:=oO (p:=F.p) (w:=bV F l.length inv) hj
  rw[gB (by rw[gR];omega)] at this
  exact this
 obtain⟨y,O,y1,y2,y3⟩:=vl hR rfl
 have hlo:=hg.lo
 have resy: ∀x∈y,0≤x∧x<F.p:=fun x hx=>by
  rcases y2 x hx with h'|h'
  ·exact h.res x h'
  ·rw[h'];omega
 have uy: ∀x∈y,U x:=fun x hx=>by
  have:=resy x hx
  have:=hg.hi
  unfold U;omega
 have M0:Mid F l.length (bV F l.length inv) (fun t=>rd y (t:Int)) (rs.drop rs.length) y:=by
  rw[List.drop_eq_nil_of_le (Nat.le_refl _)]
  refine⟨y1,fun x hx=>?_⟩
  show rd y (x:Int)=rd y ((x/1*1+0:Nat):Int)%F.p
  rw[Nat.div_one,Nat.mul_one,Nat.add_zero]
  have:=resy _ (hH (l:=y) (i:=x) (by rw[y1];exact hx))
  exact(Int.emod_eq_of_lt this.1 this.2).symm
 obtain⟨z,E,hz,uz⟩:=yt hg hR lt tab R.zG (inv:=inv) rs.length rs.length y rfl (Nat.le_refl _) M0 uy
 have zl:z.length=l.length:=hz.1
 have zv: ∀x,x<l.length→rd z (x:Int)=cQ (bV F l.length inv) (fun t=>rd l (t:Int)) l.length x%F.p:=fun x hx=>by
  have hw1:bV F l.length inv^bp rs%F.p=1:=by rw[hR.prod];exact(R.w_ord _).2 (Nat.dvd_refl _)
  have:=yu hg.one (rs:=rs) (f:=fun t=>rd l (t:Int)) (g:=fun t=>rd y (t:Int)) hw1 (fun t ht=>y3 t (by rw[←hR.prod];exact ht)) x
  rw[hR.prod] at this
  rw[hz.2 x hx,hR.prod,Nat.div_self h1,Nat.div_eq_of_lt hx,Nat.mod_eq_of_lt hx,Int.pow_succ,Int.pow_zero,Int.one_mul,←this]
  congr 2
  funext t
  rw[Nat.zero_mul,Nat.zero_add]
 have E':=E (gO F l inv,0) (by
  cases inv with
  |false=>
   refine fM Bool.false_ne_true (uF (Ev.now _) ?_)
   congr 1
   refine jZ (by rw[zl,fF]) fun i hi=>?_
   have hi':i<l.length:=by rw[fF] at hi;exact hi
   rw[lq hi',zv i hi',show cO F l.length false=1 from rfl,Int.one_mul]
  |true=>
   refine dJ rfl (Ev.bind (qw hg (by omega) uz) (uF (Ev.now _) ?_))
   congr 1
   refine jZ (by rw[List.length_map,zl,fF]) fun i hi=>?_
   have hi':i<l.length:=by rw[fF] at hi;exact hi
   rw[lq hi',gB (by rw[List.length_map,zl];exact hi'),List.getElem_map,←gB (by rw[zl];exact hi'),zv i hi',zl]
   show fi F.p l.length*(cQ (bV F l.length true) (fun t=>rd l (t:Int)) l.length i%F.p)%F.p=fi F.p l.length*cQ (bV F l.length true) (fun t=>rd l (t:Int)) l.length i%F.p
   rw[cj])
 have hfew:=hR.ya
 have w1:wrap64 (((iL rs).length:Int)-1)=((rs.length:Nat):Int)-1:=by rw[lP];exact dd _ (by omega) (by omega)
 rw[List.drop_eq_nil_of_le (Nat.le_refl _)] at E'
 rw[←w1] at E'
 exact Ev.congr (fun k=>rfl) (jz C (dJ rfl (Ev.bind hrad (dJ rfl (Ev.bind G (dJ rfl (Ev.bind Lf (Ev.bind O E'))))))))
theorem uu{F:ct}{l:List Int}(hn:l.length≤1000000)(inv:Bool)(h:gV F.p l.length 1024=0){L:List Int}(hR:Ev (fun k=>aU.f k (l.length:Int)) (L,false)):Ev (fun k=>dH.f k [F] l inv) ([],11):=by
 have C:=iw (F:=F) (most:=1024) (k9 hn)
 rw[h] at C
 exact Ev.congr (fun k=>rfl) (jz C (dJ rfl (Ev.bind hR (fM Bool.false_ne_true (Ev.now _)))))
end Go.Proofs.YtndkmnjbjlfeaaaGreat.D14
end
section
namespace Go.Proofs.YtndkmnjbjlfeaaaGreat.F06.XC
open Go Go.RowKit Go.Proofs.YtndkmnjbjlfeaaaGreat.XS Go.Proofs.YtndkmnjbjlfeaaaGreat.XT Go.Proofs.YtndkmnjbjlfeaaaGreat.XR Go.Proofs.YtndkmnjbjlfeaaaGreatW.PrintWords Go.Proofs.YtndkmnjbjlfeaaaGreatW.PrintLast Go.Proofs.YtndkmnjbjlfeaaaGreatW.PrintMore Go.Proofs.YtndkmnjbjlfeaaaGreat.Given Go.Proofs.YtndkmnjbjlfeaaaGreat.Given04 Go.Proofs.YtndkmnjbjlfeaaaGreat.M Go.Proofs.YtndkmnjbjlfeaaaGreat.Mont Go.Proofs.YtndkmnjbjlfeaaaGreat.XC
theorem xI{x3:List dN}{L:List dD}{len i P G:Int}{F:List eX}{R:List dN}(hF:F.length<8796093022208)(h3:x3.length<3518437208883)
  (E:Ev (fun k=>aQ.l0 k (x3++[⟨P,G,F.map cF⟩]) L len (wrap64 (i+1))) R) (l:List eX):
  ∀j:Nat,F.drop j=l→j≤F.length→Ev (fun k=>aQ.l1 k x3 ((F.take j).map cF) L len i F (F.length:Int) j P G F) R:=by
 induction l with
 |nil=>
  intro j hd hj
  have:F.length≤j:=by have:=congrArg List.length hd;simp at this;omega
  have q: ¬(j:Int)<(F.length:Int):=by omega
  rw[List.take_of_length_le this]
  refine Ev.step (fun k=>?_) E
  simp only[aQ.l1]
  rw[if_neg q,if_pos h3]
 |cons x l ih=>
  intro j hd hj
  obtain⟨hx,hlt,hd'⟩:=kj hd
  have q:(j:Int)<(F.length:Int):=by omega
  have q0:0≤(j:Int):=by omega
  have w:wrap64 ((j:Int)+1)=((j+1:Nat):Int):=by rw[dd _ (by omega) (by omega)];omega
  have ql:((F.take j).map cF).length<8796093022208:=by simp;omega
  have IH:=ih (j+1) hd' (by omega)
  have e:(F.take (j+1)).map cF=(F.take j).map cF++[⟨x.f0,x.f1⟩]:=by
   have hg:F[j]=x:=by
    rw[List.drop_eq_getElem_cons hlt] at hd
    injection hd
   rw[List.take_succ_eq_append_getElem hlt,hg,List.map_append]
   rfl
  rw[e] at IH
  refine Ev.step (fun k=>?_) IH
  simp only[aQ.l1]
  rw[if_pos q,if_pos q0,if_pos q,if_pos ql,hx,w]
theorem xr{L:List dD}(hL:u0 L)(l:List dD): ∀i:Nat,L.drop i=l→i≤L.length→Ev (fun k=>aQ.l0 k ((L.take i).map cE) L (L.length:Int) i) (L.map cE):=by
 have h1:=hL.1
 induction l with
 |nil=>
  intro i hd hi
  have:L.length≤i:=by have:=congrArg List.length hd;simp at this;omega
  have q: ¬(i:Int)<(L.length:Int):=by omega
  rw[List.take_of_length_le this]
  refine Ev.step (fun k=>?_) (Ev.now _)
  simp only[aQ.l0]
  rw[if_neg q]
 |cons x l ih=>
  intro i hd hi
  obtain⟨hx,hlt,hd'⟩:=j9 hd
  have hxm:x∈L:=List.mem_of_mem_drop (show x∈L.drop i by rw[hd];exact List.mem_cons_self)
  have q:(i:Int)<(L.length:Int):=by omega
  have q0:0≤(i:Int):=by omega
  have w:wrap64 ((i:Int)+1)=((i+1:Nat):Int):=by rw[dd _ (by omega) (by omega)];omega
  have ql:((L.take i).map cE).length<3518437208883:=by simp;omega
  have IH:=ih (i+1) hd' (by omega)
  have e:(L.take (i+1)).map cE=(L.take i).map cE++[⟨x.f0,x.f1,x.f2.map cF⟩]:=by
   have hg:L[i]=x:=by
    rw[List.drop_eq_getElem_cons hlt] at hd
    injection hd
   rw[List.take_succ_eq_append_getElem hlt,hg,List.map_append]
   rfl
  rw[e,←w] at IH
  have L1:=xI (L:=L) (len:=(L.length:Int)) (i:=(i:Int)) (hL.2 x hxm) ql IH x.f2 0 rfl (Nat.zero_le _)
  refine Ev.step (fun k=>?_) L1
  simp only[aQ.l0]
  rw[if_pos q,if_pos q0,if_pos q,hx]
  rfl
theorem yw{L:List dD}(hL:u0 L):Ev (fun k=>aQ.f k L) (L.map cE):=by
 refine Ev.congr (fun k=>?_) (xr hL L 0 rfl (Nat.zero_le _))
 unfold aQ.f
 rfl
end Go.Proofs.YtndkmnjbjlfeaaaGreat.F06.XC
end
section
namespace Go.Proofs.YtndkmnjbjlfeaaaGreat.F06.XC
open Go Go.RowKit Go.Proofs.YtndkmnjbjlfeaaaGreatW.PrintWords Go.Proofs.YtndkmnjbjlfeaaaGreatW.PrintLast Go.Proofs.YtndkmnjbjlfeaaaGreatW.PrintMore Go.Proofs.YtndkmnjbjlfeaaaGreat.Given Go.Proofs.YtndkmnjbjlfeaaaGreat.M Go.Proofs.YtndkmnjbjlfeaaaGreat.Mont Go.Proofs.YtndkmnjbjlfeaaaGreat.XS Go.Proofs.YtndkmnjbjlfeaaaGreat.XT Go.Proofs.YtndkmnjbjlfeaaaGreat.XR Go.Proofs.YtndkmnjbjlfeaaaGreat.Num Go.Proofs.YtndkmnjbjlfeaaaGreat.XK Go.Proofs.YtndkmnjbjlfeaaaGreat.XC
theorem xt{L:List RE}(hL:iP L)(kind K p:Int):Ev (fun k=>br.f k kind K p L) ([],0,0)∨ ∃F,Ev (fun k=>br.f k kind K p L) ([F],F.p,F.g)∧aJ F:=by
 by_cases h0:kind=0
 ·subst h0
  by_cases hp:lg p
  ·obtain⟨F,E,G,e,hg⟩:=tm hp
   refine .inr ⟨F,?_,hg⟩
   rw[e]
   exact Ev.congr (fun k=>rfl) (Ev.bind ((qN (L:=L) (K:=K)).1 hp _ G) (dJ rfl (Ev.bind E (Ev.now _))))
  ·exact .inl (Ev.congr (fun k=>rfl) (Ev.bind ((qN (L:=L) (K:=K)).2 hp) (dJ rfl (Ev.bind (ti hp) (Ev.now _)))))
 by_cases h1:kind=1
 ·subst h1
  by_cases hK:0≤K∧K≤5
  ·obtain⟨F,E,e,hg⟩:=wi hK.1 hK.2
   refine .inr ⟨F,?_,hg⟩
   have O:=(pZ (L:=L) (p:=p)).1 hK
   rw[e] at O
   exact Ev.congr (fun k=>rfl) (Ev.bind O (fM h0 (dJ rfl (Ev.bind E (Ev.now _)))))
  ·exact .inl (Ev.congr (fun k=>rfl) (Ev.bind ((pZ (L:=L) (p:=p)).2 hK) (fM h0 (dJ rfl (Ev.bind (tN hK) (Ev.now _))))))
 have O:=we hL (K:=K) (p:=p) h0 h1
 have R:=yw hL.1
 have E:=ry (R:=L.map cE) (by rw[sG];exact hL.2) p
 rcases zj hL p with⟨e,_,hn,e',_,ho,_⟩|⟨F,hn,ho,hg,hl⟩
 ·rw[hn] at E
  rw[ho] at O
  refine .inl (Ev.congr (fun k=>rfl) (Ev.bind O (fM h0 (fM h1 ?_))))
  by_cases hl:(L.length:Int)≤40
  ·exact dJ hl (Ev.bind R (Ev.bind E (Ev.now _)))
  ·exact fM hl (Ev.now _)
 ·rw[hn] at E
  rw[ho] at O
  exact .inr ⟨F,Ev.congr (fun k=>rfl) (Ev.bind O (fM h0 (fM h1 (dJ hl (Ev.bind R (Ev.bind E (Ev.now _))))))),hg⟩
end Go.Proofs.YtndkmnjbjlfeaaaGreat.F06.XC
end
