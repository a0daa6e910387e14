/- Parts of this claim's texts, packed by wip/tools/prune.py: what the proof does not reach is left out. -/
import Derived.Test.YtndkmnjbjlfeaaaGreatPCt7
import Derived.Lib.LazyBuf
section
namespace Go.Proofs.YtndkmnjbjlfeaaaGreat.Given04
open Go Go.RowKit Go.Proofs.YtndkmnjbjlfeaaaGreatW.PrintWords Go.Proofs.YtndkmnjbjlfeaaaGreatW.PrintLast Go.Proofs.YtndkmnjbjlfeaaaGreatW.PrintMore Go.Proofs.YtndkmnjbjlfeaaaGreat.Given Go.Proofs.YtndkmnjbjlfeaaaGreat.M Go.Proofs.YtndkmnjbjlfeaaaGreat.Mont Go.Proofs.YtndkmnjbjlfeaaaGreat.XS Go.Proofs.YtndkmnjbjlfeaaaGreat.XT
def fS.f(l:List bO):Option (List bO):=if l.length≤1000000 then some l else none
theorem fS.calls(A0:Option Addr)(c0:Nat)(l:List bO)(r:List bO)(w:World)(hr0:Kd.C ei w A0 l.length l)(_hc0:l.length≤c0)(h:fS.f l=some r):
  Calls Tryz.prog 124 #[.slice A0 l.length c0] w fun e w'=> ∃v0_:Value,e= .returned v0_∧Kd.R ei 147 w' w.heap.size (fun _=>True) v0_ r∧Below w.heap.size w w':=by
 unfold fS.f at h
 split at h
 case isFalse=>cases h
 rename_i hl
 obtain rfl:=Option.some.inj h
 clear h
 have HR0:=aa.mk hr0
 have HL:=aa.mk hl
 cases A0 with
 |none=>
  have hz:l=[]:=by
   obtain⟨_,_,hh⟩:=hr0
   cases l with
   |nil=>rfl
   |cons x t=>obtain⟨ad,e,_⟩:=hh (by simp);cases e
  subst hz
  have hq: ∀(w:World) (n c:Nat) (a:Option Addr),(binOp .eql 92 (.slice a n c) (.slice none 0 0)).run Tryz.prog w= .ok (.bool a.isNone) w:=fun w n c a=>run_eql_slice_nil w 92 147 a n c Tryz.underlying92
  clear hr0 hl
  go_enter Tryz.func124,Tryz.ntmps124
  go_wp2
  go_ret
  exact⟨_,rfl,Kd.fW _ _ _ _ _,Below.refl _ _⟩
 |some ad=>
  have HK: ∀x cs,ei.K (w.alloc (.cells #[] 147)) x cs→ei.M (w.alloc (.cells #[] 147)) w.heap.size (fun _=>False) x cs:=fun x cs h=>by obtain rfl:=lv h;exact kU _ _ _ x
  have HL2:(([]:List bO).length+l.length)*16≤140737488355328:=by simp;omega
  have hq: ∀(w:World) (n c:Nat) (a:Option Addr),(binOp .eql 92 (.slice a n c) (.slice none 0 0)).run Tryz.prog w= .ok (.bool a.isNone) w:=fun w n c a=>run_eql_slice_nil w 92 147 a n c Tryz.underlying92
  clear hr0 hl
  go_enter Tryz.func124,Tryz.ntmps124
  go_wp2_with ((with_reducible refine eO (b:= .append) (xs:= #[.tmp 5, .tmp 6]) rfl ?_);at_builtin;(refine Kd.nN ei (Rr:=ei.K (w.alloc (.cells #[] 147))) (w0:=w) w.heap.size ?b1 (.tmp 5) (.tmp 6) 92 147 (.agg #[(.int .u64 0),(.int .i64 0)]) 16 ?b2 ?b3 ?b4 ?b5 ?b6 ?b7 (.slice (some ⟨w.heap.size,0,none⟩) 0 0) [] l (some ad) l.length c0 (fun _=>True) (fun _=>False) ?b8 ?b9 ?aO ?aR ?aK (fun _ h=>h.elim) ?aF ?aB ?aS ?aL ?_);(case b1=>rfl);(case b2=>rfl);(case b3=>exact Tryz.underlying92);(case b4=>exact jO);(case b5=>rfl);(case b6=>exact(by decide));(case b7=>exact(by decide));(case b8=>rfl);(case b9=>rfl);(case aO=>exact⟨fun _ _=>trivial,dN.lit w w.heap.size (cI.none _ _) (Nat.le_refl _) (by simp)⟩);(case aR=>exact Kd.dB HR0.out _);(case aK=>exact HK);(case aF=>exact fun _ _=>trivial);(case aB=>exact aQ (Below.refl _ _) _);(case aS=>exact ai (aQ (Below.refl _ _) _));(case aL=>exact HL2);intro v1 w2 ho hb hg hat;have HO:=aa.mk ho;have HB:=aa.mk hb;clear ho hb hg hat)
  go_ret
  exact⟨_,rfl,HO.out,HB.out⟩
end Go.Proofs.YtndkmnjbjlfeaaaGreat.Given04
end
section
namespace Go.Proofs.YtndkmnjbjlfeaaaGreat.F06
open Go Go.RowKit Go.Proofs.YtndkmnjbjlfeaaaGreatW.PrintWords Go.Proofs.YtndkmnjbjlfeaaaGreatW.PrintLast Go.Proofs.YtndkmnjbjlfeaaaGreatW.PrintMore Go.Proofs.YtndkmnjbjlfeaaaGreat.Given Go.Proofs.YtndkmnjbjlfeaaaGreat.M Go.Proofs.YtndkmnjbjlfeaaaGreat.Mont Go.Proofs.YtndkmnjbjlfeaaaGreat.XS Go.Proofs.YtndkmnjbjlfeaaaGreat.XT Go.Proofs.YtndkmnjbjlfeaaaGreat.Given04
instance (x:Int):Decidable (U x):=by unfold U;infer_instance
def fI(w:World)(a:Addr)(F:cn):Prop:= ∃(cv:Value) (A3:Option Addr) (c3:Nat),w.cell? a=some cv∧w.cell? ⟨a.block,a.off+1,none⟩=some (.int .u64 F.p)∧w.cell? ⟨a.block,a.off+2,none⟩=some (.int .u64 F.g)∧w.cell? ⟨a.block,a.off+3,none⟩=some (.slice A3 F.l.length c3)∧eN w cv F.p∧U F.g∧F.l.length≤c3∧Kd.C ei w A3 F.l.length F.l
theorem vG{w:World}{A:Option Addr}{c:Nat}{F:cn}{l:List cn}(h:Kd.C fB w A (F::l).length (F::l)): ∃a,bh (.slice A (F::l).length c)= .pointer (some a)∧fI w a F:=by
 obtain⟨a,cv,A3,c3,h0,h1,h2,h3,h4,r⟩:=uT (c:=c) h
 exact⟨a,h0,cv,A3,c3,h1,h2,h3,h4,r⟩
theorem fI.ij{w:World}{a:Addr}{F:cn}(h:fI w a F):cy F.p:=by
 obtain⟨_,_,_,_,_,_,_,⟨_,_,_,_,hm,_⟩,_⟩:=h
 exact hm
theorem fI.drewN{w:World}{a:Addr}{F:cn}(h:fI w a F)(n:Nat):fI (w.drewN n) a F:=h
theorem gY{P:Program}{f:Nat}{mk:Value→Array Value}{A:Option Addr}{c:Nat}{l:List cn}{w:World}{Q:Ending→World→Prop}
  (hr:Kd.C fB w A l.length l) (h0:l=[]→Calls P f (mk (.pointer none)) w Q) (h1: ∀F t a,l=F::t→fI w a F→Calls P f (mk (.pointer (some a))) w Q):
  Calls P f (mk (bh (.slice A l.length c))) w Q:=by
 cases l with
 |nil=>rw[show bh (.slice A ([]:List cn).length c)= .pointer none from jh _ _ rfl];exact h0 rfl
 |cons F t=>
  obtain⟨a,e,h⟩:=vG (c:=c) hr
  rw[e]
  exact h1 F t a rfl h
def fP:List cn→Int
 |[]=>0
 |F::_=>F.p
theorem wv{w:World}{a:Addr}{F:cn}(h:fI w a F):
  Calls Tryz.prog 42 #[.pointer (some a)] w fun e w'=>e= .returned (.int .u64 F.p)∧au w w':=by
 obtain⟨cv,A3,c3,k0,k1,k2,k3,hx,hg,hl,hr⟩:=h
 clear hx hg hl hr
 go_enter Tryz.func42,Tryz.ntmps42
 go_wp2
 go_ret
 exact⟨by first|rfl|(simp;done),by repeat(first|exact au.refl _|apply au.step)⟩
theorem Aa{w:World}:
  Calls Tryz.prog 42 #[.pointer none] w fun e w'=>e= .returned (.int .u64 0)∧au w w':=by
 go_enter Tryz.func42,Tryz.ntmps42
 go_wp2
 go_ret
 exact⟨by first|rfl|(simp;done),by repeat(first|exact au.refl _|apply au.step)⟩
def dt.f(l:List cn)(x:Int):Option Bool:=some (match l with
 |[]=>false
 |F::_=>decide (x<F.p))
theorem tm{w:World}{a:Addr}{F:cn}{x:Int}(h:fI w a F):
  Calls Tryz.prog 59 #[.pointer (some a), .int .u64 x] w fun e w'=>e= .returned (.bool (decide (x<F.p)))∧au w w':=by
 obtain⟨cv,A3,c3,k0,k1,k2,k3,hx,hg,hl,hr⟩:=h
 clear hx hg hl hr
 go_enter Tryz.func59,Tryz.ntmps59
 go_wp2
 go_ret
 exact⟨by first|rfl|(simp;done),by repeat(first|exact au.refl _|apply au.step)⟩
theorem uC{w:World}{x:Int}:
  Calls Tryz.prog 59 #[.pointer none, .int .u64 x] w fun e w'=>e= .returned (.bool false)∧au w w':=by
 go_enter Tryz.func59,Tryz.ntmps59
 go_wp2
 go_ret
 exact⟨by first|rfl|(simp;done),by repeat(first|exact au.refl _|apply au.step)⟩
theorem dt.calls(A0:Option Addr)(c0:Nat)(l0:List cn)(a1:Int)(r:Bool)(w:World)(hr0:Kd.C fB w A0 l0.length l0)(_hc0:l0.length≤c0)(h:dt.f l0 a1=some r):
  Calls Tryz.prog 59 #[bh (.slice A0 l0.length c0), .int .u64 a1] w fun e w'=>e= .returned (.bool r)∧au w w':=by
 obtain rfl:=Option.some.inj h
 refine gY (mk:=fun v=> #[v, .int .u64 a1]) hr0 (fun e=>?_) (fun F t a e hF=>?_)
 ·subst e;exact uC
 ·subst e;exact tm hF
def cX.f(l:List cn)(n:Int):Option Bool:=if n<18446744073709551616 then some (match l with
 |[]=>false
 |F::_=>decide (0<n)&&decide ((F.p-1)%n=0)) else none
theorem kG{w:World}{a:Addr}{F:cn}{n:Int}(h:fI w a F)(hn:n<18446744073709551616):
  Calls Tryz.prog 58 #[.pointer (some a), .int .i64 n] w fun e w'=>e= .returned (.bool (decide (0<n)&&decide ((F.p-1)%n=0)))∧au w w':=by
 have hm:=h.ij
 obtain⟨cv,A3,c3,k0,k1,k2,k3,hx,hg,hl,hr⟩:=h
 clear hx hg hl hr
 unfold cy at hm
 have e1:IntKind.u64.wrap (F.p-1)=F.p-1:=aX _ (by omega) (by omega)
 have e3:Int.tmod (F.p-1) n=(F.p-1)%n:=bH (by omega)
 by_cases h0:0<n
 ·have b0:decide (0<n)=true:=decide_eq_true h0
  have e2:IntKind.u64.wrap n=n:=aX _ (by omega) (by omega)
  have b2:(n==0)=false:=beq_eq_false_iff_ne.mpr (by omega)
  have b3: ¬n=0:=by omega
  by_cases hd:(F.p-1)%n=0
  ·have b4:((F.p-1)%n==0)=true:=beq_iff_eq.mpr hd
   have b5:decide ((F.p-1)%n=0)=true:=decide_eq_true hd
   rw[b0,b5]
   clear hm h0 hd hn
   go_enter Tryz.func58,Tryz.ntmps58
   go_wp2
   go_ret
   exact⟨by first|rfl|(simp;done),by repeat(first|exact au.refl _|apply au.step)⟩
  ·have b4:((F.p-1)%n==0)=false:=beq_eq_false_iff_ne.mpr hd
   have b5:decide ((F.p-1)%n=0)=false:=decide_eq_false hd
   rw[b0,b5]
   clear hm h0 hd hn
   go_enter Tryz.func58,Tryz.ntmps58
   go_wp2
   go_ret
   exact⟨by first|rfl|(simp;done),by repeat(first|exact au.refl _|apply au.step)⟩
 ·have b0:decide (0<n)=false:=decide_eq_false h0
  rw[b0]
  clear hm h0 hn e1 e3
  go_enter Tryz.func58,Tryz.ntmps58
  go_wp2
  go_ret
  exact⟨by first|rfl|(simp;done),by repeat(first|exact au.refl _|apply au.step)⟩
theorem fV{w:World}{a:Addr}{F:cn}{n:Int}{b:Bool}(h:fI w a F)(hn:n<18446744073709551616)(hb:(decide (0<n)&&decide ((F.p-1)%n=0))=b):
  Calls Tryz.prog 58 #[.pointer (some a), .int .i64 n] w fun e w'=>e= .returned (.bool b)∧au w w':=by
 have:=kG h hn
 rwa[hb] at this
theorem pU{w:World}{n:Int}:
  Calls Tryz.prog 58 #[.pointer none, .int .i64 n] w fun e w'=>e= .returned (.bool false)∧au w w':=by
 go_enter Tryz.func58,Tryz.ntmps58
 go_wp2
 go_ret
 exact⟨by first|rfl|(simp;done),by repeat(first|exact au.refl _|apply au.step)⟩
theorem cX.calls(A0:Option Addr)(c0:Nat)(l0:List cn)(a1:Int)(r:Bool)(w:World)(hr0:Kd.C fB w A0 l0.length l0)(_hc0:l0.length≤c0)(h:cX.f l0 a1=some r):
  Calls Tryz.prog 58 #[bh (.slice A0 l0.length c0), .int .i64 a1] w fun e w'=>e= .returned (.bool r)∧au w w':=by
 unfold cX.f at h
 split at h
 case isFalse=>cases h
 rename_i hn
 obtain rfl:=Option.some.inj h
 refine gY (mk:=fun v=> #[v, .int .i64 a1]) hr0 (fun e=>?_) (fun F t a e hF=>?_)
 ·subst e;exact pU
 ·subst e;exact kG hF hn
def cM.f(l:List cn)(a1:Int)(a2:Int):Option Int:=if U a1∧U a2 then some (match l with
 |[]=>0
 |F::_=>(a1+a2)%F.p) else none
theorem cM.at_{F:cn}{l:List cn}{a1 a2:Int}(h:U a1∧U a2):cM.f (F::l) a1 a2=some ((a1+a2)%F.p):=by unfold cM.f;rw[if_pos h]
set_option maxHeartbeats 2000000 in
theorem rF{w:World}{a:Addr}{F:cn}{a1 a2 r:Int}(h:fI w a F)(hu:U a1∧U a2)(hr0:aa (r=(a1+a2)%F.p)):
  Calls Tryz.prog 96 #[.pointer (some a), .int .u64 a1, .int .u64 a2] w fun e w'=>e= .returned (.int .u64 r)∧au w w':=by
 have hm:=h.ij
 obtain⟨cv,A3,c3,k0,k1,k2,k3,hx,hg,hl,hr⟩:=h
 have HB:=aa.mk hx
 have HN:aa (∀n,eN (w.drewN n) cv F.p):=⟨fun _=>hx⟩
 have HU:=aa.mk hu
 clear hx hg hl hr hm hu
 go_enter Tryz.func96,Tryz.ntmps96
 go_wp2_with (first
  |(go_at_call 127;(with_reducible refine(qy HB.out HU.out.1 HU.out.2 hr0).mono ?_);rintro e w' ⟨rfl,⟨nd,rfl⟩⟩;(try first|exact qA|exact qB))
  |(go_at_call 127;(with_reducible refine(qy (HN.out _) HU.out.1 HU.out.2 hr0).mono ?_);rintro e w' ⟨rfl,⟨nd,rfl⟩⟩;(try first|exact qA|exact qB))
  )
 go_ret
 exact⟨by first|rfl|(simp;done),by repeat(first|exact au.refl _|apply au.step)⟩
theorem uh{w:World}{a1 a2:Int}:
  Calls Tryz.prog 96 #[.pointer none, .int .u64 a1, .int .u64 a2] w fun e w'=>e= .returned (.int .u64 0)∧au w w':=by
 go_enter Tryz.func96,Tryz.ntmps96
 go_wp2
 go_ret
 exact⟨by first|rfl|(simp;done),by repeat(first|exact au.refl _|apply au.step)⟩
theorem cM.calls(A0:Option Addr)(c0:Nat)(l0:List cn)(a1:Int)(a2:Int)(r:Int)(w:World)(hr0:Kd.C fB w A0 l0.length l0)(_hc0:l0.length≤c0)(h:cM.f l0 a1 a2=some r):
  Calls Tryz.prog 96 #[bh (.slice A0 l0.length c0), .int .u64 a1, .int .u64 a2] w fun e w'=>e= .returned (.int .u64 r)∧au w w':=by
 unfold cM.f at h
 split at h
 case isFalse=>cases h
 rename_i hu
 obtain rfl:=Option.some.inj h
 refine gY (mk:=fun v=> #[v, .int .u64 a1, .int .u64 a2]) hr0 (fun e=>?_) (fun F t a e hF=>?_)
 ·subst e;exact uh
 ·subst e;exact rF hF hu ⟨rfl⟩
def gF.f(l:List cn)(a1:Int)(a2:Int):Option Int:=if U a1∧U a2 then some (match l with
 |[]=>0
 |F::_=>(a1-a2)%F.p) else none
theorem gF.at_{F:cn}{l:List cn}{a1 a2:Int}(h:U a1∧U a2):gF.f (F::l) a1 a2=some ((a1-a2)%F.p):=by unfold gF.f;rw[if_pos h]
def gI.f(l:List cn)(a1:Int):Option Int:=if U a1 then some (match l with
 |[]=>0
 |F::_=>(-a1)%F.p) else none
theorem gI.at_{F:cn}{l:List cn}{a1:Int}(h:U a1):gI.f (F::l) a1=some ((-a1)%F.p):=by unfold gI.f;rw[if_pos h]
def bY.f(l:List cn)(a1:Int):Option Int:=if U a1 then some (match l with
 |[]=>0
 |F::_=>iv F.p a1) else none
theorem bY.at_{F:cn}{l:List cn}{a1:Int}(h:U a1):bY.f (F::l) a1=some (iv F.p a1):=by unfold bY.f;rw[if_pos h]
set_option maxHeartbeats 2000000 in
theorem qo{w:World}{a:Addr}{F:cn}{a1 r:Int}(h:fI w a F)(hu:U a1)(hr0:aa (r=iv F.p a1)):
  Calls Tryz.prog 60 #[.pointer (some a), .int .u64 a1] w fun e w'=>e= .returned (.int .u64 r)∧au w w':=by
 have hm:=h.ij
 obtain⟨cv,A3,c3,k0,k1,k2,k3,hx,hg,hl,hr⟩:=h
 have HB:=aa.mk hx
 have HN:aa (∀n,eN (w.drewN n) cv F.p):=⟨fun _=>hx⟩
 have HU:=aa.mk hu
 clear hx hg hl hr hm hu
 go_enter Tryz.func60,Tryz.ntmps60
 go_wp2_with (first
  |(go_at_call 98;(with_reducible refine(fM HB.out HU.out hr0).mono ?_);rintro e w' ⟨rfl,⟨nd,rfl⟩⟩;(try first|exact qA|exact qB))
  |(go_at_call 98;(with_reducible refine(fM (HN.out _) HU.out hr0).mono ?_);rintro e w' ⟨rfl,⟨nd,rfl⟩⟩;(try first|exact qA|exact qB))
  )
 go_ret
 exact⟨by first|rfl|(simp;done),by repeat(first|exact au.refl _|apply au.step)⟩
theorem rA{w:World}{a1:Int}:
  Calls Tryz.prog 60 #[.pointer none, .int .u64 a1] w fun e w'=>e= .returned (.int .u64 0)∧au w w':=by
 go_enter Tryz.func60,Tryz.ntmps60
 go_wp2
 go_ret
 exact⟨by first|rfl|(simp;done),by repeat(first|exact au.refl _|apply au.step)⟩
theorem bY.calls(A0:Option Addr)(c0:Nat)(l0:List cn)(a1:Int)(r:Int)(w:World)(hr0:Kd.C fB w A0 l0.length l0)(_hc0:l0.length≤c0)(h:bY.f l0 a1=some r):
  Calls Tryz.prog 60 #[bh (.slice A0 l0.length c0), .int .u64 a1] w fun e w'=>e= .returned (.int .u64 r)∧au w w':=by
 unfold bY.f at h
 split at h
 case isFalse=>cases h
 rename_i hu
 obtain rfl:=Option.some.inj h
 refine gY (mk:=fun v=> #[v, .int .u64 a1]) hr0 (fun e=>?_) (fun F t a e hF=>?_)
 ·subst e;exact rA
 ·subst e;exact qo hF hu ⟨rfl⟩
def bb.f(l:List cn)(a1:Int)(a2:Int):Option Int:=if U a1∧U a2 then some (match l with
 |[]=>0
 |F::_=>jl F.p a1 a2) else none
theorem bb.at_{F:cn}{l:List cn}{a1 a2:Int}(h:U a1∧U a2):bb.f (F::l) a1 a2=some (jl F.p a1 a2):=by unfold bb.f;rw[if_pos h]
set_option maxHeartbeats 2000000 in
theorem o4{w:World}{a:Addr}{F:cn}{a1 a2 r:Int}(h:fI w a F)(hu:U a1∧U a2)(hr0:aa (r=jl F.p a1 a2)):
  Calls Tryz.prog 62 #[.pointer (some a), .int .u64 a1, .int .u64 a2] w fun e w'=>e= .returned (.int .u64 r)∧au w w':=by
 have hm:=h.ij
 obtain⟨cv,A3,c3,k0,k1,k2,k3,hx,hg,hl,hr⟩:=h
 have HB:=aa.mk hx
 have HN:aa (∀n,eN (w.drewN n) cv F.p):=⟨fun _=>hx⟩
 have HU:=aa.mk hu
 clear hx hg hl hr hm hu
 go_enter Tryz.func62,Tryz.ntmps62
 go_wp2_with (first
  |(go_at_call 100;(with_reducible refine(fG HB.out HU.out.1 HU.out.2 hr0).mono ?_);rintro e w' ⟨rfl,⟨nd,rfl⟩⟩;(try first|exact qA|exact qB))
  |(go_at_call 100;(with_reducible refine(fG (HN.out _) HU.out.1 HU.out.2 hr0).mono ?_);rintro e w' ⟨rfl,⟨nd,rfl⟩⟩;(try first|exact qA|exact qB))
  )
 go_ret
 exact⟨by first|rfl|(simp;done),by repeat(first|exact au.refl _|apply au.step)⟩
theorem pN{w:World}{a1 a2:Int}:
  Calls Tryz.prog 62 #[.pointer none, .int .u64 a1, .int .u64 a2] w fun e w'=>e= .returned (.int .u64 0)∧au w w':=by
 go_enter Tryz.func62,Tryz.ntmps62
 go_wp2
 go_ret
 exact⟨by first|rfl|(simp;done),by repeat(first|exact au.refl _|apply au.step)⟩
theorem bb.calls(A0:Option Addr)(c0:Nat)(l0:List cn)(a1:Int)(a2:Int)(r:Int)(w:World)(hr0:Kd.C fB w A0 l0.length l0)(_hc0:l0.length≤c0)(h:bb.f l0 a1 a2=some r):
  Calls Tryz.prog 62 #[bh (.slice A0 l0.length c0), .int .u64 a1, .int .u64 a2] w fun e w'=>e= .returned (.int .u64 r)∧au w w':=by
 unfold bb.f at h
 split at h
 case isFalse=>cases h
 rename_i hu
 obtain rfl:=Option.some.inj h
 refine gY (mk:=fun v=> #[v, .int .u64 a1, .int .u64 a2]) hr0 (fun e=>?_) (fun F t a e hF=>?_)
 ·subst e;exact pN
 ·subst e;exact o4 hF hu ⟨rfl⟩
def gH.f(l:List cn)(a1:Int)(a2:Int):Option Int:=if U a1∧U a2 then some (match l with
 |[]=>0
 |F::_=>a1*a2%F.p) else none
theorem gH.at_{F:cn}{l:List cn}{a1 a2:Int}(h:U a1∧U a2):gH.f (F::l) a1 a2=some (a1*a2%F.p):=by unfold gH.f;rw[if_pos h]
def gG.f(l:List cn)(a1:Int)(a2:Int):Option Int:=if U a1∧U a2 then some (match l with
 |[]=>0
 |F::_=>a1^a2.toNat%F.p) else none
theorem gG.at_{F:cn}{l:List cn}{a1 a2:Int}(h:U a1∧U a2):gG.f (F::l) a1 a2=some (a1^a2.toNat%F.p):=by unfold gG.f;rw[if_pos h]
set_option maxHeartbeats 2000000 in
theorem gm{w:World}{a:Addr}{F:cn}{a1 a2 r:Int}(h:fI w a F)(hu:U a1∧U a2)(hr0:aa (r=a1^a2.toNat%F.p)):
  Calls Tryz.prog 63 #[.pointer (some a), .int .u64 a1, .int .u64 a2] w fun e w'=>e= .returned (.int .u64 r)∧au w w':=by
 have hm:=h.ij
 obtain⟨cv,A3,c3,k0,k1,k2,k3,hx,hg,hl,hr⟩:=h
 have HB:=aa.mk hx
 have HN:aa (∀n,eN (w.drewN n) cv F.p):=⟨fun _=>hx⟩
 have HU:=aa.mk hu
 obtain⟨s,hs⟩: ∃s,s=iv F.p a1:=⟨_,rfl⟩
 obtain⟨t,ht⟩: ∃t,t=oV F.p s a2:=⟨_,rfl⟩
 have R1:=aa.mk hs
 have R2:=aa.mk ht
 have US:aa (U s):=⟨by rw[hs];exact jt hm _⟩
 have UT:aa (U t):=⟨by rw[ht];exact jt hm _⟩
 have R3:aa (r=j8 F.p t):=⟨by rw[hr0.out,ht,hs,vq hm,zf hm]⟩
 clear hs ht
 clear hx hg hl hr hm hu
 go_enter Tryz.func63,Tryz.ntmps63
 go_wp2_with (first
  |(go_at_call 98;(with_reducible refine(fM HB.out HU.out.1 R1).mono ?_);rintro e w' ⟨rfl,⟨nd,rfl⟩⟩;(try first|exact qA|exact qB))
  |(go_at_call 98;(with_reducible refine(fM (HN.out _) HU.out.1 R1).mono ?_);rintro e w' ⟨rfl,⟨nd,rfl⟩⟩;(try first|exact qA|exact qB))
  |(go_at_call 102;(with_reducible refine(e6 HB.out US.out HU.out.2 R2).mono ?_);rintro e w' ⟨rfl,⟨nd,rfl⟩⟩;(try first|exact qA|exact qB))
  |(go_at_call 102;(with_reducible refine(e6 (HN.out _) US.out HU.out.2 R2).mono ?_);rintro e w' ⟨rfl,⟨nd,rfl⟩⟩;(try first|exact qA|exact qB))
  |(go_at_call 101;(with_reducible refine(iQ HB.out UT.out R3).mono ?_);rintro e w' ⟨rfl,⟨nd,rfl⟩⟩;(try first|exact qA|exact qB))
  |(go_at_call 101;(with_reducible refine(iQ (HN.out _) UT.out R3).mono ?_);rintro e w' ⟨rfl,⟨nd,rfl⟩⟩;(try first|exact qA|exact qB))
  )
 repeat(go_quiet (first|(go_at_call 98;(with_reducible refine(fM HB.out HU.out.1 R1).mono ?_);rintro e w' ⟨rfl,⟨nd,rfl⟩⟩;(try first|exact qA|exact qB))|(go_at_call 98;(with_reducible refine(fM (HN.out _) HU.out.1 R1).mono ?_);rintro e w' ⟨rfl,⟨nd,rfl⟩⟩;(try first|exact qA|exact qB))|(go_at_call 102;(with_reducible refine(e6 HB.out US.out HU.out.2 R2).mono ?_);rintro e w' ⟨rfl,⟨nd,rfl⟩⟩;(try first|exact qA|exact qB))|(go_at_call 102;(with_reducible refine(e6 (HN.out _) US.out HU.out.2 R2).mono ?_);rintro e w' ⟨rfl,⟨nd,rfl⟩⟩;(try first|exact qA|exact qB))|(go_at_call 101;(with_reducible refine(iQ HB.out UT.out R3).mono ?_);rintro e w' ⟨rfl,⟨nd,rfl⟩⟩;(try first|exact qA|exact qB))|(go_at_call 101;(with_reducible refine(iQ (HN.out _) UT.out R3).mono ?_);rintro e w' ⟨rfl,⟨nd,rfl⟩⟩;(try first|exact qA|exact qB)));try go_wp2_with (first|(go_at_call 98;(with_reducible refine(fM HB.out HU.out.1 R1).mono ?_);rintro e w' ⟨rfl,⟨nd,rfl⟩⟩;(try first|exact qA|exact qB))|(go_at_call 98;(with_reducible refine(fM (HN.out _) HU.out.1 R1).mono ?_);rintro e w' ⟨rfl,⟨nd,rfl⟩⟩;(try first|exact qA|exact qB))|(go_at_call 102;(with_reducible refine(e6 HB.out US.out HU.out.2 R2).mono ?_);rintro e w' ⟨rfl,⟨nd,rfl⟩⟩;(try first|exact qA|exact qB))|(go_at_call 102;(with_reducible refine(e6 (HN.out _) US.out HU.out.2 R2).mono ?_);rintro e w' ⟨rfl,⟨nd,rfl⟩⟩;(try first|exact qA|exact qB))|(go_at_call 101;(with_reducible refine(iQ HB.out UT.out R3).mono ?_);rintro e w' ⟨rfl,⟨nd,rfl⟩⟩;(try first|exact qA|exact qB))|(go_at_call 101;(with_reducible refine(iQ (HN.out _) UT.out R3).mono ?_);rintro e w' ⟨rfl,⟨nd,rfl⟩⟩;(try first|exact qA|exact qB))))
 go_ret
 exact⟨by first|rfl|(simp;done),by repeat(first|exact au.refl _|apply au.step)⟩
open Classical in
noncomputable def fo(m x:Int):Int:=if h: ∃t:Int,0≤t∧t<m∧t*x%m=1 then h.choose else 0
theorem tb{m x t:Int}(h0:0≤t)(h1:t<m)(h2:t*x%m=1):0≤fo m x∧fo m x<m∧fo m x*x%m=1:=by
 have h: ∃t:Int,0≤t∧t<m∧t*x%m=1:=⟨t,h0,h1,h2⟩
 unfold fo
 rw[dif_pos h]
 exact h.choose_spec
theorem qd{m x t u:Int}(_hm:2≤m)(h0:0≤t)(h1:t<m)(h2:t*x%m=1)(g0:0≤u)(g1:u<m)(g2:u*x%m=1):t=u:=by
 have e1:t*x*u%m=u%m:=by rw[Int.mul_emod,h2,Int.one_mul,Int.emod_emod]
 have e2:t*x*u%m=t%m:=by rw[show t*x*u=t*(u*x) by rw[Int.mul_assoc,Int.mul_comm x u],Int.mul_emod,g2,Int.mul_one,Int.emod_emod]
 rw[Int.emod_eq_of_lt h0 h1] at e2
 rw[Int.emod_eq_of_lt g0 g1] at e1
 omega
theorem sU{m x t:Int}(hm:2≤m)(h0:0≤t)(h1:t<m)(h2:t*x%m=1):fo m x=t:=by
 obtain⟨g0,g1,g2⟩:=tb h0 h1 h2
 exact qd hm g0 g1 g2 h0 h1 h2
theorem lK{m x:Int}(h: ¬ ∃t:Int,0≤t∧t<m∧t*x%m=1):fo m x=0:=by unfold fo;rw[dif_neg h]
noncomputable def cN.f(l:List cn)(a1:Int):Option Int:=if U a1 then some (fo (fP l) a1) else none
theorem cN.at_{F:cn}{l:List cn}{a1:Int}(h:U a1):cN.f (F::l) a1=some (fo F.p a1):=by unfold cN.f;rw[if_pos h];rfl
theorem lR{m x:Int}(hm:U m)(hx:U x): ∃k b,cu.f k x m=some (fo m x,b):=by
 by_cases h2:m<2
 ·obtain⟨k,hk⟩:=Ev.rounds (kC (a:=x) h2)
  refine⟨k,false,?_⟩
  rw[hk,lK]
  rintro⟨t,h0,h1,h3⟩
  have:t=0:=by omega
  subst this
  simp at h3
 ·obtain⟨n,rfl⟩:=Int.eq_ofNat_of_zero_le hx.1
  obtain⟨q,rfl⟩:=Int.eq_ofNat_of_zero_le hm.1
  obtain⟨R,hR,hi⟩:=mL (a:=n) hm (by omega)
  obtain⟨k,hk⟩:=Ev.rounds hR
  refine⟨k,R.2,?_⟩
  rw[hk]
  have:fo (q:Int) (n:Int)=R.1:=by
   by_cases hg:Nat.gcd n q=1
   ·obtain⟨_,h0,h1,h2⟩:=hi.1 hg
    exact sU (by omega) h0 h1 ((XS.fN h2).trans (Int.emod_eq_of_lt (by omega) (by omega)))
   ·rw[hi.2 hg]
    refine lK ?_
    rintro⟨t,h0,h1,h3⟩
    refine hg (Nat.dvd_one.1 (Int.natCast_dvd_natCast.1 ?_))
    have d1:((Nat.gcd n q:Nat):Int)∣(n:Int):=Int.natCast_dvd_natCast.2 (Nat.gcd_dvd_left n q)
    have d2:((Nat.gcd n q:Nat):Int)∣(q:Int):=Int.natCast_dvd_natCast.2 (Nat.gcd_dvd_right n q)
    have e:(1:Int)=t*n-q*(t*n/q):=by rw[←Int.emod_def,h3]
    rw[Int.natCast_one,e]
    exact Int.dvd_sub (Int.dvd_mul_of_dvd_right d1) (Int.dvd_mul_of_dvd_left d2)
  rw[this]
theorem rh{w:World}{a:Addr}{F:cn}{a1 r:Int}(h:fI w a F)(hu:U a1)(hr0:aa (r=fo F.p a1)):
  Calls Tryz.prog 61 #[.pointer (some a), .int .u64 a1] w fun e w'=>e= .returned (.int .u64 r)∧au w w':=by
 have hm:=h.ij
 have HB:=aa.mk h
 have HN:aa (∀n,fI (w.drewN n) a F):=⟨fun _=>h⟩
 obtain⟨k,b,hk⟩:=lR (k6 hm) hu
 rw[←hr0.out] at hk
 have HK:=aa.mk hk
 clear hk hm hu h hr0
 go_enter Tryz.func61,Tryz.ntmps61
 go_wp2_with (first
  |(go_at_call 42;(with_reducible refine(wv HB.out).mono ?_);rintro e w' ⟨rfl,⟨nd,rfl⟩⟩;(try first|exact qA|exact qB))
  |(go_at_call 42;(with_reducible refine(wv (HN.out _)).mono ?_);rintro e w' ⟨rfl,⟨nd,rfl⟩⟩;(try first|exact qA|exact qB))
  |(go_at_call 99;(with_reducible refine(cu.calls k _ _ r b _ HK.out).mono ?_);rintro e w' ⟨rfl,⟨nd,rfl⟩⟩;(try first|exact qA|exact qB))
  )
 go_ret
 exact⟨by first|rfl|(simp;done),by repeat(first|exact au.refl _|apply au.step)⟩
theorem ub{w:World}{a1:Int}(hu:U a1):
  Calls Tryz.prog 61 #[.pointer none, .int .u64 a1] w fun e w'=>e= .returned (.int .u64 (fo 0 a1))∧au w w':=by
 obtain⟨k,b,hk⟩:=lR (m:=0) (by unfold U;omega) hu
 obtain⟨r,hr⟩: ∃r,r=fo 0 a1:=⟨_,rfl⟩
 rw[←hr] at hk ⊢
 have HK:=aa.mk hk
 clear hk hu hr
 go_enter Tryz.func61,Tryz.ntmps61
 go_wp2_with (first
  |(go_at_call 42;(with_reducible refine(Aa).mono ?_);rintro e w' ⟨rfl,⟨nd,rfl⟩⟩;(try first|exact qA|exact qB))
  |(go_at_call 99;(with_reducible refine(cu.calls k _ _ r b _ HK.out).mono ?_);rintro e w' ⟨rfl,⟨nd,rfl⟩⟩;(try first|exact qA|exact qB))
  )
 go_ret
 exact⟨by first|rfl|(simp;done),by repeat(first|exact au.refl _|apply au.step)⟩
theorem cN.calls(A0:Option Addr)(c0:Nat)(l0:List cn)(a1:Int)(r:Int)(w:World)(hr0:Kd.C fB w A0 l0.length l0)(_hc0:l0.length≤c0)(h:cN.f l0 a1=some r):
  Calls Tryz.prog 61 #[bh (.slice A0 l0.length c0), .int .u64 a1] w fun e w'=>e= .returned (.int .u64 r)∧au w w':=by
 unfold cN.f at h
 split at h
 case isFalse=>cases h
 rename_i hu
 obtain rfl:=Option.some.inj h
 refine gY (mk:=fun v=> #[v, .int .u64 a1]) hr0 (fun e=>?_) (fun F t a e hF=>?_)
 ·subst e;exact ub hu
 ·subst e;exact rh hF hu ⟨rfl⟩
def cU.f(l:List cn)(n:Int):Option (Int×Int):=if n<9223372036854775808 then some (match l with
 |[]=>(0,2)
 |F::_=>if 0<n∧(F.p-1)%n=0 then(F.g^((F.p-1)/n).toNat%F.p,0) else(0,4)) else none
theorem uq{w:World}{n:Int}:
  Calls Tryz.prog 29 #[.pointer none, .int .i64 n] w fun e w'=>e= .returned (.tuple #[.int .u64 0, .int .i64 2])∧au w w':=by
 go_enter Tryz.func29,Tryz.ntmps29
 go_wp2
 go_ret2
 exact⟨by first|rfl|(simp;done),by repeat(first|exact au.refl _|apply au.step)⟩
theorem xj{w:World}{a:Addr}{F:cn}{n:Int}(h:fI w a F)(hn:n<9223372036854775808)(hd: ¬(0<n∧(F.p-1)%n=0)):
  Calls Tryz.prog 29 #[.pointer (some a), .int .i64 n] w fun e w'=>e= .returned (.tuple #[.int .u64 0, .int .i64 4])∧au w w':=by
 have HB:=aa.mk h
 have HN:aa (∀n,fI (w.drewN n) a F):=⟨fun _=>h⟩
 have hb:(decide (0<n)&&decide ((F.p-1)%n=0))=false:=by
  rw[←Bool.decide_and];exact decide_eq_false hd
 have HBb:=aa.mk hb
 have HNn:aa (n<18446744073709551616):=⟨by omega⟩
 clear h hd hn hb
 go_enter Tryz.func29,Tryz.ntmps29
 go_wp2_with (first
  |(go_at_call 58;(with_reducible refine(fV HB.out HNn.out HBb.out).mono ?_);rintro e w' ⟨rfl,⟨nd,rfl⟩⟩;(try first|exact qA|exact qB))
  |(go_at_call 58;(with_reducible refine(fV (HN.out _) HNn.out HBb.out).mono ?_);rintro e w' ⟨rfl,⟨nd,rfl⟩⟩;(try first|exact qA|exact qB))
  )
 go_ret2
 exact⟨by first|rfl|(simp;done),by repeat(first|exact au.refl _|apply au.step)⟩
theorem uM{w:World}{a:Addr}{F:cn}{n r:Int}(h:fI w a F)(hn:n<9223372036854775808)(hd:0<n∧(F.p-1)%n=0)(hr0:aa (r=F.g^((F.p-1)/n).toNat%F.p)):
  Calls Tryz.prog 29 #[.pointer (some a), .int .i64 n] w fun e w'=>e= .returned (.tuple #[.int .u64 r, .int .i64 0])∧au w w':=by
 have HB:=aa.mk h
 have HN:aa (∀n,fI (w.drewN n) a F):=⟨fun _=>h⟩
 have hm:=h.ij
 have hb:(decide (0<n)&&decide ((F.p-1)%n=0))=true:=by
  rw[←Bool.decide_and];exact decide_eq_true hd
 have HBb:=aa.mk hb
 have HNn:aa (n<18446744073709551616):=⟨by omega⟩
 unfold cy at hm
 have e1:IntKind.u64.wrap (F.p-1)=F.p-1:=aX _ (by omega) (by omega)
 have e2:IntKind.u64.wrap n=n:=aX _ (by omega) (by omega)
 have b2:(n==0)=false:=beq_eq_false_iff_ne.mpr (by omega)
 have b3: ¬n=0:=by omega
 obtain⟨q,hq⟩: ∃q,q=(F.p-1)/n:=⟨_,rfl⟩
 have hq0:0≤q:=by rw[hq];exact Int.ediv_nonneg (by omega) (by omega)
 have hq1:q≤F.p-1:=by rw[hq];exact Int.ediv_le_self _ (by omega)
 have e3:Int.tdiv (F.p-1) n=q:=by rw[hq];exact Int.tdiv_eq_ediv_of_nonneg (by omega)
 have e4:IntKind.u64.wrap q=q:=aX _ (by omega) (by omega)
 rw[←hq] at hr0
 have hg:U F.g:=by obtain⟨_,_,_,_,_,_,_,_,hg,_⟩:=h;exact hg
 have HU:aa (U F.g∧U q):=⟨hg,by unfold U;omega⟩
 have hh:=h
 obtain⟨cv,A3,c3,k0,k1,k2,k3,hx,hgu,hl,hr⟩:=hh
 clear hgu h hd hn hb hm hq0 hq1 hg hx hl hr hq
 go_enter Tryz.func29,Tryz.ntmps29
 go_wp2_with (first
  |(go_at_call 58;(with_reducible refine(fV HB.out HNn.out HBb.out).mono ?_);rintro e w' ⟨rfl,⟨nd,rfl⟩⟩;(try first|exact qA|exact qB))
  |(go_at_call 58;(with_reducible refine(fV (HN.out _) HNn.out HBb.out).mono ?_);rintro e w' ⟨rfl,⟨nd,rfl⟩⟩;(try first|exact qA|exact qB))
  |(go_at_call 63;(with_reducible refine(gm HB.out HU.out hr0).mono ?_);rintro e w' ⟨rfl,⟨nd,rfl⟩⟩;(try first|exact qA|exact qB))
  |(go_at_call 63;(with_reducible refine(gm (HN.out _) HU.out hr0).mono ?_);rintro e w' ⟨rfl,⟨nd,rfl⟩⟩;(try first|exact qA|exact qB))
  )
 repeat(go_quiet (first|(go_at_call 58;(with_reducible refine(fV HB.out HNn.out HBb.out).mono ?_);rintro e w' ⟨rfl,⟨nd,rfl⟩⟩;(try first|exact qA|exact qB))|(go_at_call 58;(with_reducible refine(fV (HN.out _) HNn.out HBb.out).mono ?_);rintro e w' ⟨rfl,⟨nd,rfl⟩⟩;(try first|exact qA|exact qB))|(go_at_call 63;(with_reducible refine(gm HB.out HU.out hr0).mono ?_);rintro e w' ⟨rfl,⟨nd,rfl⟩⟩;(try first|exact qA|exact qB))|(go_at_call 63;(with_reducible refine(gm (HN.out _) HU.out hr0).mono ?_);rintro e w' ⟨rfl,⟨nd,rfl⟩⟩;(try first|exact qA|exact qB)));try go_wp2_with (first|(go_at_call 58;(with_reducible refine(fV HB.out HNn.out HBb.out).mono ?_);rintro e w' ⟨rfl,⟨nd,rfl⟩⟩;(try first|exact qA|exact qB))|(go_at_call 58;(with_reducible refine(fV (HN.out _) HNn.out HBb.out).mono ?_);rintro e w' ⟨rfl,⟨nd,rfl⟩⟩;(try first|exact qA|exact qB))|(go_at_call 63;(with_reducible refine(gm HB.out HU.out hr0).mono ?_);rintro e w' ⟨rfl,⟨nd,rfl⟩⟩;(try first|exact qA|exact qB))|(go_at_call 63;(with_reducible refine(gm (HN.out _) HU.out hr0).mono ?_);rintro e w' ⟨rfl,⟨nd,rfl⟩⟩;(try first|exact qA|exact qB))))
 go_ret2
 exact⟨by first|rfl|(simp;done),by repeat(first|exact au.refl _|apply au.step)⟩
theorem cU.calls(A0:Option Addr)(c0:Nat)(l0:List cn)(a1:Int)(r1 r2:Int)(w:World)(hr0:Kd.C fB w A0 l0.length l0)(_hc0:l0.length≤c0)(h:cU.f l0 a1=some (r1,r2)):
  Calls Tryz.prog 29 #[bh (.slice A0 l0.length c0), .int .i64 a1] w fun e w'=>e= .returned (.tuple #[.int .u64 r1, .int .i64 r2])∧au w w':=by
 unfold cU.f at h
 split at h
 case isFalse=>cases h
 rename_i hn
 have h:=Option.some.inj h
 refine gY (mk:=fun v=> #[v, .int .i64 a1]) hr0 (fun e=>?_) (fun F t a e hF=>?_)
 ·subst e
  obtain⟨rfl,rfl⟩:=Prod.mk.inj h
  exact uq
 ·subst e
  simp only at h
  split at h
  ·rename_i hd
   obtain⟨rfl,rfl⟩:=Prod.mk.inj h
   exact uM hF hn hd ⟨rfl⟩
  ·rename_i hd
   obtain⟨rfl,rfl⟩:=Prod.mk.inj h
   exact xj hF hn hd
end Go.Proofs.YtndkmnjbjlfeaaaGreat.F06
end
