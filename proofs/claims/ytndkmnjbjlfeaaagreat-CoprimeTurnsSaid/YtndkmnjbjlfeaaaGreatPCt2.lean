/- Parts of this claim's texts, packed by wip/tools/prune.py: what the proof does not reach is left out. -/
import Derived.Test.YtndkmnjbjlfeaaaGreatPCt1
import Derived.Laws.StructEq
section
namespace Go.Proofs.YtndkmnjbjlfeaaaGreatW.PrintWords
open Go.RowKit
section
variable {P:Program} {d:Nat} {xs ys:Array Value} {f:Field} {fs:List Field} {a b:Value} {r s:Bool} {w:World}
end
end Go.Proofs.YtndkmnjbjlfeaaaGreatW.PrintWords
end
section
namespace Go.RowKit
theorem ak{p:Prop}(h:p:=by repeat(first|(with_reducible first|exact HB.out|apply aQ|apply ay|apply bs|refine cg ?_ (aa.out (by assumption)))|exact HB.out)):p:=h
open Go.Proofs.YtndkmnjbjlfeaaaGreatW.PrintWords Go.Proofs.YtndkmnjbjlfeaaaGreatW.PrintLast
theorem za{p:Prop}(h:p:=by(try simp only[List.map_toArray,List.map_cons,List.map_nil]);first|done|rfl|(simp only[List.length_drop,List.length_take];rfl)):p:=h
theorem jy{p q:Prop}(h0:q)(h:q→p:=by intro h0_;(try simp only[List.map_toArray,List.map_cons,List.map_nil]);first|done|(rw[h0_]<;>rfl)|rfl|(simp only[List.length_drop,List.length_take];rfl)):p:=h h0
theorem tO{p:Prop}(h:p:=by first|exact Kd.fW _ _ _ _ _|exact Kd.lY _ _ _ _ _|exact Kd.mc _ _ _ _ _|exact Kd.lN _ _ _ _ _|exact Kd.jv _ _ _ _ _):p:=h
theorem cw{p q:Prop}(h0:q)(h:q→p:=by intro h0_;repeat(first|exact h0_|(with_reducible refine Kd.dB ?_ _)|(with_reducible refine Kd.dQ ?_ _)|(with_reducible refine Kd.eX ?_))):p:=h h0
theorem bK{p q:Prop}(h0:q)(h:q→p:=by intro h0_;(with_reducible repeat(first|apply Kd.bI|apply Kd.bL|apply Kd.bM));exact h0_):p:=h h0
theorem cP{p q:Prop}(h0:q)(h:q→p:=by intro h0_;(with_reducible repeat(first|refine cB ?_ _|refine bG ?_|refine cC ?_ _));exact h0_):p:=h h0
theorem a8{p:Prop}(h:p:=by first|rfl|(simp;done)|(simp[*];done)):p:=h
theorem dk{p:Prop}(h:p:=by repeat(first|exact au.refl _|apply au.step)):p:=h
theorem im{p:Prop}(h:p:=by repeat(first|(with_reducible first|exact HK.out|apply Kept.alloc|apply Kept.drewN|apply Kept.drew|refine Kept.setCell ?_ (.inr (aa.out (by assumption))) _)|exact HK.out)):p:=h
theorem dP{w w':World}{p:Addr}{v:Value}(hb:Below w.heap.size w w')(h:w.cell? p=some v):w'.cell? p=some v:=(hb.cell (World.block_lt_of_cell? w _ h)).trans h
theorem bt{w:World}{g:Nat}{cells:Array Value}{e:TypeId}(h:w.heap[g]?=some (.cells cells e (0,0)))(i:Nat){v:Value}(hv:cells[i]?=some v):w.cell? ⟨g,i,none⟩=some v:=(aj h i).trans hv
section
variable {P:Program} {ops:Array Oper} {Q:Exit→Act→World→Prop} {md:Region.Mode} {S:World→Prop} {ds:List Nat} {oi:Oper} {v:Value} {fuel:Nat} {l:Array Bool} {a a':Act} {w:World}
theorem ph(i n:Nat)(hc:wN md ops l (l.setIfInBounds i true) i=true)(hi:ops[i]?=some oi)(hN:oi.dst=some n)(h:bx P md ops Q S ds fuel (l.setIfInBounds i true) a' w)(hQ: ∀c a w,Q (.panic c) (a.put oi.dst v) w→Q (.panic c) a w:=by exact fun _ _ _ h=>h)(hw:Region.wanted oi (yielded ops a.tmps)=true:=by rfl)(hy: ∀w,(execOp a.eval oi).run P w= .ok (.value v) w:=by intro w';go_simp;with_reducible rfl)(ha:a.put (some n) v=a':=by simp only[Act.put,List.setIfInBounds_toArray,List.set_cons_zero,List.set_cons_succ,bp,bQ];rfl):bx P md ops Q S ds (fuel+1) l a w:=dF _ hi hN hc hQ (Or.inl ⟨hw,hy⟩) ha h
theorem jk(i n:Nat)(hc:nZ md ops ds l (l.setIfInBounds i true) i=true)(hS:S w)(hy: ∀w,S w→(execOp a.eval oi).run P w= .ok (.value v) w)(hi:ops[i]?=some oi)(hN:oi.dst=some n)(h:bx P md ops Q S ds fuel (l.setIfInBounds i true) a' w)(hQ: ∀c a w,Q (.panic c) (a.put oi.dst v) w→Q (.panic c) a w:=by exact fun _ _ _ h=>h)(hw:Region.wanted oi (yielded ops a.tmps)=true:=by rfl)(ha:a.put (some n) v=a':=by simp only[Act.put,List.setIfInBounds_toArray,List.set_cons_zero,List.set_cons_succ,bp,bQ];rfl):bx P md ops Q S ds (fuel+1) l a w:=vT _ hi hN hc hQ (Or.inl ⟨hw,hy⟩) hS ha h
theorem dd{T:Bool×List (List Nat×List Nat)}(i n:Nat)(HT:aa (fX md ops=T))(hi:ops[i]?=some oi)(hN:oi.dst=some n)(h:bx P md ops Q S ds fuel (l.setIfInBounds i true) a' w)(hc:zL T l.toList (l.setIfInBounds i true).toList i=true:=by kernel_rfl)(hQ: ∀c a w,Q (.panic c) (a.put oi.dst v) w→Q (.panic c) a w:=by exact fun _ _ _ h=>h)(hw:Region.wanted oi (yielded ops a.tmps)=true:=by rfl)(hy: ∀w,(execOp a.eval oi).run P w= .ok (.value v) w:=by intro w';go_simp;with_reducible rfl)(ha:a.put (some n) v=a':=by simp only[Act.put,List.setIfInBounds_toArray,List.set_cons_zero,List.set_cons_succ,bp,bQ];rfl):bx P md ops Q S ds (fuel+1) l a w:=dF _ hi hN (df HT.out hc) hQ (Or.inl ⟨hw,hy⟩) ha h
theorem qK(h:bx P md ops Q S ds fuel l a' w)(ha:a=a':=by(show Act.put _ (some _) _=_;simp only[Act.put,List.setIfInBounds_toArray,List.set_cons_zero,List.set_cons_succ,bp,bQ];rfl)):bx P md ops Q S ds fuel l a w:=zY ha h
end
section
variable {P:Program} {ops:Array Oper} {Q:Exit→Act→World→Prop} {rest:List Oper} {o:Oper} {a:Act} {w:World}
theorem jg(N:Nat)(cs:Array Value)(t:TypeId)(h: ∀g,g=w.heap.size→ ∀w1,w1.heap[g]?=some (.cells cs t (0,0))→Below w.heap.size w w1→wpList P ops Q rest (a.put o.dst (.pointer (some ⟨g,0,none⟩))) w1)(hgd:o.guard=none:=by rfl)(hd:o.dst=some N:=by rfl)(hrun:(execOp a.eval o).run P w= .ok (.value (.pointer (some ⟨w.heap.size,0,none⟩))) (w.alloc (.cells cs t (0,0))):=by first|(go_simp;done)|(go_simp;rfl)):wpList P ops Q (o::rest) a w:=iI hgd hd hrun h
theorem fh(N:Nat){f:FuncId}{fn:Func}{as:Array Operand}{ts:Array TypeId}(hf:P.funcs[f]?=some fn)(args:Array Value)(hop:o.op= .call {callee:= .value (.func f),args:=as,argTypes:=ts})(h:Calls P f args w fun e w'=> ∃v,e= .returned v∧wpList P ops Q rest (a.put (some N) v) w')(hd:o.dst=some N:=by rfl)(hg:o.guard=none:=by rfl)(hname:(fn.name== "runtime.NumGoroutine")=false:=by kernel_rfl)(hb:fn.body.isSome=true:=by rfl)(hargs:as.map a.eval=args:=by(try simp only[List.map_toArray,List.map_cons,List.map_nil]);first|done|rfl|(simp only[List.length_drop,List.length_take];rfl)):wpList P ops Q (o::rest) a w:=cj (some N) hd hg hf hname hb args hop hargs h
end
end Go.RowKit
end
section
namespace Go.Proofs.YtndkmnjbjlfeaaaGreat.XM
open Go Go.RowKit Go.Proofs.YtndkmnjbjlfeaaaGreatW.PrintWords Go.Proofs.YtndkmnjbjlfeaaaGreatW.PrintLast Go.Proofs.YtndkmnjbjlfeaaaGreatW.PrintMore
def zm(s:Nat)(xs:List Int)(i:Int):Int:=rd xs ((s:Int)+i)
section
variable {W:World} {base g cap n s n9:Nat} {ok:Nat→Prop} {xs:List Int}
theorem wC(h:Kd.R (Kd.int .u64) 22 W base ok (.slice (some ⟨g,0,none⟩) n cap) xs)(hs:s+n9≤n)(i:Int)(h0:0≤i)(hi:i<(n9:Int)):W.cell? ⟨g,s+i.toNat,none⟩=some (.int .u64 (zm s xs i))∧W.frozen? ⟨g,s+i.toNat,none⟩=false:=by
 have r:=Kd.eE 0 h ((s:Int)+i) (by omega) (by omega)
 rw[show((s:Int)+i).toNat=s+i.toNat by omega] at r
 exact r
theorem xm(h:Kd.R (Kd.int .u64) 22 W base ok (.slice (some ⟨g,0,none⟩) n cap) xs)(i x:Int)(h0:0≤i):Kd.R (Kd.int .u64) 22 (W.setCell ⟨g,s+i.toNat,none⟩ (.int .u64 x)) base ok (.slice (some ⟨g,0,none⟩) n cap) (xs.set (s+i.toNat) x)∧W.grownBy (W.setCell ⟨g,s+i.toNat,none⟩ (.int .u64 x)) (some g):=by
 have r:=Kd.iF h ((s:Int)+i) x
 rw[show((s:Int)+i).toNat=s+i.toNat by omega] at r
 exact r
theorem vu(h:Kd.R (Kd.int .u64) 22 W base ok (.slice (some ⟨g,0,none⟩) n cap) xs)(hs:s+n9≤n){i:Int}(h0:0≤i)(hi:i<(n9:Int)):base≤g∧ ∃cl,W.heap[g]?=some (.cells cl 22 (0,0)):=by
 have e:=(Kd.aT h).1
 obtain⟨g',c',ee,h1,h2,cl,h3⟩:=Kd.fY h (by omega)
 injection ee with ea en ec
 injection ea with ea
 injection ea with ea
 subst ea
 exact⟨h1,cl,h3⟩
end
end Go.Proofs.YtndkmnjbjlfeaaaGreat.XM
end
