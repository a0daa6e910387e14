/- Parts of this claim's texts, packed by wip/tools/prune.py: what the proof does not reach is left out. -/
import Derived.Test.YtndkmnjbjlfeaaaGreatPCt0
import Derived.ArgAppend
import Derived.Below
import Derived.BigQuiet
import Derived.Deep.AppendLies
import Derived.Deep.CutBlock
import Derived.Deep.DeepCutAuto
import Derived.Deep.Draws
import Derived.Deep.LoopGhost
import Derived.Deep.OwnRows
import Derived.Deep.QuietTactic
import Derived.KernelRfl
import Derived.Laws.BytesArg
import Derived.Laws.IdiomCopy
import Derived.Laws.MakeOwn
import Derived.Laws.OwnMore
import Derived.Laws.Rows
import Derived.Laws.Slices
import Derived.Lib.AppendStr
import Derived.Lib.ConvBytes
import Derived.Maps.AppendAt
import Derived.OwnWalk
import Derived.RowKit3
import Derived.Tactics
import Derived.WalkKit
import Derived.WideLaws
section
set_option linter.unusedVariables false
set_option linter.unusedSimpArgs false
namespace Go.Proofs.YtndkmnjbjlfeaaaGreatW.PrintWords
open Go.RowKit
structure aa (p:Prop):Prop where mk::(out:p)
structure au (w w':World):Prop where mk::(out: ∃n,w'=w.drewN n)
theorem au.refl(w:World):au w w:=⟨⟨0,rfl⟩⟩
theorem au.step{w w':World}(h:au w w')(n:Nat):au w (w'.drewN n):=by
 obtain⟨m,rfl⟩:=h
 exact⟨⟨m+n,World.drewN_drewN ..⟩⟩
theorem au.grown{w w':World}(h:au w w'):Grown w w':=by
 obtain⟨n,rfl⟩:=h
 induction n with
 |zero=>exact Grown.refl _
 |succ n ih=>rw[←World.drew_drewN];exact Grown.drew ih
theorem au.below{w w':World}(h:au w w'):Below w.heap.size w w':=by
 obtain⟨n,rfl⟩:=h
 induction n with
 |zero=>exact Below.refl _ _
 |succ n ih=>rw[←World.drew_drewN];exact ih.drew
def rd(xs:List Int)(i:Int):Int:=xs.getD i.toNat 0
theorem aQ{w W:World}(h:Below w.heap.size w W)(o:Obj):Below w.heap.size w (W.alloc o):=h.alloc h.size o
theorem ki{B:Nat}{w W:World}(h:Below B w W):Below B w W.drew:=⟨h.os,h.tape,h.output,h.size,h.block⟩
theorem ay{B:Nat}{w W:World}(h:Below B w W)(n:Nat):Below B w (W.drewN n):=⟨h.os,h.tape,h.output,h.size,h.block⟩
theorem qY{B:Nat}{w w1 w2:World}(h:Below B w w1)(hB:B≤w1.heap.size)(k:Below w1.heap.size w1 w2):Below B w w2:=
 h.trans ⟨k.os,k.tape,k.output,k.size,fun i hi=>k.block i (Nat.lt_of_lt_of_le hi hB)⟩
theorem mJ{w w1:World}(h:Below w.heap.size w w1)(row:Option Nat):w.grownBy w1 row:=⟨h.os,h.tape,h.output,h.size,fun i hi _=>h.block i hi⟩
theorem iC{w w1:World}(h:Below w.heap.size w w1){a:Addr}{v:Value}(hc:w.cell? a=some v):w1.cell? a=some v:=(h.cell (World.block_lt_of_cell? w a hc)).trans hc
theorem add_plain(g j:Nat):(⟨g,0,none⟩:Addr).add j=⟨g,j,none⟩:=by unfold Addr.add;split<;>simp_all
def eG(w:World)(k:IntKind)(A:Option Addr)(n:Nat)(xs:List Int):Prop:=
 xs.length=n∧n≤9223372036854775807∧(0<n→ ∃ad,A=some ad∧ ∀j,j<n→w.cell? (ad.add j)=some (.int k (xs.getD j 0)))
theorem eG.at_{w:World}{k:IntKind}{A:Option Addr}{n:Nat}{xs:List Int}(h:eG w k A n xs)(i:Int)(h0:0≤i)(h1:i<n): ∃ad,A=some ad∧w.cell? (ad.add i.toNat)=some (.int k (rd xs i)):=by
 obtain⟨ad,e,hc⟩:=h.2.2 (by omega)
 exact⟨ad,e,hc _ (by omega)⟩
theorem eG.below{w w1:World}{k:IntKind}{A:Option Addr}{n:Nat}{xs:List Int}(h:eG w k A n xs)(hb:Below w.heap.size w w1):eG w1 k A n xs:=
 ⟨h.1,h.2.1,fun hn=>by
  obtain⟨ad,e,hc⟩:=h.2.2 hn
  exact⟨ad,e,fun j hj=>iC hb (hc j hj)⟩⟩
theorem wY(W:World)(base:Nat)(e:TypeId)(size:Nat):W.ownsRow base e size (.slice none 0 0) 0 []:=⟨by simp, .inl ⟨rfl,rfl⟩⟩
theorem kS{w:World}{base:Nat}{e:TypeId}{size n:Nat}{v:Value}{xs:List Value}(h:w.ownsRow base e size v n xs)(k:Nat)(hk:v.ownBlock=some k):base≤k:=by
 rcases h.2 with⟨rfl,_⟩|⟨g,cap,cur,rfl,hb,_⟩
 ·simp[Value.ownBlock] at hk
 ·have:g=k:=by simpa[Value.ownBlock] using hk
  omega
theorem vp{w:World}{base:Nat}{e:TypeId}{size n:Nat}{v:Value}{xs:List Value}(h:w.ownsRow base e size v n xs)(k:Nat)(hk:v.ownBlock=some k):k<w.heap.size:=by
 rcases h.2 with⟨rfl,_⟩|⟨g,cap,cur,rfl,hb,hh,_⟩
 ·simp[Value.ownBlock] at hk
 ·have:g=k:=by simpa[Value.ownBlock] using hk
  subst this
  exact(Array.getElem?_eq_some_iff.1 hh).1
theorem oC{w w1:World}{base:Nat}{e:TypeId}{size n:Nat}{v:Value}{xs:List Value}(h:w.ownsRow base e size v n xs)(hb:Below w.heap.size w w1):w1.ownsRow base e size v n xs:=
 h.kept (mJ hb none) (by cases v.ownBlock<;>simp)
theorem tU{w w1:World}{base:Nat}{e:TypeId}{size n:Nat}{v:Value}{xs:List Value}(h:w.ownsRow base e size v n xs){row:Option Nat}(hg:w.grownBy w1 row)(hne:v.ownBlock=none∨v.ownBlock≠row):w1.ownsRow base e size v n xs:=h.kept hg hne
section
variable {P:Program} {ops:Array Oper} {rest:List Oper} {o:Oper} {a:Act} {Q:Exit→Act→World→Prop}
end
section
variable {P:Program}
end
section
variable {P:Program} {ops:Array Oper} {rest:List Oper} {o:Oper} {a:Act} {Q:Exit→Act→World→Prop}
end
def bytesOf(s:ByteArray):List Int:=s.data.toList.map fun b=>(b.toNat:Int)
theorem eG.vT{w:World}{k:IntKind}{A:Option Addr}{n:Nat}{xs:List Int}(h:eG w k A n xs)(i:Nat)(hi:i≤n):eG w k A i (xs.take i):=by
 refine⟨by rw[List.length_take,h.1];omega,by have:=h.2.1;omega,fun hp=>?_⟩
 obtain⟨ad,e,hc⟩:=h.2.2 (by omega)
 refine⟨ad,e,fun j hj=>?_⟩
 rw[hc j (by omega)]
 simp[List.getD_eq_getElem?_getD,hj]
def cW{α:Type}(a b:Option α):Prop:= ∀r,a=some r→b=some r
theorem cW.refl{α:Type}(a:Option α):cW a a:=fun _ h=>h
theorem cW.none{α:Type}(b:Option α):cW Option.none b:=fun _ h=>by cases h
theorem cW.trans{α:Type}{a b c:Option α}(h:cW a b)(k:cW b c):cW a c:=fun r hr=>k r (h r hr)
theorem cW.ite{α:Type}{c:Prop} [Decidable c]{a a' b b':Option α}(h:cW a a')(k:cW b b'):cW (if c then a else b) (if c then a' else b'):=by
 split
 ·exact h
 ·exact k
theorem cW.bind{α β:Type}{a a':Option α}{f f':α→Option β}(h:cW a a')(k: ∀x,cW (f x) (f' x)):cW (a.bind f) (a'.bind f'):=by
 intro r hr
 obtain⟨x,hx,hf⟩:=Option.bind_eq_some_iff.1 hr
 exact Option.bind_eq_some_iff.2 ⟨x,h x hx,k x r hf⟩
theorem cW.map{α β:Type}{a a':Option α}(f:α→β)(h:cW a a'):cW (a.map f) (a'.map f):=by
 intro r hr
 obtain⟨x,hx,hf⟩:=Option.map_eq_some_iff.1 hr
 exact Option.map_eq_some_iff.2 ⟨x,h x hx,hf⟩
theorem lW{α:Type}{g:Nat→Option α}(h: ∀k,cW (g k) (g (k+1)))(k:Nat): ∀j,cW (g k) (g (k+j))
 |0=>cW.refl _
 |j+1=>(lW h k j).trans (h (k+j))
theorem sY{α:Type}{g:Nat→Option α}(h: ∀k,cW (g k) (g (k+1))){k k':Nat}(hk:k≤k'){r:α}(hr:g k=some r):g k'=some r:=by
 have:=lW h k (k'-k) r hr
 rwa[Nat.add_sub_cancel' hk] at this
def cI{α:Type}(R:α→List Value→Prop)(size:Nat)(ps:List α)(cs:List Value):Prop:=
 cs.length=ps.length*size∧ ∀j p,ps[j]?=some p→R p ((cs.drop (j*size)).take size)
theorem cI.none{α:Type}(R:α→List Value→Prop)(size:Nat):cI R size [] []:=⟨by simp,fun j p h=>by simp at h⟩
theorem cI.snoc{α:Type}{R:α→List Value→Prop}{size:Nat}{ps:List α}{cs c:List Value}{p:α}(h:cI R size ps cs)(hp:R p c)(hc:c.length=size):cI R size (ps++[p]) (cs++c):=by
 refine⟨by rw[List.length_append,h.1,hc,List.length_append,List.length_singleton,Nat.add_mul,Nat.one_mul],fun j q hq=>?_⟩
 rcases Nat.lt_or_ge j ps.length with hj|hj
 ·rw[List.getElem?_append_left hj] at hq
  have h1:j*size+size≤cs.length:=by rw[h.1,←Nat.succ_mul];exact Nat.mul_le_mul_right _ hj
  have h2:=h.2 j q hq
  rw[List.drop_append_of_le_length (by omega),List.take_append_of_le_length (by rw[List.length_drop];omega)]
  exact h2
 ·have hj':j=ps.length:=by
   have:=(List.getElem?_eq_some_iff.1 hq).1
   rw[List.length_append,List.length_singleton] at this
   omega
  subst hj'
  have hq':p=q:=by simpa using hq
  subst hq'
  rw[←h.1,List.drop_left,←hc,List.take_length]
  exact hp
theorem cI.j9{α:Type}{R R':α→List Value→Prop}{size:Nat}{ps:List α}{cs:List Value}(h:cI R size ps cs)(hR: ∀p c,R p c→R' p c):cI R' size ps cs:=⟨h.1,fun j p hj=>hR _ _ (h.2 j p hj)⟩
def ey{α:Type}(R:α→List Value→Prop)(size:Nat)(w:World)(A:Option Addr)(n:Nat)(ps:List α):Prop:=
 ps.length=n∧n≤9223372036854775807∧(0<n→ ∃ad,A=some ad∧ ∀j p,ps[j]?=some p→ ∃c,c.length=size∧R p c∧ ∀i u,c[i]?=some u→w.cell? (ad.add (j*size+i))=some u)
theorem ey.AO{α:Type}{R:α→List Value→Prop}{size:Nat}{w:World}{A:Option Addr}{n:Nat}{ps:List α}(h:ey R size w A n ps)(d:α)(i:Int)(h0:0≤i)(h1:i<n):
  ∃ad c,A=some ad∧c.length=size∧R (ps.getD i.toNat d) c∧ ∀j u,c[j]?=some u→w.cell? (ad.add (i.toNat*size+j))=some u:=by
 obtain⟨ad,e,hc⟩:=h.2.2 (by omega)
 have hl:i.toNat<ps.length:=by have:=h.1;omega
 obtain⟨c,hs,hr,hcell⟩:=hc i.toNat _ (List.getElem?_eq_getElem hl)
 refine⟨ad,c,e,hs,?_,hcell⟩
 rw[List.getD_eq_getElem?_getD,List.getElem?_eq_getElem hl]
 exact hr
theorem ey.j9{α:Type}{R R':α→List Value→Prop}{size:Nat}{w w1:World}{A:Option Addr}{n:Nat}{ps:List α}(h:ey R size w A n ps)(hb:Below w.heap.size w w1)(hR: ∀p c,R p c→R' p c):ey R' size w1 A n ps:=
 ⟨h.1,h.2.1,fun hn=>by
  obtain⟨ad,e,hc⟩:=h.2.2 hn
  refine⟨ad,e,fun j p hj=>?_⟩
  obtain⟨c,hs,hr,hcell⟩:=hc j p hj
  exact⟨c,hs,hR _ _ hr,fun i u hu=>iC hb (hcell i u hu)⟩⟩
theorem nE{α:Type}{R:α→List Value→Prop}{w:World}{base n size:Nat}{e:TypeId}{v:Value}{ps:List α}{cs:List Value}(h:w.ownsRow base e size v n cs)(hR:cI R size ps cs)(hn:ps.length=n):
  ∃A c,v= .slice A n c∧ey R size w A n ps:=by
 rcases Nat.eq_zero_or_pos n with h0|h0
 ·rcases h.2 with⟨rfl,rfl⟩|⟨g,cap,cur,rfl,_⟩
  ·exact⟨none,0,rfl,hn,by omega,fun hp=>absurd hp (by omega)⟩
  ·exact⟨_,cap,rfl,hn,by omega,fun hp=>absurd hp (by omega)⟩
 ·obtain⟨g,cap,rfl,_,_⟩:=h.form h0
  have hm:n≤9223372036854775807:=by
   rcases h.2 with⟨_,h1⟩|⟨g',cap',cur,he,_,_,h1,h2,_⟩
   ·omega
   ·simp only[maxLen] at h2
    omega
  refine⟨_,cap,rfl,hn,hm,fun _=>⟨_,rfl,fun j p hj=>⟨(cs.drop (j*size)).take size,?_,hR.2 j p hj,fun i u hu=>?_⟩⟩⟩
  ·have hjl:=(List.getElem?_eq_some_iff.1 hj).1
   have h1:j*size+size≤cs.length:=by rw[hR.1,←Nat.succ_mul];exact Nat.mul_le_mul_right _ hjl
   rw[List.length_take,List.length_drop]
   omega
  ·refine h.cells (g:=g) rfl _ u ?_
   rw[List.getElem?_take] at hu
   split at hu
   ·rw[List.getElem?_drop] at hu
    exact hu
   ·cases hu
theorem gW(ad:Addr)(m j:Nat)(hj:0<j):ad.add (m+j)=⟨(ad.add m).block,(ad.add m).off+j,none⟩:=by
 unfold Addr.add
 by_cases hm:m=0
 ·subst hm
  simp[Nat.ne_of_gt hj]
 ·simp[hm,Nat.add_assoc]
section
variable {P:Program} {ops:Array Oper} {rest:List Oper} {o:Oper} {a:Act} {Q:Exit→Act→World→Prop}
theorem ia{w0 W:World}(base:Nat)(hgd:o.guard=none)(s x:Operand)(t e:TypeId)(z:Value)(size bytes:Nat)
  (ho:o.op= .call {callee:= .builtin .append,args:= #[s,x],argTypes:= #[t,t]})
  (ht:P.underlying t=some (.slice e)) (hinfo:(P.info? e).map (fun i=>(i.zero,i.size,i.bytes))=some (some z,size,bytes)) (hz:z.cells.size=size) (hs0:0<size) (hb0:0<bytes)
  (v:Value) (n:Nat) (xs ys:List Value) (hs:a.eval s=v) (hx:a.eval x= .slice (some ⟨W.heap.size,0,none⟩) 1 1) (hys:ys.length=size) (h1: ∀u∈ys,u.oneCell'=true)
  (HO:W.ownsRow base e size v n xs) (HB:Below base w0 W) (hbase:base≤W.heap.size) (hl:(n+1)*bytes≤140737488355328)
  (h: ∀v1 w1,w1.ownsRow base e size v1 (n+1) (xs++ys)→Below base w0 w1→W.grownBy w1 v.ownBlock→(v1.ownBlock=v.ownBlock∨ ∃b,v1.ownBlock=some b∧W.heap.size≤b)→wpList P ops Q rest (a.put o.dst v1) w1):
  wpList P ops Q (o::rest) a (W.alloc (.cells ys.toArray e)):=by
 obtain⟨i0,hi,hzz⟩:=Option.map_eq_some_iff.1 hinfo
 simp only[Prod.mk.injEq] at hzz
 obtain⟨hz0,hz1,hz2⟩:=hzz
 have hlen:n+1≤140737488355328:=Nat.le_trans (Nat.le_mul_of_pos_right _ hb0) hl
 refine wpList_append_own_at (W.alloc (.cells ys.toArray e)) hgd s x t ho base e i0 z size bytes ht hi hz0 hz1 hz2 hz hs0 v n xs hs (HO.alloc _) ⟨W.heap.size,0,none⟩ 1 1 ys hx (by rw[hys];simp)
  (by simpa using World.news_of_block (cs:=ys.toArray) (t:=e) (fr:=(0,0)) (heap_alloc_new W (.cells ys.toArray e))) h1 (by simp only[maxLen];omega) hl (by simp;omega) ?_
 intro v1 w1 hown hg _ hat
 refine h v1 w1 hown ((HB.alloc hbase _).grown hg (by simp;omega) (kS HO)) (World.grownBy.trans (World.grownBy_alloc W _ _) hg) ?_
 rcases hat with hat|hat
 ·exact .inl hat
 ·exact .inr ⟨_,hat,by simp⟩
end
theorem zt{w:World}{base:Nat}{e t:TypeId}{size n g:Nat}{v:Value}{xs:List Value}{cs:Array Value}(h:w.ownsRow base e size v n xs)(hg:w.heap[g]?=some (.cells cs t (0,0)))(hne:e≠t):some g≠v.ownBlock:=by
 rcases h.2 with⟨rfl,_⟩|⟨g',cap,cur,rfl,_,hh,_⟩
 ·simp[Value.ownBlock]
 ·intro he
  have:g=g':=by simpa[Value.ownBlock] using he
  subst this
  rw[hg] at hh
  injection hh with hh
  injection hh with _ ht
  exact hne ht.symm
theorem xe{w:World}{g:Nat}{t:TypeId}{cs:Array Value}(h:w.heap[g]?=some (.cells cs t (0,0)))(i:Nat)(u:Value):(w.setCell ⟨g,i,none⟩ u).heap[g]?=some (.cells (cs.setIfInBounds i u) t (0,0)):=by
 simp[World.setCell,Array.getElem?_modify,h]
theorem dx{w:World}{g:Nat}{t:TypeId}{cs:Array Value}(h:w.heap[g]?=some (.cells cs t (0,0))){p:Addr}(hp:g≠p.block)(u:Value):(w.setCell p u).heap[g]?=some (.cells cs t (0,0)):=(Below.heap_setCell w p u g hp).trans h
theorem de{w:World}{g:Nat}{o:Obj}(h:w.heap[g]?=some o):g<w.heap.size:=(Array.getElem?_eq_some_iff.1 h).1
theorem aj{w:World}{g:Nat}{t:TypeId}{cs:Array Value}(h:w.heap[g]?=some (.cells cs t (0,0)))(i:Nat):w.cell? ⟨g,i,none⟩=cs[i]?:=cell_of_row w g i cs t (0,0) h
theorem ab{w:World}{g:Nat}{t:TypeId}{cs:Array Value}(h:w.heap[g]?=some (.cells cs t (0,0)))(i:Nat):w.frozen? ⟨g,i,none⟩=false:=by simp[World.frozen?,h]
theorem jY{w w1:World}{g:Nat}{o:Obj}{row:Option Nat}(h:w.heap[g]?=some o)(hg:w.grownBy w1 row)(hne:some g≠row):w1.heap[g]?=some o:=(hg.block g (de h) hne).trans h
def ff(w w':World)(g:Nat)(row:Option Nat):Prop:=w.heap.size≤w'.heap.size∧ ∀i,i<w.heap.size→i≠g→some i≠row→w'.heap[i]?=w.heap[i]?
theorem ff.refl(w:World)(g:Nat)(row:Option Nat):ff w w g row:=⟨Nat.le_refl _,fun _ _ _ _=>rfl⟩
theorem ff.kO{w w1:World}{row:Option Nat}(h:w.grownBy w1 row)(g:Nat):ff w w1 g row:=⟨h.size,fun i hi _ hr=>h.block i hi hr⟩
theorem ff.qk{w w1:World}(h:Below w.heap.size w w1)(g:Nat)(row:Option Nat):ff w w1 g row:=⟨h.size,fun i hi _ _=>h.block i hi⟩
theorem ff.trans{w w1 w2:World}{g:Nat}{row row1:Option Nat}(h:ff w w1 g row)(k:ff w1 w2 g row1)(hr:row1=row∨ ∃b,row1=some b∧w.heap.size≤b):ff w w2 g row:=
 ⟨Nat.le_trans h.1 k.1,fun i hi hg hn=>by
  refine(k.2 i (Nat.lt_of_lt_of_le hi h.1) hg ?_).trans (h.2 i hi hg hn)
  rcases hr with rfl|⟨b,rfl,hb⟩
  ·exact hn
  ·intro e
   injection e with e
   omega⟩
theorem ff.Bi{w w1:World}{g g':Nat}{row:Option Nat}{o:Obj}(h:ff w w1 g row)(hb:w.heap[g']?=some o)(hg:g'≠g)(hr:some g'≠row):w1.heap[g']?=some o:=(h.2 g' (de hb) hg hr).trans hb
theorem ff.own{w w1:World}{g:Nat}{row:Option Nat}{base:Nat}{e:TypeId}{size n:Nat}{v:Value}{xs:List Value}(h:ff w w1 g row)(ho:w.ownsRow base e size v n xs)(hg:v.ownBlock≠some g)(hr:v.ownBlock=none∨v.ownBlock≠row):w1.ownsRow base e size v n xs:=by
 obtain⟨h1,h2⟩:=ho
 refine⟨h1,?_⟩
 rcases h2 with h2|⟨b,cap,cur,rfl,hb,hh,r⟩
 ·exact .inl h2
 ·refine .inr ⟨b,cap,cur,rfl,hb,h.Bi hh ?_ ?_,r⟩
  ·intro e
   exact hg (by rw[←e];rfl)
  ·rcases hr with hr|hr
   ·simp[Value.ownBlock] at hr
   ·exact hr
def Ev{α:Type}(g:Nat→Option α)(r:α):Prop:= ∃K,∀k,K≤k→g k=some r
theorem Ev.of{α:Type}{g:Nat→Option α}{r:α}(hg: ∀k,cW (g k) (g (k+1))){k:Nat}(h:g k=some r):Ev g r:=⟨k,fun _ hk=>sY hg hk h⟩
theorem Ev.now{α:Type}(r:α):Ev (fun _=>some r) r:=⟨0,fun _ _=>rfl⟩
theorem Ev.rounds{α:Type}{g:Nat→Option α}{r:α}(h:Ev g r): ∃k,g k=some r:=by
 obtain⟨K,h⟩:=h
 exact⟨K,h K (Nat.le_refl _)⟩
theorem Ev.bind{α β:Type}{g:Nat→Option α}{f:Nat→α→Option β}{a:α}{r:β}(h:Ev g a)(k:Ev (fun n=>f n a) r):Ev (fun n=>(g n).bind (f n)) r:=by
 obtain⟨K,h⟩:=h
 obtain⟨K',k⟩:=k
 refine⟨max K K',fun n hn=>?_⟩
 have h1:=h n (by omega)
 have h2:=k n (by omega)
 simp only[h1,Option.bind_some]
 exact h2
theorem Ev.step{α:Type}{g f:Nat→Option α}{r:α}(h: ∀k,g (k+1)=f k)(k:Ev f r):Ev g r:=by
 obtain⟨K,k⟩:=k
 refine⟨K+1,fun n hn=>?_⟩
 obtain⟨m,rfl⟩: ∃m,n=m+1:=⟨n-1,by omega⟩
 rw[h]
 exact k m (by omega)
theorem Ev.congr{α:Type}{g f:Nat→Option α}{r:α}(h: ∀k,g k=f k)(k:Ev f r):Ev g r:=by
 obtain⟨K,k⟩:=k
 exact⟨K,fun n hn=>(h n).trans (k n hn)⟩
section
variable {P:Program} {ops:Array Oper} {o:Oper} {a:Act} {Q:Exit→Act→World→Prop} {K:Act→World→Prop}
end
theorem rM{w:World}{base base':Nat}{e:TypeId}{size n:Nat}{v:Value}{xs:List Value}(h:w.ownsRow base e size v n xs)(hb:base'≤base):w.ownsRow base' e size v n xs:=by
 obtain⟨h1,h2⟩:=h
 refine⟨h1,?_⟩
 rcases h2 with h2|⟨g,cap,cur,rfl,hg,r⟩
 ·exact .inl h2
 ·exact .inr ⟨g,cap,cur,rfl,Nat.le_trans hb hg,r⟩
section
variable {α:Type} {enc:α→Value} {d:α}
def iD(enc:α→Value)(xs:List α):List Value:=xs.map enc
def uZ(d:α)(xs:List α)(i:Int):α:=xs.getD i.toNat d
theorem lX(xs:List α):(iD enc xs).length=xs.length:=by simp[iD]
theorem vn(xs:List α)(j:Nat)(h:j<xs.length):(iD enc xs)[j]?=some (enc (xs.getD j d)):=by
 simp[iD,List.getElem?_eq_getElem h,List.getD_eq_getElem?_getD]
def eV(enc:α→Value)(d:α)(w:World)(A:Option Addr)(n:Nat)(xs:List α):Prop:=
 xs.length=n∧n≤9223372036854775807∧(0<n→ ∃ad,A=some ad∧ ∀j,j<n→w.cell? (ad.add j)=some (enc (xs.getD j d)))
theorem eV.at_{w:World}{A:Option Addr}{n:Nat}{xs:List α}(h:eV enc d w A n xs)(i:Int)(h0:0≤i)(h1:i<n): ∃ad,A=some ad∧w.cell? (ad.add i.toNat)=some (enc (uZ d xs i)):=by
 obtain⟨ad,e,hc⟩:=h.2.2 (by omega)
 exact⟨ad,e,hc _ (by omega)⟩
theorem eV.below{w w1:World}{A:Option Addr}{n:Nat}{xs:List α}(h:eV enc d w A n xs)(hb:Below w.heap.size w w1):eV enc d w1 A n xs:=
 ⟨h.1,h.2.1,fun hn=>by
  obtain⟨ad,e,hc⟩:=h.2.2 hn
  exact⟨ad,e,fun j hj=>iC hb (hc j hj)⟩⟩
theorem eV.vT{w:World}{A:Option Addr}{n:Nat}{xs:List α}(h:eV enc d w A n xs)(i:Nat)(hi:i≤n):eV enc d w A i (xs.take i):=by
 refine⟨by rw[List.length_take,h.1];omega,by have:=h.2.1;omega,fun hp=>?_⟩
 obtain⟨ad,e,hc⟩:=h.2.2 (by omega)
 refine⟨ad,e,fun j hj=>?_⟩
 rw[hc j (by omega)]
 simp[List.getD_eq_getElem?_getD,hj]
theorem tw{W:World}{base g n cap:Nat}{e:TypeId}{xs:List α}(h:W.ownsRow base e 1 (.slice (some ⟨g,0,none⟩) n cap) n (iD enc xs))(i:Int)(h0:0≤i)(h1:i<n):
  W.cell? ⟨g,i.toNat,none⟩=some (enc (uZ d xs i))∧W.frozen? ⟨g,i.toNat,none⟩=false:=by
 have hl:xs.length=n:=by have:=h.1;simp[iD] at this;exact this
 constructor
 ·have hc:=h.cells (g:=g) rfl i.toNat _ (vn (d:=d) xs i.toNat (by omega))
  rwa[add_plain] at hc
 ·rcases h.2 with⟨h',_⟩|⟨g',cap',cur,h',_,hh,_⟩
  ·cases h'
  ·have:g=g':=by injection h' with h';injection h' with h';injection h' with h'
   subst this
   simp[World.frozen?,hh]
theorem o5{W:World}{base g n cap:Nat}{e:TypeId}{xs:List α}(h:W.ownsRow base e 1 (.slice (some ⟨g,0,none⟩) n cap) n (iD enc xs))(i:Int)(x:α):
  (W.setCell ⟨g,i.toNat,none⟩ (enc x)).ownsRow base e 1 (.slice (some ⟨g,0,none⟩) n cap) n (iD enc (xs.set i.toNat x))∧W.grownBy (W.setCell ⟨g,i.toNat,none⟩ (enc x)) (some g):=by
 have hs:=h.stored i.toNat (enc x)
 have he:(iD enc xs).set i.toNat (enc x)=iD enc (xs.set i.toNat x):=by simp[iD,List.map_set]
 rwa[he] at hs
end
section
variable {α:Type} {P:Program} {ops:Array Oper} {rest:List Oper} {o:Oper} {a:Act} {Q:Exit→Act→World→Prop}
end
theorem cC{w:World}{g:Nat}{o:Obj}(h:w.heap[g]?=some o)(o':Obj):(w.alloc o').heap[g]?=some o:=(Below.heap_alloc w o' g (de h)).trans h
theorem bG{w:World}{g:Nat}{o:Obj}(h:w.heap[g]?=some o):w.drew.heap[g]?=some o:=h
theorem cB{w:World}{g:Nat}{o:Obj}(h:w.heap[g]?=some o)(n:Nat):(w.drewN n).heap[g]?=some o:=h
theorem aU{w w1:World}{g:Nat}{o:Obj}(h:w.heap[g]?=some o)(hb:Below w.heap.size w w1):w1.heap[g]?=some o:=(hb.block g (de h)).trans h
theorem gR(w:World)(o:Obj):(w.alloc o).heap[w.heap.size]?=some o:=heap_alloc_new w o
section
variable {P:Program}
theorem kk{fn:Func}{p u:Tmp}{ty:TypeId}(h:fn.results= #[.cell p ty, .tmp u])(tmps:Array Value)(w:World)(g:Nat)(t:TypeId)(cs:Array Value)(fr:Nat×Nat)(d:TypeDesc)
  (hp:tmps.getD p undef= .pointer (some ⟨g,0,none⟩)) (hg:w.heap[g]?=some (.cells cs t fr))
  (hu:P.underlying ty=some d) (hd:(match d with| .struct _| .array _ _=>true|_=>false)=true) (hi:(P.info? ty).map (·.size)=some cs.size):
  (results fn tmps).run P w= .ok (.tuple #[.agg cs,tmps.getD u undef]) w:=by
 have hp':tmps[p]?.getD undef= .pointer (some ⟨g,0,none⟩):=by simpa using hp
 simp[results,h,hp',asAddr,run_loadVar_row w g t ty cs fr d hg hu hd hi]
end
theorem zg{w:World}{base n m c size:Nat}{e:TypeId}{A:Option Addr}{xs:List Value}(h:w.ownsRow base e size (.slice A m c) n xs):m≤c:=by
 rcases h.2 with⟨he,_⟩|⟨g,cap,cur,he,_,_,hnc,_⟩
 ·injection he with _ h2 h3
  omega
 ·injection he with _ h2 h3
  omega
def dN{α:Type}(R:α→List Value→Prop)(e:TypeId)(size:Nat)(w:World)(base:Nat)(v:Value)(ps:List α):Prop:=
 ∃inner,w.ownsRow base e size v ps.length inner∧cI R size ps inner
section
variable {α:Type} {R R':α→List Value→Prop} {e:TypeId} {size:Nat} {w w1:World} {base:Nat} {v:Value} {ps:List α}
theorem dN.none_(R:α→List Value→Prop)(e:TypeId)(size:Nat)(w:World)(base:Nat):dN R e size w base (.slice none 0 0) []:=⟨[],wY _ _ _ _,cI.none _ _⟩
theorem dN.j9(h:dN R e size w base v ps)(hR: ∀p c,R p c→R' p c):dN R' e size w base v ps:=by
 obtain⟨inner,ho,hr⟩:=h
 exact⟨inner,ho,hr.j9 hR⟩
theorem dN.below(h:dN R e size w base v ps)(hb:Below w.heap.size w w1):dN R e size w1 base v ps:=by
 obtain⟨inner,ho,hr⟩:=h
 exact⟨inner,oC ho hb,hr⟩
theorem dN.other(h:dN R e size w base v ps){row:Option Nat}(hg:w.grownBy w1 row)(hne:v.ownBlock=none∨v.ownBlock≠row):dN R e size w1 base v ps:=by
 obtain⟨inner,ho,hr⟩:=h
 exact⟨inner,tU ho hg hne,hr⟩
theorem dN.reads(h:dN R e size w base v ps): ∃A c,v= .slice A ps.length c∧ps.length≤c∧ey R size w A ps.length ps:=by
 obtain⟨inner,ho,hr⟩:=h
 obtain⟨A,c,rfl,hrow⟩:=nE ho hr rfl
 exact⟨A,c,rfl,zg ho,hrow⟩
theorem dN.wQ(h:dN R e size w base v ps){g:Nat}{t:TypeId}{cells:Array Value}(hb:w.heap[g]?=some (.cells cells t (0,0)))(ht:e≠t):some g≠v.ownBlock:=by
 obtain⟨inner,ho,hr⟩:=h
 exact zt ho hb ht
theorem dN.lit(W:World)(base:Nat){inner:List Value}(hr:cI R size ps inner)(hb:base≤W.heap.size)(hm:ps.length≤9223372036854775807):
  dN R e size (W.alloc (.cells inner.toArray e)) base (.slice (some ⟨W.heap.size,0,none⟩) ps.length ps.length) ps:=by
 have h:=World.ownsRow_lit (base:=base) (e:=e) (size:=size) W inner.toArray ps.length hb (by simpa[maxLen] using hm) (by simpa using hr.1)
 exact⟨inner,by simpa using h,hr⟩
end
section
variable {P:Program} {ops:Array Oper} {rest:List Oper} {o:Oper} {a:Act} {Q:Exit→Act→World→Prop} {α:Type} {R:α→List Value→Prop}
theorem dN.append{w0 W:World}(base:Nat)(hgd:o.guard=none)(s x:Operand)(t e:TypeId)(z:Value)(size bytes:Nat)
  (ho:o.op= .call {callee:= .builtin .append,args:= #[s,x],argTypes:= #[t,t]})
  (ht:P.underlying t=some (.slice e)) (hinfo:(P.info? e).map (fun i=>(i.zero,i.size,i.bytes))=some (some z,size,bytes)) (hz:z.cells.size=size) (hs0:0<size) (hb0:0<bytes)
  (v:Value) (ps:List α) (p:α) (cs:List Value) (hs:a.eval s=v) (hx:a.eval x= .slice (some ⟨W.heap.size,0,none⟩) 1 1) (hp:R p cs) (hcs:cs.length=size) (h1: ∀u∈cs,u.oneCell'=true)
  (HO:dN R e size W base v ps) (HB:Below base w0 W) (hbase:base≤W.heap.size) (hl:(ps.length+1)*bytes≤140737488355328)
  (h: ∀v1 w1,dN R e size w1 base v1 (ps++[p])→Below base w0 w1→W.grownBy w1 v.ownBlock→(v1.ownBlock=v.ownBlock∨ ∃b,v1.ownBlock=some b∧W.heap.size≤b)→wpList P ops Q rest (a.put o.dst v1) w1):
  wpList P ops Q (o::rest) a (W.alloc (.cells cs.toArray e)):=by
 obtain⟨inner,hown,hr⟩:=HO
 refine ia base hgd s x t e z size bytes ho ht hinfo hz hs0 hb0 v ps.length inner cs hs hx hcs h1 hown HB hbase hl ?_
 intro v1 w1 hown1 hb1 hg1 hat1
 exact h v1 w1 ⟨inner++cs,by rw[List.length_append,List.length_singleton];exact hown1,hr.snoc hp hcs⟩ hb1 hg1 hat1
end
section
variable {P:Program} {ops:Array Oper} {o:Oper} {a:Act} {Q:Exit→Act→World→Prop} {K:Act→World→Prop} {α:Type} {R:α→List Value→Prop}
end
theorem ey.yX{α:Type}{R:α→List Value→Prop}{size:Nat}{w:World}{ad:Addr}{n:Nat}{ps:List α}(h:ey R size w (some ad) n ps):
  ∃inner,cI R size ps inner∧ ∀j u,inner[j]?=some u→w.cell? (ad.add j)=some u:=by
 have key: ∀m,m≤ps.length→ ∃inner,cI R size (ps.take m) inner∧ ∀j u,inner[j]?=some u→w.cell? (ad.add j)=some u:=by
  intro m
  induction m with
  |zero=>exact fun _=>⟨[],cI.none _ _,fun j u hu=>by simp at hu⟩
  |succ m ih=>
   intro hm
   obtain⟨inner,hr,hc⟩:=ih (by omega)
   obtain⟨ad',he,hcell⟩:=h.2.2 (by have:=h.1;omega)
   injection he with he
   subst he
   obtain⟨c,hcl,hp,hcc⟩:=hcell m _ (List.getElem?_eq_getElem (show m<ps.length by omega))
   refine⟨inner++c,?_,fun j u hu=>?_⟩
   ·rw[List.take_succ_eq_append_getElem (show m<ps.length by omega)]
    exact hr.snoc hp hcl
   ·have hil:inner.length=m*size:=by rw[hr.1,List.length_take,Nat.min_eq_left (by omega)]
    rcases Nat.lt_or_ge j inner.length with hj|hj
    ·rw[List.getElem?_append_left hj] at hu
     exact hc j u hu
    ·rw[List.getElem?_append_right hj] at hu
     have:=hcc (j-inner.length) u hu
     rwa[hil,Nat.add_sub_cancel' (by omega)] at this
 obtain⟨inner,hr,hc⟩:=key ps.length (Nat.le_refl _)
 rw[List.take_length] at hr
 exact⟨inner,hr,hc⟩
section
variable {α:Type} {P:Program}
end
section
variable {P:Program} {ops:Array Oper} {rest:List Oper} {o:Oper} {a:Act} {Q:Exit→Act→World→Prop}
end
structure Kd (α:Type) where
 sz:Nat
 E:List Nat
 K:World→α→List Value→Prop
 M:World→Nat→(Nat→Prop)→α→List Value→Prop
 K_len: ∀{w x cs},K w x cs→cs.length=sz
 K_one: ∀{w x cs},K w x cs→ ∀u∈cs,u.oneCell'=true
 K_below: ∀{w w1:World} {x cs},Below w.heap.size w w1→K w x cs→K w1 x cs
 K_of_M: ∀{w base ok x cs},M w base ok x cs→K w x cs
 M_mono: ∀{w base ok ok' x cs},(∀k,ok k→ok' k)→M w base ok x cs→M w base ok' x cs
 M_bound: ∀{w:World} {base ok x cs},M w base ok x cs→M w base (fun k=>ok k∧base≤k∧k<w.heap.size∧ ∃q,q∈E∧ ∃cells,w.heap[k]?=some (.cells cells q (0,0))) x cs
 M_move: ∀{w w1:World} {base ok x cs},(∀k,ok k→w1.heap[k]?=w.heap[k]?)→M w base ok x cs→M w1 base ok x cs
 M_lower: ∀{w base base' ok x cs},base'≤base→M w base ok x cs→M w base' ok x cs
theorem uB{w w1:World}{base:Nat}{e:TypeId}{size n:Nat}{v:Value}{xs:List Value}(h:w.ownsRow base e size v n xs)(hm: ∀k,v.ownBlock=some k→w1.heap[k]?=w.heap[k]?):w1.ownsRow base e size v n xs:=by
 obtain⟨h1,h2⟩:=h
 refine⟨h1,?_⟩
 rcases h2 with h2|⟨g,cap,cur,rfl,hg,hh,r⟩
 ·exact .inl h2
 ·exact .inr ⟨g,cap,cur,rfl,hg,(hm g (by simp[Value.ownBlock])).trans hh,r⟩
theorem lp{w:World}{base:Nat}{e:TypeId}{size n:Nat}{v:Value}{xs:List Value}(h:w.ownsRow base e size v n xs)(k:Nat)(hk:v.ownBlock=some k): ∃cells,w.heap[k]?=some (.cells cells e (0,0)):=by
 rcases h.2 with⟨rfl,_⟩|⟨g,cap,cur,rfl,hg,hh,r⟩
 ·simp[Value.ownBlock] at hk
 ·have:g=k:=by simpa[Value.ownBlock] using hk
  subst this
  exact⟨cur,hh⟩
namespace Kd
def C{α:Type}(d:Kd α)(w:World)(A:Option Addr)(n:Nat)(xs:List α):Prop:=ey (d.K w) d.sz w A n xs
def R{α:Type}(d:Kd α)(e:Nat)(w:World)(base:Nat)(ok:Nat→Prop)(v:Value)(xs:List α):Prop:=
 (∀k,v.ownBlock=some k→ok k)∧dN (d.M w base (fun k=>ok k∧some k≠v.ownBlock)) e d.sz w base v xs
section
variable {α:Type} {d:Kd α} {e:Nat} {w w1:World} {base:Nat} {ok ok':Nat→Prop} {v:Value} {xs:List α}
theorem bu{A:Option Addr}{n:Nat}(h:d.C w A n xs)(hb:Below w.heap.size w w1):d.C w1 A n xs:=ey.j9 h hb (fun _ _ hp=>d.K_below hb hp)
theorem fW(d:Kd α)(e:Nat)(w:World)(base:Nat)(ok:Nat→Prop):d.R e w base ok (.slice none 0 0) []:=⟨fun k hk=>by simp[Value.ownBlock] at hk,dN.none_ _ _ _ _ _⟩
theorem bE(h:d.R e w base ok v xs)(hok: ∀k,ok k→ok' k):d.R e w base ok' v xs:=⟨fun k hk=>hok k (h.1 k hk),h.2.j9 (fun _ _ hp=>d.M_mono (fun k hk=>⟨hok k hk.1,hk.2⟩) hp)⟩
theorem eB(h:d.R e w base ok v xs):d.R e w base (fun k=>ok k∧base≤k∧k<w.heap.size∧ ∃q,q∈e::d.E∧ ∃cells,w.heap[k]?=some (.cells cells q (0,0))) v xs:=by
 obtain⟨h0,inner,ho,hr⟩:=h
 refine⟨fun k hk=>?_,inner,ho,hr.j9 (fun _ _ hp=>d.M_mono (fun k hk=>?_) (d.M_bound hp))⟩
 ·obtain⟨cells,hc⟩:=lp ho k hk
  exact⟨h0 k hk,kS ho k hk,vp ho k hk,e,List.mem_cons_self,cells,hc⟩
 ·obtain⟨⟨h1,h2⟩,h3,h4,q,hq,hc⟩:=hk
  exact⟨⟨h1,h3,h4,q,List.mem_cons_of_mem _ hq,hc⟩,h2⟩
theorem kj(h:d.R e w base ok v xs)(hm: ∀k,ok k→w1.heap[k]?=w.heap[k]?):d.R e w1 base ok v xs:=by
 obtain⟨h0,inner,ho,hr⟩:=h
 exact⟨h0,inner,uB ho (fun k hk=>hm k (h0 k hk)),hr.j9 (fun _ _ hp=>d.M_move (fun k hk=>hm k hk.1) hp)⟩
theorem bN{base':Nat}(h:d.R e w base ok v xs)(hb:base'≤base):d.R e w base' ok v xs:=by
 obtain⟨h0,inner,ho,hr⟩:=h
 exact⟨h0,inner,rM ho hb,hr.j9 (fun _ _ hp=>d.M_lower hb hp)⟩
theorem o8(h:d.R e w base ok v xs)(hm: ∀k,ok k→k<w.heap.size→w1.heap[k]?=w.heap[k]?):d.R e w1 base ok v xs:=
 bE (kj (eB h) (fun k hk=>hm k hk.1 hk.2.2.1)) (fun _ hk=>hk.1)
theorem uF{x:α}{cs:List Value}(h:d.M w base ok x cs)(hm: ∀k,ok k→k<w.heap.size→w1.heap[k]?=w.heap[k]?):d.M w1 base ok x cs:=
 d.M_mono (fun _ hk=>hk.1) (d.M_move (fun k hk=>hm k hk.1 hk.2.2.1) (d.M_bound h))
theorem dp(h:d.R e w base ok v xs)(hb:Below w.heap.size w w1):d.R e w1 base ok v xs:=o8 h (fun k _ hk=>hb.block k hk)
theorem yl{x:α}{cs:List Value}(h:d.M w base ok x cs)(hb:Below w.heap.size w w1):d.M w1 base ok x cs:=uF h (fun k _ hk=>hb.block k hk)
theorem mr(h:d.R e w base ok v xs){row:Option Nat}(hg:w.grownBy w1 row)(hok: ∀k,ok k→some k≠row):d.R e w1 base ok v xs:=o8 h (fun k ho hk=>hg.block k hk (hok k ho))
theorem mT(h:d.R e w base ok v xs){p:Addr}(hok: ∀k,ok k→k≠p.block)(u:Value):d.R e (w.setCell p u) base ok v xs:=o8 h (fun k ho _=>Below.heap_setCell w p u k (hok k ho))
theorem oS(h:d.R e w base ok v xs){g t:Nat}{cells:Array Value}(hb:w.heap[g]?=some (.cells cells t (0,0)))(ht: ∀q,q∈e::d.E→q≠t):d.R e w base (fun k=>ok k∧k≠g) v xs:=
 bE (eB h) (fun k hk=>⟨hk.1,by
  obtain⟨_,_,_,q,hq,cells',hc⟩:=hk
  rintro rfl
  rw[hc] at hb
  injection hb with hb
  injection hb with _ hb
  exact ht q hq hb⟩)
theorem mw(h:d.R e w base ok v xs): ∃A c,v= .slice A xs.length c∧xs.length≤c∧d.C w A xs.length xs:=by
 obtain⟨A,c,he,hl,hr⟩:=dN.reads h.2
 exact⟨A,c,he,hl,hr.j9 (Below.refl _ _) (fun _ _ hp=>d.K_of_M hp)⟩
theorem cb(h:d.R e w base ok v xs): ∃A c,v= .slice A xs.length c:=by
 obtain⟨A,c,he,_⟩:=mw h
 exact⟨A,c,he⟩
theorem sr(h:d.R e w base ok v xs): ∃inner,w.ownsRow base e d.sz v xs.length inner:=by
 obtain⟨_,inner,ho,_⟩:=h
 exact⟨inner,ho⟩
theorem ur(h:d.R e w base ok v xs){g t:Nat}{cells:Array Value}(hb:w.heap[g]?=some (.cells cells t (0,0)))(ht:e≠t):some g≠v.ownBlock:=dN.wQ h.2 hb ht
end
def scalar{α:Type}(enc:α→Value)(h1: ∀x,(enc x).oneCell'=true):Kd α where
 sz:=1
 E:=[]
 K:=fun _ x cs=>cs=[enc x]
 M:=fun _ _ _ x cs=>cs=[enc x]
 K_len:=fun h=>by rw[h];rfl
 K_one:=fun h u hu=>by
  rw[h] at hu
  rw[List.mem_singleton.1 hu]
  exact h1 _
 K_below:=fun _ h=>h
 K_of_M:=fun h=>h
 M_mono:=fun _ h=>h
 M_bound:=fun h=>h
 M_move:=fun _ h=>h
 M_lower:=fun _ h=>h
def int(k:IntKind):Kd Int:=scalar (Value.int k) (fun _=>rfl)
def bool:Kd Bool:=scalar Value.bool (fun _=>rfl)
def string:Kd ByteArray:=scalar Value.string (fun _=>rfl)
def slice{α:Type}(e:Nat)(d:Kd α):Kd (List α) where
 sz:=1
 E:=e::d.E
 K:=fun w xs cs=> ∃A c,cs=[.slice A xs.length c]∧xs.length≤c∧d.C w A xs.length xs
 M:=fun w base ok xs cs=> ∃v,cs=[v]∧d.R e w base ok v xs
 K_len:=by
  rintro w x cs ⟨A,c,rfl,_⟩
  rfl
 K_one:=by
  rintro w x cs ⟨A,c,rfl,_⟩ u hu
  rw[List.mem_singleton.1 hu]
  rfl
 K_below:=by
  rintro w w1 x cs hb ⟨A,c,rfl,hl,hr⟩
  exact⟨A,c,rfl,hl,bu hr hb⟩
 K_of_M:=by
  rintro w base ok x cs ⟨v,rfl,h⟩
  obtain⟨A,c,rfl,hl,hr⟩:=mw h
  exact⟨A,c,rfl,hl,hr⟩
 M_mono:=by
  rintro w base ok ok' x cs hok ⟨v,rfl,h⟩
  exact⟨v,rfl,bE h hok⟩
 M_bound:=by
  rintro w base ok x cs ⟨v,rfl,h⟩
  exact⟨v,rfl,eB h⟩
 M_move:=by
  rintro w w1 base ok x cs hm ⟨v,rfl,h⟩
  exact⟨v,rfl,kj h hm⟩
 M_lower:=by
  rintro w base base' ok x cs hb ⟨v,rfl,h⟩
  exact⟨v,rfl,bN h hb⟩
def pair{α β:Type}(a:Kd α)(b:Kd β):Kd (α×β) where
 sz:=a.sz+b.sz
 E:=a.E++b.E
 K:=fun w x cs=> ∃c0 c1,cs=c0++c1∧a.K w x.1 c0∧b.K w x.2 c1
 M:=fun w base ok x cs=> ∃c0 c1,cs=c0++c1∧a.M w base ok x.1 c0∧b.M w base ok x.2 c1
 K_len:=by
  rintro w x cs ⟨c0,c1,rfl,h0,h1⟩
  rw[List.length_append,a.K_len h0,b.K_len h1]
 K_one:=by
  rintro w x cs ⟨c0,c1,rfl,h0,h1⟩ u hu
  rcases List.mem_append.1 hu with hu|hu
  ·exact a.K_one h0 u hu
  ·exact b.K_one h1 u hu
 K_below:=by
  rintro w w1 x cs hb ⟨c0,c1,rfl,h0,h1⟩
  exact⟨c0,c1,rfl,a.K_below hb h0,b.K_below hb h1⟩
 K_of_M:=by
  rintro w base ok x cs ⟨c0,c1,rfl,h0,h1⟩
  exact⟨c0,c1,rfl,a.K_of_M h0,b.K_of_M h1⟩
 M_mono:=by
  rintro w base ok ok' x cs hok ⟨c0,c1,rfl,h0,h1⟩
  exact⟨c0,c1,rfl,a.M_mono hok h0,b.M_mono hok h1⟩
 M_bound:=by
  rintro w base ok x cs ⟨c0,c1,rfl,h0,h1⟩
  refine⟨c0,c1,rfl,a.M_mono ?_ (a.M_bound h0),b.M_mono ?_ (b.M_bound h1)⟩
  ·rintro k ⟨h2,h3,h4,q,hq,hc⟩
   exact⟨h2,h3,h4,q,List.mem_append_left _ hq,hc⟩
  ·rintro k ⟨h2,h3,h4,q,hq,hc⟩
   exact⟨h2,h3,h4,q,List.mem_append_right _ hq,hc⟩
 M_move:=by
  rintro w w1 base ok x cs hm ⟨c0,c1,rfl,h0,h1⟩
  exact⟨c0,c1,rfl,a.M_move hm h0,b.M_move hm h1⟩
 M_lower:=by
  rintro w base base' ok x cs hb ⟨c0,c1,rfl,h0,h1⟩
  exact⟨c0,c1,rfl,a.M_lower hb h0,b.M_lower hb h1⟩
def Ah{α β:Type}(d:Kd α)(f:β→α):Kd β where
 sz:=d.sz
 E:=d.E
 K:=fun w x cs=>d.K w (f x) cs
 M:=fun w base ok x cs=>d.M w base ok (f x) cs
 K_len:=d.K_len
 K_one:=d.K_one
 K_below:=d.K_below
 K_of_M:=d.K_of_M
 M_mono:=d.M_mono
 M_bound:=d.M_bound
 M_move:=d.M_move
 M_lower:=d.M_lower
def bot{α:Type}(sz:Nat)(E:List Nat):Kd α where
 sz:=sz
 E:=E
 K:=fun _ _ _=>False
 M:=fun _ _ _ _ _=>False
 K_len:=fun h=>h.elim
 K_one:=fun h=>h.elim
 K_below:=fun _ h=>h
 K_of_M:=fun h=>h
 M_mono:=fun _ h=>h
 M_bound:=fun h=>h
 M_move:=fun _ h=>h
 M_lower:=fun _ h=>h
def upto{α:Type}(F:Kd α→Kd α)(sz:Nat)(E:List Nat):Nat→Kd α
 |0=>bot sz E
 |n+1=>F (upto F sz E n)
theorem n7{α:Type}{d:Kd α}{w:World}{A:Option Addr}{n:Nat}{xs:List α}(h:d.C w A n xs)(z:α)(i:Int)(h0:0≤i)(h1:i<n):
  ∃ad c,A=some ad∧c.length=d.sz∧d.K w (xs.getD i.toNat z) c∧ ∀j u,c[j]?=some u→w.cell? (ad.add (i.toNat*d.sz+j))=some u:=ey.AO h z i h0 h1
theorem qN{α:Type}{d:Kd α}{e base:Nat}{ok okp:Nat→Prop}{W w1:World}{v v1:Value}{xs:List α}{p:α}{inner cs:List Value}(h0: ∀k,v.ownBlock=some k→ok k)(hr:cI (d.M W base (fun k=>ok k∧some k≠v.ownBlock)) d.sz xs inner)(hp:d.M W base okp p cs)(hokp: ∀k,okp k→ok k∧some k≠v.ownBlock)(hfresh: ∀k,W.heap.size≤k→ok k)
  (hown:w1.ownsRow base e d.sz v1 (xs.length+1) (inner++cs)) (hg:W.grownBy w1 v.ownBlock) (hat:v1.ownBlock=v.ownBlock∨ ∃b,v1.ownBlock=some b∧W.heap.size≤b):d.R e w1 base ok v1 (xs++[p]):=by
 have hne: ∀k,some k≠v.ownBlock→k<W.heap.size→some k≠v1.ownBlock:=by
  intro k hk hlt
  rcases hat with hat|⟨b,hb,hle⟩
  ·rw[hat];exact hk
  ·rw[hb]
   intro he
   injection he with he
   omega
 have step: ∀{q:α} {c:List Value} {o:Nat→Prop},d.M W base o q c→(∀k,o k→ok k∧some k≠v.ownBlock)→d.M w1 base (fun k=>ok k∧some k≠v1.ownBlock) q c:=by
  intro q c o hq ho
  have h1:=d.M_move (w1:=w1) (fun k hk=>hg.block k hk.2.2.1 (ho k hk.1).2) (d.M_bound hq)
  exact d.M_mono (fun k hk=>⟨(ho k hk.1).1,hne k (ho k hk.1).2 hk.2.2.1⟩) h1
 refine⟨fun k hk=>?_,inner++cs,by rw[List.length_append,List.length_singleton];exact hown,?_⟩
 ·rcases hat with hat|⟨b,hb,hle⟩
  ·exact h0 k (hat▸hk)
  ·rw[hb] at hk
   injection hk with hk
   exact hfresh k (by omega)
 ·exact(hr.j9 (fun _ _ hq=>step hq (fun _ hk=>hk))).snoc (step hp hokp) (d.K_len (d.K_of_M hp))
section
variable {P:Program} {ops:Array Oper} {rest:List Oper} {o:Oper} {a:Act} {Q:Exit→Act→World→Prop} {α:Type}
theorem jH(d:Kd α){w0 W:World}(base:Nat)(hgd:o.guard=none)(s x:Operand)(t e:TypeId)(z:Value)(bytes:Nat)
  (ho:o.op= .call {callee:= .builtin .append,args:= #[s,x],argTypes:= #[t,t]})
  (ht:P.underlying t=some (.slice e)) (hinfo:(P.info? e).map (fun i=>(i.zero,i.size,i.bytes))=some (some z,d.sz,bytes)) (hz:z.cells.size=d.sz) (hs0:0<d.sz) (hb0:0<bytes)
  (v:Value) (xs:List α) (p:α) (cs:List Value) (ok okp:Nat→Prop) (hs:a.eval s=v) (hx:a.eval x= .slice (some ⟨W.heap.size,0,none⟩) 1 1) (hp:d.M W base okp p cs) (hokp: ∀k,okp k→ok k∧some k≠v.ownBlock) (hfresh: ∀k,W.heap.size≤k→ok k)
  (HO:d.R e W base ok v xs) (HB:Below base w0 W) (hbase:base≤W.heap.size) (hl:(xs.length+1)*bytes≤140737488355328)
  (h: ∀v1 w1,d.R e w1 base ok v1 (xs++[p])→Below base w0 w1→W.grownBy w1 v.ownBlock→(v1.ownBlock=v.ownBlock∨ ∃b,v1.ownBlock=some b∧W.heap.size≤b)→wpList P ops Q rest (a.put o.dst v1) w1):
  wpList P ops Q (o::rest) a (W.alloc (.cells cs.toArray e)):=by
 obtain⟨h0,inner,hown,hr⟩:=HO
 refine ia base hgd s x t e z d.sz bytes ho ht hinfo hz hs0 hb0 v xs.length inner cs hs hx (d.K_len (d.K_of_M hp)) (d.K_one (d.K_of_M hp)) hown HB hbase hl ?_
 intro v1 w1 hown1 hb1 hg1 hat1
 exact h v1 w1 (qN h0 hr hp hokp hfresh hown1 hg1 hat1) hb1 hg1 hat1
end
section
variable {P:Program} {ops:Array Oper} {o:Oper} {a:Act} {Q:Exit→Act→World→Prop} {Kc:Act→World→Prop} {α:Type}
end
theorem pI{α:Type}{enc:α→Value}(xs:List α):cI (fun(x:α) (cs:List Value)=>cs=[enc x]) 1 xs (iD enc xs):=by
 refine⟨by simp[iD],fun j p hj=>?_⟩
 obtain⟨hl,hp⟩:=List.getElem?_eq_some_iff.1 hj
 have hl':j<(iD enc xs).length:=by rw[lX];exact hl
 rw[Nat.mul_one,List.drop_eq_getElem_cons hl']
 simp[iD,hp]
theorem py{α:Type}{enc:α→Value}{h1: ∀x,(enc x).oneCell'=true}{e:Nat}{w:World}{base:Nat}{ok:Nat→Prop}{v:Value}{xs:List α}(ho:w.ownsRow base e 1 v xs.length (iD enc xs))(hok: ∀k,v.ownBlock=some k→ok k):(scalar enc h1).R e w base ok v xs:=⟨hok,iD enc xs,ho,pI xs⟩
theorem pX{α:Type}{enc:α→Value}{h1: ∀x,(enc x).oneCell'=true}{e:Nat}{w:World}{base:Nat}{ok:Nat→Prop}{v:Value}{xs:List α}(h:(scalar enc h1).R e w base ok v xs):w.ownsRow base e 1 v xs.length (iD enc xs):=by
 obtain⟨_,inner,ho,hr⟩:=h
 have:inner=iD enc xs:=by
  apply List.ext_getElem?
  intro j
  rcases Nat.lt_or_ge j xs.length with hj|hj
  ·have h2:=hr.2 j _ (List.getElem?_eq_getElem hj)
   have hl:j<inner.length:=by have:=hr.1;simp[scalar] at this;omega
   have h3:(inner.drop (j*1)).take 1=[enc xs[j]]:=h2
   rw[Nat.mul_one,List.drop_eq_getElem_cons hl] at h3
   have h4:inner[j]=enc xs[j]:=by
    have h5:=congrArg List.head? h3
    rw[List.take_succ_cons] at h5
    exact Option.some.inj h5
   rw[List.getElem?_eq_getElem hl,h4]
   simp[iD,List.getElem?_eq_getElem hj]
  ·have h3:inner.length=xs.length:=by have:=hr.1;simp[scalar] at this;omega
   rw[List.getElem?_eq_none (by omega),List.getElem?_eq_none (by rw[lX];omega)]
 rw[←this]
 exact ho
theorem rL{α:Type}{enc:α→Value}{d:α}{h1: ∀x,(enc x).oneCell'=true}{w:World}{A:Option Addr}{n:Nat}{xs:List α}(h:(scalar enc h1).C w A n xs):eV enc d w A n xs:=by
 refine⟨h.1,h.2.1,fun hn=>?_⟩
 obtain⟨ad,e,hc⟩:=h.2.2 hn
 refine⟨ad,e,fun j hj=>?_⟩
 have hl:j<xs.length:=by have:=h.1;omega
 obtain⟨c,_,hK,hcell⟩:=hc j _ (List.getElem?_eq_getElem hl)
 have hK':c=[enc xs[j]]:=hK
 subst hK'
 have:=hcell 0 _ rfl
 simpa[scalar,List.getD_eq_getElem?_getD,List.getElem?_eq_getElem hl] using this
end Kd
namespace Kd
structure Bn {α β:Type} (F:Kd α→Kd β):Prop where
 sz: ∀d d':Kd α,d.sz=d'.sz→(F d).sz=(F d').sz
 K: ∀d d':Kd α,d.sz=d'.sz→(∀w x cs,d.K w x cs→d'.K w x cs)→ ∀w x cs,(F d).K w x cs→(F d').K w x cs
 M: ∀d d':Kd α,d.sz=d'.sz→(∀w base ok x cs,d.M w base ok x cs→d'.M w base ok x cs)→ ∀w base ok x cs,(F d).M w base ok x cs→(F d').M w base ok x cs
section
variable {α:Type} {F:Kd α→Kd α} {sz:Nat} {E:List Nat} {hs: ∀n,(upto F sz E n).sz=sz} {hE: ∀n q,q∈(upto F sz E n).E→q∈E}
end
end Kd
namespace Kd
theorem jZ{α:Type}{d:Kd α}{e base:Nat}{ok:Nat→Prop}{W w1:World}{u v v1:Value}{xs:List α}(h:d.R e W base (fun k=>ok k∧some k≠v.ownBlock) u xs)(hg:W.grownBy w1 v.ownBlock)(hat:v1.ownBlock=v.ownBlock∨ ∃b,v1.ownBlock=some b∧W.heap.size≤b):d.R e w1 base (fun k=>ok k∧some k≠v1.ownBlock) u xs:=by
 refine bE (kj (eB h) (fun k hk=>hg.block k hk.2.2.1 hk.1.2)) (fun k hk=>⟨hk.1.1,?_⟩)
 rcases hat with hat|⟨b,hb,hle⟩
 ·rw[hat];exact hk.1.2
 ·rw[hb]
  intro he
  injection he with he
  have:=hk.2.2.1
  omega
end Kd
namespace Kd
section
variable {α β:Type} {d:Kd α} {d':Kd β} {e e':Nat} {w w1 W:World} {base b b':Nat} {ok ok' okv oku:Nat→Prop} {v u:Value} {xs:List α} {ys:List β}
theorem bI(h:d.R e w base ok v xs)(o:Obj):d.R e (w.alloc o) base ok v xs:=dp h (aQ (Below.refl _ _) o)
theorem bM(h:d.R e w base ok v xs):d.R e w.drew base ok v xs:=dp h (ki (Below.refl _ _))
theorem bL(h:d.R e w base ok v xs)(m:Nat):d.R e (w.drewN m) base ok v xs:=dp h (ay (Below.refl _ _) m)
theorem dB{A:Option Addr}{n:Nat}(h:d.C w A n xs)(o:Obj):d.C (w.alloc o) A n xs:=bu h (aQ (Below.refl _ _) o)
theorem eX{A:Option Addr}{n:Nat}(h:d.C w A n xs):d.C w.drew A n xs:=bu h (ki (Below.refl _ _))
theorem dQ{A:Option Addr}{n:Nat}(h:d.C w A n xs)(m:Nat):d.C (w.drewN m) A n xs:=bu h (ay (Below.refl _ _) m)
theorem Ad(d:Kd α)(w:World):d.C w none ([]:List α).length []:=⟨rfl,by simp,fun h=>absurd h (Nat.lt_irrefl 0)⟩
theorem aT{A:Option Addr}{n c:Nat}(h:d.R e w base ok (.slice A n c) xs):n=xs.length∧n≤c∧d.C w A xs.length xs:=by
 obtain⟨A',c',he,hl,hr⟩:=mw h
 injection he with h1 h2 h3
 subst h1
 exact⟨h2,by omega,hr⟩
theorem ik(h:d.R e w base ok v xs): ∀k,v.ownBlock=some k→k<w.heap.size:=by
 obtain⟨inner,ho⟩:=sr h
 exact vp ho
theorem dS(h:d.R e w base ok v xs): ∀k,v.ownBlock=some k→base≤k:=by
 obtain⟨inner,ho⟩:=sr h
 exact kS ho
theorem fY(h:d.R e w base ok v xs)(hp:0<xs.length): ∃g cap,v= .slice (some ⟨g,0,none⟩) xs.length cap∧base≤g∧g<w.heap.size∧ ∃cells,w.heap[g]?=some (.cells cells e (0,0)):=by
 obtain⟨inner,ho⟩:=sr h
 obtain⟨g,cap,he,hb,hl⟩:=ho.form hp
 obtain⟨cells,hc⟩:=lp ho g (by rw[he];simp[Value.ownBlock])
 exact⟨g,cap,he,hb,hl,cells,hc⟩
end
section
variable {w W:World} {A:Option Addr} {n:Nat}
theorem cR{k:IntKind}{xs:List Int}(h:(Kd.int k).C w A n xs)(i:Int)(h0:0≤i)(h1:i<n): ∃ad,A=some ad∧w.cell? (ad.add i.toNat)=some (.int k (rd xs i)):=
 eV.at_ (rL (enc:=Value.int k) (d:=(0:Int)) (h1:=fun _=>rfl) h) i h0 h1
variable {α:Type} {enc:α→Value} {h1: ∀x,(enc x).oneCell'=true} {e base g cap:Nat} {ok:Nat→Prop} {xs:List α}
theorem zj(d:α)(h:(scalar enc h1).R e W base ok (.slice (some ⟨g,0,none⟩) xs.length cap) xs)(i:Int)(h0:0≤i)(hi:i<xs.length):W.cell? ⟨g,i.toNat,none⟩=some (enc (uZ d xs i))∧W.frozen? ⟨g,i.toNat,none⟩=false:=tw (pX h) i h0 hi
theorem yC(h:(scalar enc h1).R e W base ok (.slice (some ⟨g,0,none⟩) xs.length cap) xs)(i:Int)(x:α):(scalar enc h1).R e (W.setCell ⟨g,i.toNat,none⟩ (enc x)) base ok (.slice (some ⟨g,0,none⟩) xs.length cap) (xs.set i.toNat x)∧W.grownBy (W.setCell ⟨g,i.toNat,none⟩ (enc x)) (some g):=by
 obtain⟨ho,hg⟩:=o5 (pX h) i x
 exact⟨py (by rw[List.length_set];exact ho) h.1,hg⟩
end
section
variable {P:Program} {ops:Array Oper} {rest:List Oper} {o:Oper} {a:Act} {Q:Exit→Act→World→Prop}
theorem od{W w1:World}{v:Value}(hgd:o.guard=none)(hrun:(execOp a.eval o).run P W= .ok (.value v) w1)(h:wpList P ops Q rest (a.put o.dst v) w1):wpList P ops Q (o::rest) a W:=by
 refine wpList_plain hgd fun K hK=>?_
 unfold Oper.wp
 rw[hrun]
 exact hK _ _ h
variable {α:Type}
theorem vR(d:Kd α){w0 W:World}(base e:Nat)(hgd:o.guard=none){N:Tmp}(_hd:o.dst=some N){xs:List α}{inner:List Value}{ok okp:Nat→Prop}
  (hrun:(execOp a.eval o).run P W= .ok (.value (.slice (some ⟨W.heap.size,0,none⟩) xs.length xs.length)) (W.alloc (.cells inner.toArray e)))
  (hrep:cI (d.M W base okp) d.sz xs inner) (hok: ∀k,okp k→ok k) (hfresh:ok W.heap.size) (HB:Below base w0 W) (hbase:base≤W.heap.size) (hm:xs.length≤9223372036854775807)
  (h: ∀v1 w1,d.R e w1 base ok v1 xs→Below base w0 w1→W.grownBy w1 none→(∃b,v1.ownBlock=some b∧W.heap.size≤b)→wpList P ops Q rest (a.put o.dst v1) w1):wpList P ops Q (o::rest) a W:=by
 refine od hgd hrun (h _ _ ⟨fun k hk=>?_,inner,?_,?_⟩ (HB.alloc hbase _) (World.grownBy_alloc W _ none) ⟨W.heap.size,by simp[Value.ownBlock],Nat.le_refl _⟩)
 ·have:W.heap.size=k:=by simpa[Value.ownBlock] using hk
  subst this
  exact hfresh
 ·have h2:=World.ownsRow_lit (base:=base) (e:=e) (size:=d.sz) W inner.toArray xs.length hbase (by simpa[maxLen] using hm) (by simpa using hrep.1)
  simpa using h2
 ·refine hrep.j9 (fun p c hp=>d.M_mono (fun k hk=>⟨hok k hk.1,fun he=>?_⟩) (yl (d.M_bound hp) (aQ (Below.refl _ _) _)))
  have h3:k=W.heap.size:=by simpa[Value.ownBlock] using he
  have:=hk.2.2.1
  omega
theorem tQ{α:Type}{R:α→List Value→Prop}{z:Value}{size:Nat}{z0:α}(hz:z.cells.size=size)(hs:0<size)(h0:R z0 z.cells.toList)(m:Nat):cI R size (List.replicate m z0) (madeCells z.cells (m*size)).toList:=by
 refine⟨by simp[size_madeCells],fun j p hj=>?_⟩
 obtain⟨hjl,hp⟩:=List.getElem?_eq_some_iff.1 hj
 have hjm:j<m:=by simpa using hjl
 have hp':z0=p:=by simpa using hp
 subst hp'
 have hle:j*size+size≤m*size:=by rw[←Nat.succ_mul];exact Nat.mul_le_mul_right _ hjm
 have:((madeCells z.cells (m*size)).toList.drop (j*size)).take size=z.cells.toList:=by
  apply List.ext_getElem
  ·simp[size_madeCells,hz]
   omega
  ·intro i h1 h2
   have hi:i<size:=by rw[Array.length_toList,hz] at h2;exact h2
   have hmod:(j*size+i)%size=i:=by
    rw[Nat.mul_comm,Nat.mul_add_mod]
    exact Nat.mod_eq_of_lt hi
   simp[madeCells,hz,hmod]
   rw[getElem!_pos z.cells i (by omega)]
 rw[this]
 exact h0
theorem jc(d:Kd α){w0 W:World}(base e:Nat)(hgd:o.guard=none){N:Tmp}(hd:o.dst=some N)(t:TypeId)(x y:Operand)(ho:o.op= .makeSlice t x y)(n:Int)(hx:a.eval x= .int .i64 n)(hy:a.eval y= .int .i64 n)
  (ht:P.underlying t=some (.slice e)) (z:Value) (bytes:Nat) (hinfo:(P.info? e).map (fun i=>(i.zero,i.size,i.bytes))=some (some z,d.sz,bytes)) (hz:z.cells.size=d.sz) (hs0:0<d.sz) (hb0:0<bytes)
  (z0:α) {ok okp:Nat→Prop} (hzero:d.M W base okp z0 z.cells.toList) (hok: ∀k,okp k→ok k) (hfresh:ok W.heap.size) (h0:0≤n) (hl:n.toNat*bytes≤281474976710656) (HB:Below base w0 W) (hbase:base≤W.heap.size)
  (h: ∀v1 w1,d.R e w1 base ok v1 (List.replicate n.toNat z0)→Below base w0 w1→W.grownBy w1 none→(∃b,v1.ownBlock=some b∧W.heap.size≤b)→wpList P ops Q rest (a.put o.dst v1) w1):wpList P ops Q (o::rest) a W:=by
 obtain⟨m,rfl⟩:=Int.eq_ofNat_of_zero_le h0
 simp only[Int.toNat_natCast] at hl h
 obtain⟨i0,hi,hzz⟩:=Option.map_eq_some_iff.1 hinfo
 simp only[Prod.mk.injEq] at hzz
 obtain⟨hz0,hz1,hz2⟩:=hzz
 have hm:m≤281474976710656:=Nat.le_trans (Nat.le_mul_of_pos_right _ hb0) hl
 have hr:=run_make (P:=P) W t e i0 z ht hi hz0 .i64 .i64 (m:Int) (m:Int) (by omega) (by omega)
  (by
   have h3:((i0.bytes*m:Nat):Int)≤281474976710656:=by rw[hz2,Nat.mul_comm];omega
   rwa[Int.natCast_mul] at h3) (by omega)
 simp only[Int.toNat_natCast] at hr
 rw[hz1] at hr
 refine vR d base e hgd hd (xs:=List.replicate m z0) (inner:=(madeCells z.cells (m*d.sz)).toList) (okp:=okp) (ok:=ok) ?_ (tQ hz hs0 hzero m) hok hfresh HB hbase (by simp;omega) h
 simp[execOp,ho,hx,hy,hr]
end
end Kd
section
variable {P:Program}
theorem qR(t e:TypeId)(kh:IntKind){i:TypeInfo}(ht:P.underlying t=some (.slice e))(hi:P.info? e=some i)(A:Option Addr)(n c:Nat)(j:Int)(h0:0≤j)(hm:j≤n)(hc:n≤c):
  ∀W:World,(Instr.slice t (.slice A n c) none (some (.int kh j)) none).run P W= .ok (.slice A j.toNat c) W:=by
 intro W
 have hel:P.elem t=e:=by simp[Program.elem,ht]
 have hu:P.underlying t=some (.slice (P.elem t)):=by rw[hel];exact ht
 have ha:(A.map fun x=>x.add 0)=A:=by cases A<;>simp[Addr.add]
 rw[run_slice_h W t A n c hu kh j h0 (by omega),hel]
 simp[sizeOf,typeInfo,hi,sliced,Result.andThen,ha]
end
def zZ (w : World) (base : Nat) (e : TypeId) (size : Nat) (v : Value) (n : Nat) (xs : List Value) : Prop :=
  xs.length = n * size ∧
  ((n = 0 ∧ ∃ A, v = .slice A 0 0 ∧ ∀ a, A = some a → base ≤ a.block ∧ ∃ cur, w.heap[a.block]? = some (.cells cur e (0, 0))) ∨
   ∃ g off cap cur, v = .slice (some ⟨g, off * size, none⟩) n cap ∧ base ≤ g ∧ w.heap[g]? = some (.cells cur e (0, 0)) ∧ n ≤ cap ∧ off + cap ≤ maxLen ∧ cur.size = (off + cap) * size ∧ (cur.toList.drop (off * size)).take (n * size) = xs)
section
variable {w w1:World} {base n size:Nat} {e:TypeId} {v:Value} {xs:List Value}
theorem vw(h:w.ownsRow base e size v n xs):zZ w base e size v n xs:=by
 obtain⟨h1,h2⟩:=h
 refine⟨h1,?_⟩
 rcases h2 with⟨rfl,h0⟩|⟨g,cap,cur,rfl,hb,hh,hnc,hcm,hcs,ht⟩
 ·exact .inl ⟨h0,none,rfl,fun a ha=>by cases ha⟩
 ·exact .inr ⟨g,0,cap,cur,by rw[Nat.zero_mul],hb,hh,hnc,by rw[Nat.zero_add];exact hcm,by rw[Nat.zero_add];exact hcs,by rw[Nat.zero_mul,List.drop_zero];exact ht⟩
end
section
variable {P:Program}
end
namespace Kd
def Q{α:Type}(d:Kd α)(e:Nat)(w:World)(base:Nat)(ok:Nat→Prop)(v:Value)(xs:List α):Prop:=
 (∀k,v.ownBlock=some k→ok k)∧ ∃inner,zZ w base e d.sz v xs.length inner∧cI (d.M w base (fun k=>ok k∧some k≠v.ownBlock)) d.sz xs inner
section
variable {α:Type} {d:Kd α} {e:Nat} {w w1 W:World} {base:Nat} {ok ok':Nat→Prop} {v:Value} {xs:List α}
theorem zN(h:d.R e w base ok v xs):d.Q e w base ok v xs:=by
 obtain⟨h0,inner,ho,hr⟩:=h
 exact⟨h0,inner,vw ho,hr⟩
theorem lN(d:Kd α)(e:Nat)(w:World)(base:Nat)(ok:Nat→Prop):d.Q e w base ok (.slice none 0 0) []:=zN (fW d e w base ok)
end
section
variable {P:Program} {ops:Array Oper} {rest:List Oper} {o:Oper} {a:Act} {Q':Exit→Act→World→Prop} {Kc:Act→World→Prop} {α:Type}
end
end Kd
namespace Kd
section
variable {α:Type} {d:Kd α} {e e':Nat} {w w1 W:World} {base:Nat} {ok:Nat→Prop} {u v:Value} {xs:List α}
theorem jX(h:d.R e w base ok v xs): ∀k,v.ownBlock=some k→ ∃cells,w.heap[k]?=some (.cells cells e (0,0)):=by
 obtain⟨inner,ho⟩:=sr h
 exact fun k hk=>lp ho k hk
theorem sl(h:d.R e W base ok u xs)(hty: ∀k,v.ownBlock=some k→ ∃cells,W.heap[k]?=some (.cells cells e' (0,0)))(ht: ∀q,q∈e::d.E→q≠e')(hg:W.grownBy w1 v.ownBlock):d.R e w1 base ok u xs:=by
 refine bE (kj (eB h) (fun k hk=>hg.block k hk.2.2.1 (fun he=>?_))) (fun _ hk=>hk.1)
 obtain⟨_,_,_,q,hq,cells,hc⟩:=hk
 obtain⟨cells',hc'⟩:=hty k he.symm
 rw[hc] at hc'
 injection hc' with hc'
 injection hc' with _ hc'
 exact ht q hq hc'
theorem jw(h:d.R e W base ok u xs)(hty: ∀k,v.ownBlock=some k→ ∃cells,W.heap[k]?=some (.cells cells e' (0,0)))(ht: ∀q,q∈e::d.E→q≠e'):d.R e W base (fun k=>ok k∧some k≠v.ownBlock) u xs:=by
 refine bE (eB h) (fun k hk=>⟨hk.1,fun he=>?_⟩)
 obtain⟨_,_,_,q,hq,cells,hc⟩:=hk
 obtain⟨cells',hc'⟩:=hty k he.symm
 rw[hc] at hc'
 injection hc' with hc'
 injection hc' with _ hc'
 exact ht q hq hc'
theorem dm(hu:d.R e W base ok u xs)(hbase: ∀k,v.ownBlock=some k→W.heap.size≤k)(hb:Below W.heap.size W w1):d.R e w1 base (fun k=>ok k∧some k≠v.ownBlock) u xs:=
 bE (kj (eB hu) (fun k hk=>hb.block k hk.2.2.1)) (fun k hk=>⟨hk.1,fun he=>by have:=hbase k he.symm;have:=hk.2.2.1;omega⟩)
theorem eD(h:d.R e w1 W.heap.size ok v xs)(hlt: ∀k,u.ownBlock=some k→k<W.heap.size):d.R e w1 W.heap.size (fun k=>ok k∧some k≠u.ownBlock) v xs:=
 bE (eB h) (fun k hk=>⟨hk.1,fun he=>by have:=hlt k he.symm;have:=hk.2.1;omega⟩)
end
end Kd
namespace Kd
section
variable {α:Type} {d:Kd α} {e base g n cap:Nat} {ok okp:Nat→Prop} {W:World} {xs:List α}
end
end Kd
namespace Kd
section
variable {α:Type} {F:Kd α→Kd α} {sz:Nat} {E:List Nat} {hs: ∀n,(upto F sz E n).sz=sz} {hE: ∀n q,q∈(upto F sz E n).E→q∈E}
end
end Kd
namespace Kd
theorem pC{α:Type}{R:α→List Value→Prop}{size:Nat}{ps qs:List α}{cs ds:List Value}(h:cI R size ps cs)(h':cI R size qs ds):cI R size (ps++qs) (cs++ds):=by
 refine⟨by rw[List.length_append,List.length_append,h.1,h'.1,Nat.add_mul],fun j p hj=>?_⟩
 rcases Nat.lt_or_ge j ps.length with hlt|hge
 ·rw[List.getElem?_append_left hlt] at hj
  have hle:j*size+size≤cs.length:=by rw[h.1,←Nat.succ_mul];exact Nat.mul_le_mul_right _ hlt
  rw[List.drop_append_of_le_length (by omega),List.take_append_of_le_length (by rw[List.length_drop];omega)]
  exact h.2 j p hj
 ·rw[List.getElem?_append_right hge] at hj
  have h2:=h'.2 (j-ps.length) p hj
  have hle:ps.length*size≤j*size:=Nat.mul_le_mul_right _ hge
  rw[List.drop_append,List.drop_eq_nil_of_le (by rw[h.1];exact hle),List.nil_append,h.1,←Nat.sub_mul]
  exact h2
section
variable {P:Program} {ops:Array Oper} {rest:List Oper} {o:Oper} {a:Act} {Q:Exit→Act→World→Prop} {α:Type}
theorem nN(d:Kd α){Rr:α→List Value→Prop}{w0 W:World}(base:Nat)(hgd:o.guard=none)(s x:Operand)(t e:TypeId)(z:Value)(bytes:Nat)
  (ho:o.op= .call {callee:= .builtin .append,args:= #[s,x],argTypes:= #[t,t]})
  (ht:P.underlying t=some (.slice e)) (hinfo:(P.info? e).map (fun i=>(i.zero,i.size,i.bytes))=some (some z,d.sz,bytes)) (hz:z.cells.size=d.sz) (hs0:0<d.sz) (hb0:0<bytes)
  (v:Value) (xs ys:List α) (A:Option Addr) (m c:Nat) (ok okp:Nat→Prop) (hs:a.eval s=v) (hx:a.eval x= .slice A m c)
  (HO:d.R e W base ok v xs) (HR:ey Rr d.sz W A m ys) (hKM: ∀x cs,Rr x cs→d.M W base okp x cs) (hokp: ∀k,okp k→ok k∧some k≠v.ownBlock) (hfresh: ∀k,W.heap.size≤k→ok k)
  (HB:Below base w0 W) (hbase:base≤W.heap.size) (hl:(xs.length+m)*bytes≤140737488355328)
  (h: ∀v1 w1,d.R e w1 base ok v1 (xs++ys)→Below base w0 w1→W.grownBy w1 v.ownBlock→(v1.ownBlock=v.ownBlock∨ ∃b,v1.ownBlock=some b∧W.heap.size≤b)→wpList P ops Q rest (a.put o.dst v1) w1):
  wpList P ops Q (o::rest) a W:=by
 obtain⟨i0,hi,hzz⟩:=Option.map_eq_some_iff.1 hinfo
 simp only[Prod.mk.injEq] at hzz
 obtain⟨hz0,hz1,hz2⟩:=hzz
 have hm:ys.length=m:=HR.1
 have hlen:xs.length+m≤140737488355328:=Nat.le_trans (Nat.le_mul_of_pos_right _ hb0) hl
 obtain⟨hok,inner,hown,hr⟩:=HO
 have hrun: ∃v1 w1,(Builtin.append_ #[t,t] o.type #[v, .slice A m c]).run P W= .ok v1 w1∧d.R e w1 base ok v1 (xs++ys)∧W.grownBy w1 v.ownBlock∧(v1.ownBlock=v.ownBlock∨ ∃b,v1.ownBlock=some b∧W.heap.size≤b):=by
  rcases A with _|ad
  ·have h0:m=0:=by
    rcases Nat.eq_zero_or_pos m with h0|h0
    ·exact h0
    ·obtain⟨ad,h,_⟩:=HR.2.2 h0
     cases h
   subst h0
   obtain rfl:ys=[]:=List.eq_nil_of_length_eq_zero hm
   refine⟨v,W,?_,by rw[List.append_nil];exact⟨hok,inner,hown,hr⟩,World.grownBy.refl W _, .inl rfl⟩
   rcases hown.2 with⟨rfl,hn⟩|⟨g,cap,cur,rfl,_,_,hnc,_⟩
   ·simp[Builtin.append_,run_underlying ht,sizeOf,typeInfo,hi,Builtin.lenOf,Builtin.firstCells]
   ·simp[Builtin.append_,run_underlying ht,sizeOf,typeInfo,hi,Builtin.lenOf,Builtin.firstCells,hnc,storeCells]
  ·obtain⟨news,hnr,hnc⟩:=ey.yX HR
   have hnM:cI (d.M W base okp) d.sz ys news:=hnr.j9 (fun p c hp=>hKM p c hp)
   have hone: ∀u∈news,u.oneCell'=true:=by
    intro u hu
    obtain⟨q,hq,rfl⟩:=List.mem_iff_getElem.1 hu
    have hql:q/d.sz<ys.length:=by
     rw[Nat.div_lt_iff_lt_mul hs0]
     rw[←hnM.1]
     exact hq
    have hc:=hnM.2 (q/d.sz) _ (List.getElem?_eq_getElem hql)
    refine d.K_one (d.K_of_M hc) _ ?_
    rw[List.mem_iff_getElem?]
    refine⟨q%d.sz,?_⟩
    rw[List.getElem?_take,if_pos (Nat.mod_lt _ hs0),List.getElem?_drop,Nat.mul_comm,Nat.div_add_mod,List.getElem?_eq_getElem hq]
   obtain⟨v1,w1,hrun,h2,hg,_,hat⟩:=run_append_own_at (P:=P) W base t o.type e i0 z d.sz bytes ht hi hz0 hz1 hz2 hz hs0 v xs.length inner hown ad m c news (by rw[hnM.1,hm]) hnc hone (by simp only[maxLen];omega) hl hbase
   have hat':v1.ownBlock=v.ownBlock∨ ∃b,v1.ownBlock=some b∧W.heap.size≤b:=by
    rcases hat with hat|hat
    ·exact .inl hat
    ·exact .inr ⟨_,hat,Nat.le_refl _⟩
   have hne: ∀k,some k≠v.ownBlock→k<W.heap.size→some k≠v1.ownBlock:=by
    intro k hk hlt
    rcases hat' with hat|⟨b,hb,hle⟩
    ·rw[hat];exact hk
    ·rw[hb]
     intro he
     injection he with he
     omega
   have step: ∀{q:α} {c:List Value} {o:Nat→Prop},d.M W base o q c→(∀k,o k→ok k∧some k≠v.ownBlock)→d.M w1 base (fun k=>ok k∧some k≠v1.ownBlock) q c:=by
    intro q c o hq ho
    have h1:=d.M_move (w1:=w1) (fun k hk=>hg.block k hk.2.2.1 (ho k hk.1).2) (d.M_bound hq)
    exact d.M_mono (fun k hk=>⟨(ho k hk.1).1,hne k (ho k hk.1).2 hk.2.2.1⟩) h1
   refine⟨v1,w1,hrun,⟨fun k hk=>?_,inner++news,by rw[List.length_append,hm];exact h2,pC (hr.j9 (fun _ _ hq=>step hq (fun _ hk=>hk))) (hnM.j9 (fun _ _ hq=>step hq hokp))⟩,hg,hat'⟩
   rcases hat' with hat|⟨b,hb,hle⟩
   ·exact hok k (hat▸hk)
   ·rw[hb] at hk
    injection hk with hk
    exact hfresh k (by omega)
 obtain⟨v1,w1,hr1,h1,hg,hat⟩:=hrun
 refine wpList_plain hgd fun K hK=>?_
 unfold Oper.wp execOp
 simp only[ho,resolve,invoke,builtin,Sem.run_bind,Sem.run_pure,Result.andThen_ok,List.map_toArray,List.map_cons,List.map_nil,hs,hx,hr1]
 exact hK _ _ (h v1 w1 h1 (HB.grown hg hbase (kS hown)) hg hat)
end
end Kd
namespace Kd
section
variable {P:Program} {ops:Array Oper} {rest:List Oper} {o:Oper} {a:Act} {Q:Exit→Act→World→Prop} {α:Type}
end
end Kd
theorem add_add(a:Addr)(i j:Nat):(a.add i).add j=a.add (i+j):=by
 unfold Addr.add
 by_cases h1:i=0<;>by_cases h2:j=0<;>simp[h1,h2,Nat.add_assoc]
namespace Kd
section
variable {α:Type} {k:Kd α} {w:World} {A:Option Addr} {xs:List α} {m c:Nat}
theorem rR(h:k.C w A xs.length xs)(hm:m≤xs.length):k.C w A (xs.take m).length (xs.take m):=by
 have hl:(xs.take m).length=m:=by rw[List.length_take];omega
 refine⟨rfl,by rw[hl];have:=h.2.1;omega,fun hp=>?_⟩
 obtain⟨ad,e,hc⟩:=h.2.2 (by omega)
 refine⟨ad,e,fun j p hj=>hc j p ?_⟩
 rw[List.getElem?_take] at hj
 split at hj
 ·exact hj
 ·cases hj
end
end Kd
section
variable {P:Program}
end
theorem ai{w W:World}(h:Below w.heap.size w W):w.heap.size≤W.heap.size:=h.size
theorem ah{w W w2:World}(h:Below w.heap.size w W)(k:Below W.heap.size W w2):Below w.heap.size w w2:=qY h h.size k
theorem eG.nil(W:World)(k:IntKind):eG W k none ([]:List Int).length []:=⟨rfl,by simp,fun h=>absurd h (Nat.lt_irrefl 0)⟩
theorem eG.drewN{W:World}{k:IntKind}{A:Option Addr}{n:Nat}{xs:List Int}(h:eG W k A n xs)(m:Nat):eG (W.drewN m) k A n xs:=h
theorem cg{w W:World}{g j:Nat}{v:Value}(h:Below w.heap.size w W)(hg:w.heap.size≤g):Below w.heap.size w (W.setCell ⟨g,j,none⟩ v):=h.setCell hg _
theorem eV.nil{α:Type}(enc:α→Value)(d:α)(W:World):eV enc d W none ([]:List α).length []:=⟨rfl,by simp,fun h=>absurd h (Nat.lt_irrefl 0)⟩
theorem eV.drewN{α:Type}{enc:α→Value}{d:α}{W:World}{A:Option Addr}{n:Nat}{xs:List α}(h:eV enc d W A n xs)(m:Nat):eV enc d (W.drewN m) A n xs:=h
theorem cell_far{W:World}{p a:Addr}(h:a.block≠p.block)(u:Value):(W.setCell p u).cell? a=W.cell? a:=by
 have:=Below.heap_setCell W p u a.block h
 simp[World.cell?,this]
theorem bC{w:World}{g:Nat}{t:TypeId}{cs cs':Array Value}(h:w.heap[g]?=some (.cells cs t (0,0)))(i:Nat)(u:Value)(e:cs.setIfInBounds i u=cs'):(w.setCell ⟨g,i,none⟩ u).heap[g]?=some (.cells cs' t (0,0)):=e▸xe h i u
theorem bs{base:Nat}{w W:World}(h:Below base w W):Below base w W.drew:=h.drew
namespace Kd
section
variable {α β:Type} {d:Kd α} {d':Kd β} {e e' base base' n:Nat} {ok ok':Nat→Prop} {w W w1 W1:World} {v u:Value} {xs:List α} {ys:List β} {A:Option Addr} {c:Nat}
end
section
variable {α:Type} {enc:α→Value} {h1: ∀x,(enc x).oneCell'=true} {w W:World} {A:Option Addr} {n g:Nat} {xs:List α}
end
end Kd
namespace Kd
section
variable {α:Type} {d:Kd α} {e base g:Nat} {ok:Nat→Prop} {w w1:World} {v:Value} {xs:List α} {o:Obj}
end
end Kd
section
variable {P:Program} {ops:Array Oper} {rest:List Oper} {o:Oper} {a:Act} {Q:Exit→Act→World→Prop}
theorem iI{W:World}(hgd:o.guard=none){N:Tmp}(_hd:o.dst=some N){cs:Array Value}{t:TypeId}
  (hrun:(execOp a.eval o).run P W= .ok (.value (.pointer (some ⟨W.heap.size,0,none⟩))) (W.alloc (.cells cs t (0,0))))
  (h: ∀g,g=W.heap.size→ ∀w1,w1.heap[g]?=some (.cells cs t (0,0))→Below W.heap.size W w1→wpList P ops Q rest (a.put o.dst (.pointer (some ⟨g,0,none⟩))) w1):wpList P ops Q (o::rest) a W:=
 Kd.od hgd hrun (h _ rfl _ (gR W _) (aQ (Below.refl _ _) _))
end
namespace Kd
section
variable {α:Type} {enc:α→Value} {h1: ∀x,(enc x).oneCell'=true} {e base g n cap:Nat} {ok:Nat→Prop} {W:World} {xs:List α}
theorem eE(d:α)(h:(scalar enc h1).R e W base ok (.slice (some ⟨g,0,none⟩) n cap) xs)(i:Int)(h0:0≤i)(hi:i<n):W.cell? ⟨g,i.toNat,none⟩=some (enc (uZ d xs i))∧W.frozen? ⟨g,i.toNat,none⟩=false:=by
 obtain⟨rfl,_⟩:=aT h
 exact zj d h i h0 hi
theorem oY(h:(scalar enc h1).R e W base ok (.slice (some ⟨g,0,none⟩) n cap) xs)(i:Int)(x:α):(scalar enc h1).R e (W.setCell ⟨g,i.toNat,none⟩ (enc x)) base ok (.slice (some ⟨g,0,none⟩) n cap) (xs.set i.toNat x):=by
 obtain⟨rfl,_⟩:=aT h
 exact(yC h i x).1
end
end Kd
section
variable {P:Program} {ops:Array Oper} {rest:List Oper} {o:Oper} {a:Act} {Q:Exit→Act→World→Prop}
theorem eC{W w1:World}(hgd:o.guard=none){t:TypeId}{p:Tmp}{v:Operand}(_ho:o.op= .store t (.tmp p) v)(hN:o.dst=none)
  (hrun:(execOp a.eval o).run P W= .ok .skip w1) (h: ∀w',w'=w1→wpList P ops Q rest a w'):wpList P ops Q (o::rest) a W:=by
 refine wpList_plain hgd fun K hK=>?_
 unfold Oper.wp
 rw[hrun]
 show K (a.put o.dst undef) w1
 rw[hN]
 exact hK _ _ (h _ rfl)
end
namespace Kd
section
variable {α:Type} {enc:α→Value} {h1: ∀x,(enc x).oneCell'=true} {e base g n cap:Nat} {ok:Nat→Prop} {W:World} {xs:List α}
theorem iF(h:(scalar enc h1).R e W base ok (.slice (some ⟨g,0,none⟩) n cap) xs)(i:Int)(x:α):(scalar enc h1).R e (W.setCell ⟨g,i.toNat,none⟩ (enc x)) base ok (.slice (some ⟨g,0,none⟩) n cap) (xs.set i.toNat x)∧W.grownBy (W.setCell ⟨g,i.toNat,none⟩ (enc x)) (some g):=by
 obtain⟨rfl,_⟩:=aT h
 exact yC h i x
end
end Kd
section
variable {P:Program} {ops:Array Oper} {rest:List Oper} {o:Oper} {a:Act} {Q:Exit→Act→World→Prop} {W:World}
theorem bk{N:Tmp}(_hN:o.dst=some N)(h:wpList P ops Q (o::rest) a W):wpList P ops Q (o::rest) a W:=h
theorem eQ{t:TypeId}{p:Tmp}{v:Operand}(_ho:o.op= .store t (.tmp p) v)(h:wpList P ops Q (o::rest) a W):wpList P ops Q (o::rest) a W:=h
end
section
variable {P:Program} {ops:Array Oper} {o:Oper} {a:Act} {Q:Exit→Act→World→Prop} {Kc:Act→World→Prop}
namespace Kd
variable {α:Type}
end Kd
end
inductive we (P:Program) (tmps:Array Value) (w:World):List ResultVar→List Value→Prop where
 |nil:we P tmps w [] []
 |tmp {u:Tmp} {rs:List ResultVar} {vs:List Value} (h:we P tmps w rs vs):we P tmps w (.tmp u::rs) (tmps.getD u undef::vs)
 |cell {p:Tmp} {ty:TypeId} {rs:List ResultVar} {vs:List Value} (g:Nat) (t:TypeId) (cs:Array Value) (fr:Nat×Nat) (d:TypeDesc)
   (hp:tmps.getD p undef= .pointer (some ⟨g,0,none⟩)) (hg:w.heap[g]?=some (.cells cs t fr))
   (hu:P.underlying ty=some d) (hd:(match d with| .struct _| .array _ _=>true|_=>false)=true) (hi:(P.info? ty).map (·.size)=some cs.size)
   (h:we P tmps w rs vs):we P tmps w (.cell p ty::rs) (.agg cs::vs)
section
variable {P:Program} {tmps:Array Value} {w:World}
end
namespace Kd
section
variable {P:Program} {α:Type}
end
section
variable {P:Program} {ops:Array Oper} {rest:List Oper} {o:Oper} {a:Act} {Q:Exit→Act→World→Prop} {Kc:Act→World→Prop} {α:Type}
end
end Kd
end Go.Proofs.YtndkmnjbjlfeaaaGreatW.PrintWords
end
section
namespace Go.Proofs.YtndkmnjbjlfeaaaGreatW.PrintWords
open Go.RowKit
namespace Kd
section
variable {α:Type} {d:Kd α} {e base g o n cap:Nat} {ok okp:Nat→Prop} {w W:World} {v:Value} {xs:List α}
end
section
variable {α:Type} {enc:α→Value} {h1: ∀x,(enc x).oneCell'=true} {e base g o n cap:Nat} {ok:Nat→Prop} {W:World} {xs:List α}
end
end Kd
end Go.Proofs.YtndkmnjbjlfeaaaGreatW.PrintWords
end
section
namespace Go.Proofs.YtndkmnjbjlfeaaaGreatW.PrintWords
open Go.RowKit
namespace Kd
def tag{α:Type}(f:Nat→Nat)(d:Kd α):Kd (α×Nat) where
 sz:=d.sz
 E:=d.E
 K:=fun w x cs=>d.K w x.1 cs
 M:=fun w base ok x cs=>d.M w base (fun k=>ok k∧f k=x.2) x.1 cs
 K_len:=fun h=>d.K_len h
 K_one:=fun h=>d.K_one h
 K_below:=fun hb h=>d.K_below hb h
 K_of_M:=fun h=>d.K_of_M h
 M_mono:=fun hok h=>d.M_mono (fun k hk=>⟨hok k hk.1,hk.2⟩) h
 M_bound:=fun h=>d.M_mono (fun _ hk=>⟨⟨hk.1.1,hk.2⟩,hk.1.2⟩) (d.M_bound h)
 M_move:=fun hm h=>d.M_move (fun k hk=>hm k hk.1) h
 M_lower:=fun hb h=>d.M_lower hb h
def raw(sz:Nat):Kd (List Value) where
 sz:=sz
 E:=[]
 K:=fun _ x cs=>cs=x∧cs.length=sz∧ ∀u∈cs,u.oneCell'=true
 M:=fun _ _ _ x cs=>cs=x∧cs.length=sz∧ ∀u∈cs,u.oneCell'=true
 K_len:=fun h=>h.2.1
 K_one:=fun h=>h.2.2
 K_below:=fun _ h=>h
 K_of_M:=fun h=>h
 M_mono:=fun _ h=>h
 M_bound:=fun h=>h
 M_move:=fun _ h=>h
 M_lower:=fun _ h=>h
def S{α:Type}(d:Kd α)(e:Nat)(w:World)(base:Nat)(ok:Nat→Prop)(v:Value)(xs:List α):Prop:= ∃f,(tag f d).R e w base ok v xs.zipIdx
section
variable {α β:Type} {d:Kd α} {d':Kd β} {e e':Nat} {w w1 W:World} {base b:Nat} {ok ok' okv oku:Nat→Prop} {u v:Value} {xs:List α} {ys:List β}
theorem zb{xs:List α}{j:Nat}{p:α}(h:xs[j]?=some p):xs.zipIdx[j]?=some (p,j):=by rw[List.getElem?_zipIdx,h,Nat.zero_add];rfl
theorem AD(h:S d e w base ok v xs):d.R e w base ok v xs:=by
 obtain⟨f,h0,inner,ho,hr⟩:=h
 rw[List.length_zipIdx] at ho
 exact⟨h0,inner,ho,by have:=hr.1;rw[List.length_zipIdx] at this;exact this,fun j p hj=>d.M_mono (fun _ hk=>hk.1) (hr.2 j (p,j) (zb hj))⟩
theorem iW(hE:d.E=[])(h:d.R e w base ok v xs):d.R e w base (fun k=>some k=v.ownBlock) v xs:=by
 obtain⟨h0,inner,ho,hr⟩:=h
 refine⟨fun k hk=>hk.symm,inner,ho,hr.j9 (fun p c hp=>d.M_mono (fun k hk=>?_) (d.M_bound hp))⟩
 obtain⟨_,_,_,q,hq,_⟩:=hk
 rw[hE] at hq
 cases hq
theorem jv(d:Kd α)(e:Nat)(w:World)(base:Nat)(ok:Nat→Prop):S d e w base ok (.slice none 0 0) []:=⟨fun _=>0,fW _ _ _ _ _⟩
theorem kg(h:S d e w base ok v xs)(hok: ∀k,ok k→ok' k):S d e w base ok' v xs:=by
 obtain⟨f,h⟩:=h
 exact⟨f,bE h hok⟩
theorem xq(h:S d e w base ok v xs):S d e w base (fun k=>ok k∧base≤k∧k<w.heap.size∧ ∃q,q∈e::d.E∧ ∃cells,w.heap[k]?=some (.cells cells q (0,0))) v xs:=by
 obtain⟨f,h⟩:=h
 exact⟨f,eB h⟩
theorem zO(h:S d e w base ok v xs)(hm: ∀k,ok k→w1.heap[k]?=w.heap[k]?):S d e w1 base ok v xs:=by
 obtain⟨f,h⟩:=h
 exact⟨f,kj h hm⟩
theorem kT{base':Nat}(h:S d e w base ok v xs)(hb:base'≤base):S d e w base' ok v xs:=by
 obtain⟨f,h⟩:=h
 exact⟨f,bN h hb⟩
theorem vM(h:S d e w base ok v xs)(hm: ∀k,ok k→k<w.heap.size→w1.heap[k]?=w.heap[k]?):S d e w1 base ok v xs:=
 kg (zO (xq h) (fun k hk=>hm k hk.1 hk.2.2.1)) (fun _ hk=>hk.1)
theorem ir(h:S d e w base ok v xs)(hb:Below w.heap.size w w1):S d e w1 base ok v xs:=vM h (fun k _ hk=>hb.block k hk)
theorem gh(h:S d e w base ok v xs)(o:Obj):S d e (w.alloc o) base ok v xs:=ir h (aQ (Below.refl _ _) o)
theorem ib(h:S d e w base ok v xs):S d e w.drew base ok v xs:=ir h (ki (Below.refl _ _))
theorem gg(h:S d e w base ok v xs)(m:Nat):S d e (w.drewN m) base ok v xs:=ir h (ay (Below.refl _ _) m)
theorem qv(h:S d e w base ok v xs){p:Addr}(hok: ∀k,ok k→k≠p.block)(u:Value):S d e (w.setCell p u) base ok v xs:=vM h (fun k ho _=>Below.heap_setCell w p u k (hok k ho))
theorem sJ(h:S d e w base ok v xs){g t:Nat}{cells:Array Value}(hb:w.heap[g]?=some (.cells cells t (0,0)))(ht: ∀q,q∈e::d.E→q≠t):S d e w base (fun k=>ok k∧k≠g) v xs:=by
 obtain⟨f,h⟩:=h
 exact⟨f,oS h hb ht⟩
theorem se(h:S d e w base ok v xs): ∀k,v.ownBlock=some k→ ∃cells,w.heap[k]?=some (.cells cells e (0,0)):=jX (AD h)
theorem xz{v1:Value}(h:S d e W base (fun k=>ok k∧some k≠v.ownBlock) u xs)(hg:W.grownBy w1 v.ownBlock)(hat:v1.ownBlock=v.ownBlock∨ ∃b,v1.ownBlock=some b∧W.heap.size≤b):S d e w1 base (fun k=>ok k∧some k≠v1.ownBlock) u xs:=by
 obtain⟨f,h⟩:=h
 exact⟨f,jZ h hg hat⟩
theorem zU{f f':Nat→Nat}{zs:List (α×Nat)}(h:(tag f d).R e w base ok v zs)(hf: ∀k,ok k→k<w.heap.size→f' k=f k):(tag f' d).R e w base ok v zs:=by
 obtain⟨h0,inner,ho,hr⟩:=eB h
 exact⟨fun k hk=>(h0 k hk).1,inner,ho,hr.1,fun j p hj=>d.M_mono (fun k hk=>⟨⟨hk.1.1.1,hk.1.2⟩,(hf k hk.1.1.1 hk.1.1.2.2.1).trans hk.2⟩) (hr.2 j p hj)⟩
end
section
variable {α β:Type} {d:Kd α} {d':Kd β} {e e' g:Nat} {w w1 W:World} {base b:Nat} {ok ok' okv oku:Nat→Prop} {u v:Value} {xs:List α} {ys:List β}
theorem AV(h:S d e w base ok v xs){t:Nat}{cells:Array Value}(hb:w.heap[g]?=some (.cells cells t (0,0)))(ht:e≠t):some g≠v.ownBlock:=ur (AD h) hb ht
theorem oQ(h:S d e w base ok v xs): ∃A c,v= .slice A xs.length c:=cb (AD h)
theorem iS{A:Option Addr}{n c:Nat}(h:S d e w base ok (.slice A n c) xs):n=xs.length∧n≤c∧d.C w A xs.length xs:=aT (AD h)
theorem uk(xs:List α)(p:α):(xs++[p]).zipIdx=xs.zipIdx++[(p,xs.length)]:=by rw[List.zipIdx_append];simp
end
section
open Classical in
theorem Aq{α:Type}{d:Kd α}{e base:Nat}{okv:Nat→Prop}{w:World}{v:Value}{xs:List α}(h:S d e w base okv v xs)(m:Nat)(okp:Nat→Prop)(hap: ∀k,okp k→ ¬okv k): ∃f,(∀k,okp k→f k=m)∧(tag f d).R e w base okv v xs.zipIdx:=by
 obtain⟨f,h⟩:=h
 exact⟨fun k=>if okp k then m else f k,fun k hk=>if_pos hk,zU h (fun k hk _=>if_neg (fun h2=>hap k h2 hk))⟩
variable {P:Program} {ops:Array Oper} {rest:List Oper} {o:Oper} {a:Act} {Q:Exit→Act→World→Prop} {Kc:Act→World→Prop} {α:Type}
theorem pQ(d:Kd α){w0 W:World}(base:Nat)(hgd:o.guard=none)(s x:Operand)(t e:TypeId)(z:Value)(bytes:Nat)
  (ho:o.op= .call {callee:= .builtin .append,args:= #[s,x],argTypes:= #[t,t]})
  (ht:P.underlying t=some (.slice e)) (hinfo:(P.info? e).map (fun i=>(i.zero,i.size,i.bytes))=some (some z,d.sz,bytes)) (hz:z.cells.size=d.sz) (hs0:0<d.sz) (hb0:0<bytes)
  (v:Value) (xs:List α) (p:α) (cs:List Value) (ok okp:Nat→Prop) (hs:a.eval s=v) (hx:a.eval x= .slice (some ⟨W.heap.size,0,none⟩) 1 1) (hp:d.M W base okp p cs) (hokp: ∀k,okp k→ok k∧some k≠v.ownBlock) (hfresh: ∀k,W.heap.size≤k→ok k)
  (HO:S d e W base (fun k=>ok k∧ ¬okp k) v xs) (HB:Below base w0 W) (hbase:base≤W.heap.size) (hl:(xs.length+1)*bytes≤140737488355328)
  (h: ∀v1 w1,S d e w1 base ok v1 (xs++[p])→Below base w0 w1→W.grownBy w1 v.ownBlock→(v1.ownBlock=v.ownBlock∨ ∃b,v1.ownBlock=some b∧W.heap.size≤b)→wpList P ops Q rest (a.put o.dst v1) w1):
  wpList P ops Q (o::rest) a (W.alloc (.cells cs.toArray e)):=by
 obtain⟨f,hf,hR⟩:=Aq HO xs.length okp (fun _ hk h2=>h2.2 hk)
 refine jH (tag f d) base hgd s x t e z bytes ho ht hinfo hz hs0 hb0 v xs.zipIdx (p,xs.length) cs ok okp hs hx (d.M_mono (fun k hk=>⟨hk,hf k hk⟩) hp) hokp hfresh (bE hR (fun _ hk=>hk.1)) HB hbase (by rw[List.length_zipIdx];exact hl) ?_
 intro v1 w1 hr
 rw[←uk] at hr
 exact h v1 w1 ⟨f,hr⟩
theorem uY{d:Kd α}{w:World}{base:Nat}{ok:Nat→Prop}{xs:List α}{inner:List Value}(okj:Nat→Nat→Prop)(hap: ∀i j k,okj i k→okj j k→i=j)(hok: ∀j k,okj j k→ok k)
  (hl:inner.length=xs.length*d.sz) (hrep: ∀j x,xs[j]?=some x→d.M w base (okj j) x ((inner.drop (j*d.sz)).take d.sz)): ∃f,cI ((tag f d).M w base ok) d.sz xs.zipIdx inner:=by
 refine⟨fun k=>open Classical in if h: ∃j,okj j k then h.choose else 0,by rw[List.length_zipIdx];exact hl,fun j p hj=>?_⟩
 rw[List.getElem?_zipIdx,Nat.zero_add] at hj
 obtain⟨x,hx,rfl⟩:=Option.map_eq_some_iff.1 hj
 refine d.M_mono (fun k hk=>⟨hok j k hk,?_⟩) (hrep j x hx)
 have h: ∃j,okj j k:=⟨j,hk⟩
 exact(dif_pos h).trans (hap _ _ k h.choose_spec hk)
end
def Bj{α:Type}(f:Nat→Nat)(d:Kd α)(i:Nat)(c:List Value):Kd (α×Nat) where
 sz:=d.sz
 E:=d.E
 K:=fun w x cs=>(x.2=i→cs=c∧cs.length=d.sz∧ ∀u∈cs,u.oneCell'=true)∧(x.2≠i→d.K w x.1 cs)
 M:=fun w base ok x cs=>(x.2=i→cs=c∧cs.length=d.sz∧ ∀u∈cs,u.oneCell'=true)∧(x.2≠i→d.M w base (fun k=>ok k∧f k=x.2) x.1 cs)
 K_len:=fun{w x cs} h=>by
  by_cases hx:x.2=i
  ·exact(h.1 hx).2.1
  ·exact d.K_len (h.2 hx)
 K_one:=fun{w x cs} h=>by
  by_cases hx:x.2=i
  ·exact(h.1 hx).2.2
  ·exact d.K_one (h.2 hx)
 K_below:=fun hb h=>⟨h.1,fun hx=>d.K_below hb (h.2 hx)⟩
 K_of_M:=fun h=>⟨h.1,fun hx=>d.K_of_M (h.2 hx)⟩
 M_mono:=fun hok h=>⟨h.1,fun hx=>d.M_mono (fun k hk=>⟨hok k hk.1,hk.2⟩) (h.2 hx)⟩
 M_bound:=fun h=>⟨h.1,fun hx=>d.M_mono (fun _ hk=>⟨⟨hk.1.1,hk.2⟩,hk.1.2⟩) (d.M_bound (h.2 hx))⟩
 M_move:=fun hm h=>⟨h.1,fun hx=>d.M_move (fun k hk=>hm k hk.1) (h.2 hx)⟩
 M_lower:=fun hb h=>⟨h.1,fun hx=>d.M_lower hb (h.2 hx)⟩
def H{α:Type}(d:Kd α)(e:Nat)(w:World)(base:Nat)(ok:Nat→Prop)(v:Value)(xs:List α)(i:Int)(oki:Nat→Prop)(c:List Value):Prop:=
 (∀k,oki k→ok k)∧ ∃f,(Bj f d i.toNat c).R e w base (fun k=>ok k∧ ¬oki k) v xs.zipIdx
section
variable {α β:Type} {d:Kd α} {e e' g n cap:Nat} {w w1 W:World} {base:Nat} {ok ok' oki okp:Nat→Prop} {u v:Value} {xs:List α} {i:Int} {c:List Value}
end
section
variable {P:Program} {ops:Array Oper} {rest:List Oper} {o:Oper} {a:Act} {Q:Exit→Act→World→Prop} {α:Type}
end
end Kd
end Go.Proofs.YtndkmnjbjlfeaaaGreatW.PrintWords
end
section
namespace Go.Proofs.YtndkmnjbjlfeaaaGreatW.PrintWords
open Go.RowKit
namespace Kd
section
variable {α:Type} {n:Nat} {d:Kd α} {hs:0<d.sz} {w:World} {base:Nat} {ok:Nat→Prop} {xs:List α} {cs:List Value}
end
section
variable {α:Type} {n:Nat} {enc:α→Value} {h1: ∀x,(enc x).oneCell'=true} {hs:0<(scalar enc h1).sz} {w:World} {base:Nat} {ok:Nat→Prop} {xs:List α} {cs:List Value}
end
end Kd
end Go.Proofs.YtndkmnjbjlfeaaaGreatW.PrintWords
end
section
namespace Go.Proofs.YtndkmnjbjlfeaaaGreatW.PrintWords
open Go.RowKit
section
variable {P:Program}
end
namespace Kd
section
variable {P:Program} {ops:Array Oper} {rest:List Oper} {o:Oper} {a:Act} {Q:Exit→Act→World→Prop} {Kc:Act→World→Prop} {α:Type}
end
section
variable {α:Type} {d:Kd α} {e:Nat} {w:World} {base:Nat} {ok:Nat→Prop} {v:Value} {xs:List α}
end
section
variable {P:Program} {ops:Array Oper} {rest:List Oper} {o:Oper} {a:Act} {Q:Exit→Act→World→Prop} {Kc:Act→World→Prop} {α:Type}
end
end Kd
end Go.Proofs.YtndkmnjbjlfeaaaGreatW.PrintWords
end
section
namespace Go.Proofs.YtndkmnjbjlfeaaaGreatW.PrintWords
open Go.RowKit
namespace Kd
structure Heap {α:Type} (d:Kd α):Prop where
 K: ∀{w w1:World} {x:α} {cs:List Value},(∀k,k<w.heap.size→w1.heap[k]?=w.heap[k]?)→d.K w x cs→d.K w1 x cs
theorem tz{w w1:World}(hb: ∀k,k<w.heap.size→w1.heap[k]?=w.heap[k]?){a:Addr}{v:Value}(h:w.cell? a=some v):w1.cell? a=some v:=by
 have:=hb a.block (World.block_lt_of_cell? w a h)
 simpa[World.cell?,this] using h
theorem Heap.C{α:Type}{d:Kd α}(hd:Heap d){w w1:World}{A:Option Addr}{n:Nat}{xs:List α}(hb: ∀k,k<w.heap.size→w1.heap[k]?=w.heap[k]?)(h:d.C w A n xs):d.C w1 A n xs:=
 ⟨h.1,h.2.1,fun hn=>by
  obtain⟨ad,e,hc⟩:=h.2.2 hn
  refine⟨ad,e,fun j p hj=>?_⟩
  obtain⟨c,hs,hr,hcell⟩:=hc j p hj
  exact⟨c,hs,hd.K hb hr,fun i u hu=>tz hb (hcell i u hu)⟩⟩
section
variable {α:Type} {d:Kd α} {e base g n c:Nat} {ok:Nat→Prop} {w w0 W:World} {A:Option Addr} {xs:List α}
end
end Kd
end Go.Proofs.YtndkmnjbjlfeaaaGreatW.PrintWords
end
section
namespace Go.Proofs.YtndkmnjbjlfeaaaGreatW.PrintWords
open Go.RowKit
def Kept(w W:World)(S:Nat→Prop):Prop:=w.heap.size≤W.heap.size∧ ∀i,i<w.heap.size→ ¬S i→W.heap[i]?=w.heap[i]?
section
variable {w W W2:World} {S S2 S':Nat→Prop}
theorem Kept.refl(w:World)(S:Nat→Prop):Kept w w S:=⟨Nat.le_refl _,fun _ _ _=>rfl⟩
theorem Kept.qk(h:Below w.heap.size w W)(S:Nat→Prop):Kept w W S:=⟨h.size,fun i hi _=>h.block i hi⟩
theorem Kept.ot(h:Kept w W S)(k:Kept W W2 S2)(hs: ∀k,S2 k→S k∨w.heap.size≤k):Kept w W2 S:=
 ⟨Nat.le_trans h.1 k.1,fun i hi hn=>(k.2 i (Nat.lt_of_lt_of_le hi h.1) (fun h2=>(hs i h2).elim hn (fun h3=>by omega))).trans (h.2 i hi hn)⟩
theorem Kept.kO{row:Option Nat}(hg:W.grownBy W2 row)(h:Kept w W S)(hr: ∀k,row=some k→S k∨w.heap.size≤k):Kept w W2 S:=
 h.ot (S2:=fun k=>row=some k) ⟨hg.size,fun i hi hn=>hg.block i hi (fun he=>hn he.symm)⟩ hr
theorem Kept.below(h:Kept w W S)(hb:Below W.heap.size W W2):Kept w W2 S:=h.ot (Kept.qk hb (fun _=>False)) (fun _ hk=>hk.elim)
theorem Kept.alloc(h:Kept w W S)(o:Obj):Kept w (W.alloc o) S:=h.below (aQ (Below.refl _ _) o)
theorem Kept.drew(h:Kept w W S):Kept w W.drew S:=h
theorem Kept.drewN(h:Kept w W S)(m:Nat):Kept w (W.drewN m) S:=h
theorem Kept.setCell(h:Kept w W S){p:Addr}(hp:S p.block∨w.heap.size≤p.block)(u:Value):Kept w (W.setCell p u) S:=
 h.ot (S2:=fun k=>k=p.block) ⟨by simp[World.setCell],fun i _ hn=>Below.heap_setCell W p u i hn⟩ (fun k hk=>by rw[hk];exact hp)
end
namespace Kd
section
variable {α:Type} {d:Kd α} {e base n c:Nat} {ok oki S S2:Nat→Prop} {w w0 W W1 W2:World} {v:Value} {A:Option Addr} {xs:List α} {i:Int} {cs:List Value}
theorem uL(h:d.R e W base ok v xs)(hk:Kept W W2 S)(hne: ∀k,ok k→ ¬S k):d.R e W2 base ok v xs:=o8 h (fun k ho hlt=>hk.2 k hlt (hne k ho))
theorem qP(h:d.R e W base ok (.slice A n c) xs)(hok: ∀k,ok k→ ¬S k): ∀W',Kept W W' S→d.C W' A n xs:=fun W' hk=>by
 have h2:=aT (uL h hk hok)
 rw[h2.1]
 exact h2.2.2
theorem ju(hd:Heap d)(h:d.C w0 A n xs)(hb:Below w0.heap.size w0 W)(hS: ∀k,S k→w0.heap.size≤k): ∀W',Kept W W' S→d.C W' A n xs:=fun W' hk=>
 hd.C (fun k hlt=>(hk.2 k (Nat.lt_of_lt_of_le hlt hb.size) (fun h2=>by have:=hS k h2;omega)).trans (hb.block k hlt)) h
theorem fw(h: ∀W',Kept w W' S→d.C W' A n xs)(hk:Kept w W S):d.C W A n xs:=h W hk
end
end Kd
end Go.Proofs.YtndkmnjbjlfeaaaGreatW.PrintWords
end
section
namespace Go.Proofs.YtndkmnjbjlfeaaaGreatW.PrintWords
open Go.RowKit
def k7(P:World→Prop)(W:World)(ok:Nat→Prop):Prop:= ∀W':World,(∀k,ok k→k<W.heap.size→W'.heap[k]?=W.heap[k]?)→P W'
theorem yo{W W1:World}{k:Nat}(h:W1.heap[k]?=W.heap[k]?)(hlt:k<W.heap.size):k<W1.heap.size:=by
 rw[Array.getElem?_eq_getElem hlt] at h
 exact(Array.getElem?_eq_some_iff.1 h).1
namespace k7
variable {P Q:World→Prop} {W W1:World} {ok ok':Nat→Prop}
theorem now(h:k7 P W ok):P W:=h W (fun _ _ _=>rfl)
theorem bound(h:k7 P W ok):k7 P W (fun k=>ok k∧k<W.heap.size):=fun W' hW=>h W' (fun k hk hlt=>hW k ⟨hk,hlt⟩ hlt)
theorem step(h:k7 P W ok)(hm: ∀k,ok k→k<W.heap.size→W1.heap[k]?=W.heap[k]?):k7 P W1 ok:=fun W' hW=>h W' (fun k hk hlt=>(hW k hk (yo (hm k hk hlt) hlt)).trans (hm k hk hlt))
theorem imp(h:k7 P W ok)(hi: ∀W',P W'→Q W'):k7 Q W ok:=fun W' hW=>hi W' (h W' hW)
theorem zM(h:k7 P W ok)(hb:Below W.heap.size W W1):k7 P W1 (fun k=>ok k∧k<W.heap.size):=(h.bound).step (fun k _ hlt=>hb.block k hlt)
end k7
namespace Kd
def F{α:Type}(d:Kd α)(W:World)(ok:Nat→Prop)(A:Option Addr)(n:Nat)(xs:List α):Prop:=k7 (fun W=>d.C W A n xs) W ok
def FK{α:Type}(d:Kd α)(W:World)(ok:Nat→Prop)(x:α)(c:List Value):Prop:=k7 (fun W=>d.K W x c) W ok
section
variable {α β:Type} {d:Kd α} {e base n n' cc g N:Nat} {ok ok' okp S:Nat→Prop} {w w0 w1 W W1:World} {A A':Option Addr} {u v v1:Value} {xs:List α} {xs':List β} {d':Kd β} {x:α} {c:List Value}
theorem Aj(d:Kd α)(W:World)(ok:Nat→Prop):F d W ok none ([]:List α).length []:=fun W' _=>Ad d W'
theorem xo(h:d.M W base ok x c):FK d W ok x c:=fun _ hW=>d.K_of_M (uF h hW)
end
end Kd
end Go.Proofs.YtndkmnjbjlfeaaaGreatW.PrintWords
end
section
namespace Go.Proofs.YtndkmnjbjlfeaaaGreatW.PrintWords
open Go.RowKit
namespace Kd
def chunks(sz:Nat)(n:Nat)(inner:List Value):List (List Value):=(List.range n).map fun j=>(inner.drop (j*sz)).take sz
theorem fH(sz n:Nat)(inner:List Value):(chunks sz n inner).length=n:=by simp[chunks]
theorem tJ{sz n:Nat}{inner:List Value}{j:Nat}(hj:j<n):(chunks sz n inner)[j]?=some ((inner.drop (j*sz)).take sz):=by simp[chunks,hj]
theorem mW{sz n:Nat}{inner:List Value}{j:Nat}{c:List Value}(h:(chunks sz n inner)[j]?=some c):c=(inner.drop (j*sz)).take sz:=by
 have hj:j<n:=by have:=(List.getElem?_eq_some_iff.1 h).1;rwa[fH] at this
 rw[tJ hj] at h
 injection h with h
 exact h.symm
theorem wA{α:Type}{Rr:α→List Value→Prop}{sz:Nat}{xs:List α}{inner:List Value}(h:cI Rr sz xs inner)(hR: ∀x c,Rr x c→c.length=sz∧ ∀u∈c,u.oneCell'=true):cI (fun x cs=>cs=x∧cs.length=sz∧ ∀u∈cs,u.oneCell'=true) sz (chunks sz xs.length inner) inner:=by
 refine⟨by rw[fH];exact h.1,fun j p hj=>?_⟩
 have hjl:j<xs.length:=by have:=(List.getElem?_eq_some_iff.1 hj).1;rwa[fH] at this
 have hp:=mW hj
 exact⟨hp.symm,hR _ _ (h.2 j _ (List.getElem?_eq_getElem hjl))⟩
section
variable {α:Type} {d:Kd α} {e base n cc g:Nat} {ok ok' okp S:Nat→Prop} {w w1 W W1:World} {A:Option Addr} {u v v1:Value} {xs:List α} {x:α} {c:List Value}
def N{α:Type}(d:Kd α)(e:Nat)(w:World)(base:Nat)(ok:Nat→Prop)(v:Value)(xs:List α):Prop:=
 (∀k,v.ownBlock=some k→ok k)∧ ∃rows:List (List Value),rows.length=xs.length∧(raw d.sz).R e w base (fun k=>some k=v.ownBlock) v rows∧ ∀(j:Nat) (x:α) (c:List Value),xs[j]?=some x→rows[j]?=some c→FK d w (fun k=>ok k∧some k≠v.ownBlock) x c
theorem Bl(h:d.R e w base ok v xs):N d e w base ok v xs:=by
 obtain⟨h0,inner,ho,hr⟩:=h
 refine⟨h0,chunks d.sz xs.length inner,fH _ _ _,⟨fun k hk=>hk.symm,inner,by rw[fH];exact ho,wA hr (fun x c hp=>⟨d.K_len (d.K_of_M hp),d.K_one (d.K_of_M hp)⟩)⟩,fun j x c hx hc=>?_⟩
 rw[mW hc]
 exact xo (hr.2 j x hx)
theorem lY(d:Kd α)(e:Nat)(w:World)(base:Nat)(ok:Nat→Prop):N d e w base ok (.slice none 0 0) []:=Bl (fW _ _ _ _ _)
end
end Kd
end Go.Proofs.YtndkmnjbjlfeaaaGreatW.PrintWords
end
section
namespace Go.Proofs.YtndkmnjbjlfeaaaGreatW.PrintWords
open Go.RowKit
namespace Kd
section
variable {α:Type} {d:Kd α} {e base n cap g:Nat} {ok ok' okp:Nat→Prop} {w w1 W:World} {v v1:Value} {xs ys:List α}
end
section
variable {P:Program} {ops:Array Oper} {rest:List Oper} {o:Oper} {a:Act} {Q:Exit→Act→World→Prop} {Kc:Act→World→Prop} {α:Type}
end
end Kd
end Go.Proofs.YtndkmnjbjlfeaaaGreatW.PrintWords
end
section
namespace Go.Proofs.YtndkmnjbjlfeaaaGreatW.PrintMore
open Go.RowKit Go.Proofs.YtndkmnjbjlfeaaaGreatW.PrintWords
namespace Kd
open Go.Proofs.YtndkmnjbjlfeaaaGreatW.PrintWords.Kd
end Kd
namespace Kd
open Go.Proofs.YtndkmnjbjlfeaaaGreatW.PrintWords.Kd
section
variable {α:Type} {d:Kd α} {e base g N:Nat} {ok:Nat→Prop} {W w1:World} {u v:Value} {xs:List α}
end
end Kd
theorem bU(k k':IntKind)(x y:Int):Builtin.max2 (.int k x) (.int k' y)=pure (.int k (if x<y then y else x)):=by simp only[Builtin.max2,gt_iff_lt]
theorem bS(k k':IntKind)(x y:Int):Builtin.min2 (.int k x) (.int k' y)=pure (.int k (if y<x then y else x)):=by simp only[Builtin.min2]
theorem ct(ats:Array TypeId)(ty:TypeId)(a b:Value):Builtin.max_ ats ty #[a,b]=(Builtin.max2 a b>>=fun s=>pure s):=by simp only[Builtin.max_,List.foldlM_cons,List.foldlM_nil]
theorem cr(ats:Array TypeId)(ty:TypeId)(a b:Value):Builtin.min_ ats ty #[a,b]=(Builtin.min2 a b>>=fun s=>pure s):=by simp only[Builtin.min_,List.foldlM_cons,List.foldlM_nil]
theorem bw(ats:Array TypeId)(ty:TypeId)(a b c:Value):Builtin.max_ ats ty #[a,b,c]=(Builtin.max2 a b>>=fun s=>Builtin.max2 s c>>=fun s=>pure s):=by simp only[Builtin.max_,List.foldlM_cons,List.foldlM_nil]
theorem bz(ats:Array TypeId)(ty:TypeId)(a b c:Value):Builtin.min_ ats ty #[a,b,c]=(Builtin.min2 a b>>=fun s=>Builtin.min2 s c>>=fun s=>pure s):=by simp only[Builtin.min_,List.foldlM_cons,List.foldlM_nil]
theorem bP(ats:Array TypeId)(ty:TypeId)(a b c d:Value):Builtin.max_ ats ty #[a,b,c,d]=(Builtin.max2 a b>>=fun s=>Builtin.max2 s c>>=fun s=>Builtin.max2 s d>>=fun s=>pure s):=by simp only[Builtin.max_,List.foldlM_cons,List.foldlM_nil]
theorem bT(ats:Array TypeId)(ty:TypeId)(a b c d:Value):Builtin.min_ ats ty #[a,b,c,d]=(Builtin.min2 a b>>=fun s=>Builtin.min2 s c>>=fun s=>Builtin.min2 s d>>=fun s=>pure s):=by simp only[Builtin.min_,List.foldlM_cons,List.foldlM_nil]
end Go.Proofs.YtndkmnjbjlfeaaaGreatW.PrintMore
namespace Go.Proofs.YtndkmnjbjlfeaaaGreatW.PrintWords
open Go.RowKit
section
variable {P:Program} {ops:Array Oper} {rest:List Oper} {o:Oper} {a:Act} {Q:Exit→Act→World→Prop} {W:World}
theorem aM{f:FuncId}{as:Array Operand}{ts:Array TypeId}(_ho:o.op= .call {callee:= .value (.func f),args:=as,argTypes:=ts})(h:wpList P ops Q (o::rest) a W):wpList P ops Q (o::rest) a W:=h
theorem eO{b:Builtin}{xs:Array Operand}{ts:Array TypeId}(_ho:o.op= .call {callee:= .builtin b,args:=xs,argTypes:=ts})(h:wpList P ops Q (o::rest) a W):wpList P ops Q (o::rest) a W:=h
end
def shl(k:IntKind)(x y:Int):Int:=k.wrap (x*2^min y.toNat k.bits)
def shr(k:IntKind)(x y:Int):Int:=x/2^min y.toNat k.bits
theorem lF{k:IntKind}{x y j:Int}(h:shl k x y=j)(hy:y≤k.bits):k.wrap (x*2^y.toNat)=j:=by rw[←h];unfold shl;rw[Nat.min_eq_left (by omega)]
theorem lC{k:IntKind}{x y j:Int}(h:shr k x y=j)(hy:y≤k.bits):x/2^y.toNat=j:=by rw[←h];unfold shr;rw[Nat.min_eq_left (by omega)]
theorem ks(w:World)(n:Nat):w.drewN n=w.drewN n:=rfl
namespace Kd
section
variable {α:Type} {d:Kd α} {e base:Nat} {ok:Nat→Prop} {W w1:World} {v:Value} {xs:List α}
end
section
variable {α:Type} {d:Kd α} {e base g n cap:Nat} {ok oki okp:Nat→Prop} {W:World} {xs:List α} {i:Int} {c:List Value}
end
section
variable {α:Type} {d:Kd α} {e base b b' g N:Nat} {ok ok1:Nat→Prop} {W W2 w1:World} {u v:Value} {xs ys:List α} {S:Nat→Prop}
theorem mB(hE:d.E=[])(h:d.R e W base ok1 v xs)(hok: ∀k,v.ownBlock=some k→ok k):d.R e W base ok v xs:=bE (iW hE h) (fun k hk=>hok k hk.symm)
theorem mx(h:d.R e W base ok v xs)(hk:Kept W W2 S)(hne: ∀k,ok k→ ¬S k):d.R e W2 base (fun k=>ok k∧(¬S k∧k<W.heap.size)) v xs:=
 uL (bE (eB h) (fun k hk=>⟨hk.1,hne k hk.1,hk.2.2.1⟩)) hk (fun _ hk=>hk.2.1)
end
end Kd
end Go.Proofs.YtndkmnjbjlfeaaaGreatW.PrintWords
namespace Go.Proofs.YtndkmnjbjlfeaaaGreatW.PrintWords
open Go.RowKit
namespace Kd
def V{α:Type}(d:Kd α)(_e:Nat)(W:World)(_base:Nat)(ok:Nat→Prop)(v:Value)(xs:List α):Prop:= ∃A c,v= .slice A xs.length c∧xs.length≤c∧F d W ok A xs.length xs
section
variable {α β:Type} {d:Kd α} {e base base' n m c g N' lo hi:Nat} {ok ok' S:Nat→Prop} {w W w1:World} {A:Option Addr} {ad:Addr} {u v v1:Value} {xs:List α}
theorem mc(d:Kd α)(e:Nat)(W:World)(base:Nat)(ok:Nat→Prop):V d e W base ok (.slice none 0 0) []:=⟨none,0,rfl,Nat.le_refl _,Aj d W ok⟩
theorem rQ{M:Nat→Prop}(h:d.R e w1 W.heap.size ok v xs)(hle:w.heap.size≤W.heap.size)(hM: ∀k,w.heap.size≤k→M k):d.R e w1 W.heap.size (fun k=>M k∧ok k) v xs:=bE (eB h) (fun k hk=>⟨hM k (Nat.le_trans hle hk.2.1),hk.1⟩)
end
end Kd
end Go.Proofs.YtndkmnjbjlfeaaaGreatW.PrintWords
end
section
namespace Go.Proofs.YtndkmnjbjlfeaaaGreatW.PrintLast
open Go.Proofs.YtndkmnjbjlfeaaaGreatW.PrintWords (aa)
def jL(md:Region.Mode)(o:Oper):List Nat:=(o.after.toList.filter (fun e=>Region.binds md e)).map (fun e=>e.on)
def oH(md:Region.Mode)(ops:Array Oper)(i:Nat)(oi:Oper):List Nat:=(List.range ops.size).filter fun j=> !(j==i)&&match ops[j]? with
 |some oj=> !(oj.after.any (fun e=>Region.binds md e&&e.on==i)||oi.apart ops oj)
 |none=>false
def fX(md:Region.Mode)(ops:Array Oper):Bool×List (List Nat×List Nat):=(Region.noSelect ops,(List.range ops.size).map fun i=>match ops[i]? with
 |some o=>(jL md o,oH md ops i o)
 |none=>([],[]))
def iq(T:List (List Nat×List Nat))(l:List Bool)(i:Nat):Bool:= !l.getD i true&&match T[i]? with
 |some r=>r.1.all (fun j=>l.getD j false)
 |none=>false
def nv(T:List (List Nat×List Nat))(l:List Bool):List Nat:=(List.range T.length).filter (iq T l)
def p8(T:List (List Nat×List Nat))(l:List Bool)(i:Nat):Bool:=match T[i]? with
 |some r=>r.2.all (fun j=>l.getD j true)
 |none=>false
def mv(T:List (List Nat×List Nat))(l:List Bool):Bool:=(List.range T.length).all fun j=> !l.getD j false||match T[j]? with
 |some r=>r.1.all (fun k=>l.getD k false)
 |none=>true
def ld(T:List (List Nat×List Nat))(i:Nat):Nat→Nat→Bool
 |0,_=>false
 |fuel+1,d=>match T[d]? with
  |some r=>r.1.any fun j=>j==i||ld T i fuel j
  |none=>false
def sH(T:List (List Nat×List Nat))(l:List Bool)(ds:List Nat)(i:Nat):Bool:=ds.all fun d=>l.getD d true||ld T i T.length d
section
variable {md:Region.Mode} {ops:Array Oper} {T:Bool×List (List Nat×List Nat)} {l l' li lj lk:Array Bool} {ds:List Nat} {i j k:Nat}
theorem gd(l:Array Bool)(j:Nat)(b:Bool):l.getD j b=l.toList.getD j b:=by simp[Array.getD_eq_getD_getElem?,List.getD_eq_getElem?_getD]
theorem oe(o:Oper)(p:Nat→Bool):o.after.all (fun e=> !Region.binds md e||p e.on)=(jL md o).all p:=by
 unfold jL
 rw[←Array.all_toList]
 induction o.after.toList with
 |nil=>rfl
 |cons e r ih=>
  rw[List.all_cons,ih,List.filter_cons]
  cases h:Region.binds md e<;>simp
theorem tN(o:Oper)(p:Nat→Bool):o.after.any (fun e=>Region.binds md e&&p e.on)=(jL md o).any p:=by
 unfold jL
 rw[←Array.any_toList]
 induction o.after.toList with
 |nil=>rfl
 |cons e r ih=>
  rw[List.any_cons,ih,List.filter_cons]
  cases h:Region.binds md e<;>simp
theorem iu:(fX md ops).2.length=ops.size:=by simp[fX]
theorem jR{o:Oper}(h:ops[i]?=some o):(fX md ops).2[i]?=some (jL md o,oH md ops i o):=by
 have hi:=(Array.getElem?_eq_some_iff.1 h).1
 unfold fX
 rw[List.getElem?_map,List.getElem?_range hi,Option.map_some,h]
theorem j7(h:ops[i]?=none):(fX md ops).2[i]?=none:=by
 have hi:ops.size≤i:=Array.getElem?_eq_none_iff.1 h
 exact List.getElem?_eq_none (by rw[iu];exact hi)
theorem rY:iq (fX md ops).2 l.toList i=(!l.getD i true&&((ops[i]?).map (·.after.all fun e=> !Region.binds md e||l.getD e.on false)).getD false):=by
 unfold iq
 rw[gd]
 cases h:ops[i]? with
 |none=>rw[j7 h];rfl
 |some o=>
  rw[jR h]
  simp only[Option.map_some,Option.getD_some]
  rw[←oe]
  simp only[gd]
theorem nx:Region.ready md ops l=nv (fX md ops).2 l.toList:=by
 unfold Region.ready nv
 rw[iu]
 refine List.filter_congr (fun i _=>?_)
 rw[rY]
theorem sW:Region.free md ops l i=p8 (fX md ops).2 l.toList i:=by
 unfold Region.free p8
 cases h:ops[i]? with
 |none=>rw[j7 h]
 |some oi=>
  rw[jR h]
  simp only[oH]
  rw[List.all_filter]
  congr 1
  funext j
  rw[gd]
  cases hj:ops[j]? with
  |none=>cases(j==i)<;>cases(l.toList.getD j true)<;>simp
  |some oj=>
   cases(j==i)<;>cases(l.toList.getD j true)<;>cases(oj.after.any (fun e=>Region.binds md e&&e.on==i)||oi.apart ops oj)<;>simp_all
theorem tg:Region.kW md ops l=mv (fX md ops).2 l.toList:=by
 unfold Region.kW mv
 rw[iu]
 congr 1
 funext j
 rw[gd]
 cases h:ops[j]? with
 |none=>rw[j7 h]
 |some o=>
  rw[jR h]
  simp only
  rw[←oe]
  simp only[gd]
theorem p9: ∀(fuel d:Nat),Region.gO md ops i fuel d=ld (fX md ops).2 i fuel d
 |0,_=>rfl
 |fuel+1,d=>by
  unfold Region.gO ld
  cases h:ops[d]? with
  |none=>rw[j7 h]
  |some o=>
   rw[jR h]
   simp only
   rw[←tN]
   congr 1
   funext e
   rw[p9 fuel]
theorem yu:Region.sg md ops l ds i=sH (fX md ops).2 l.toList ds i:=by
 unfold Region.sg sH
 rw[iu]
 congr 1
 funext d
 rw[gd,p9]
theorem l9(h:iq T.2 l.toList i=true)(hT:fX md ops=T):(Region.ready md ops l).contains i=true:=by
 subst hT
 rw[nx]
 unfold nv
 rw[List.contains_iff_mem,List.mem_filter,List.mem_range]
 refine⟨?_,h⟩
 unfold iq at h
 rw[Bool.and_eq_true] at h
 cases hq:(fX md ops).2[i]? with
 |none=>rw[hq] at h;simp at h
 |some r=>exact(List.getElem?_eq_some_iff.1 hq).1
theorem rn(h:(l.toList.set i true==l'.toList)=true):(l.setIfInBounds i true==l')=true:=by
 rw[beq_iff_eq] at h ⊢
 apply Array.ext'
 rw[Array.toList_setIfInBounds]
 exact h
def zL(T:Bool×List (List Nat×List Nat))(l l':List Bool)(i:Nat):Bool:=T.1&&p8 T.2 l i&&iq T.2 l i&&(l.set i true==l')
theorem df(hT:fX md ops=T)(h:zL T l.toList l'.toList i=true):wN md ops l l' i=true:=by
 simp only[zL,Bool.and_eq_true] at h
 obtain⟨⟨⟨h1,h2⟩,h3⟩,h4⟩:=h
 have h5:=l9 h3 hT
 have h6:=rn h4
 subst hT
 simp only[wN,Bool.and_eq_true]
 exact⟨⟨⟨h1,by rw[sW];exact h2⟩,h5⟩,h6⟩
def wx(T:Bool×List (List Nat×List Nat))(ds:List Nat)(l l':List Bool)(i:Nat):Bool:=T.1&&p8 T.2 l i&&iq T.2 l i&&mv T.2 l&&sH T.2 l ds i&&(l.set i true==l')
theorem yB(hT:fX md ops=T)(h:wx T ds l.toList l'.toList i=true):nZ md ops ds l l' i=true:=by
 simp only[wx,Bool.and_eq_true] at h
 obtain⟨⟨⟨⟨⟨h1,h2⟩,h3⟩,h4⟩,h5⟩,h6⟩:=h
 have h7:=l9 h3 hT
 have h8:=rn h6
 subst hT
 simp only[nZ,Bool.and_eq_true]
 exact⟨⟨⟨⟨⟨h1,by rw[sW];exact h2⟩,h7⟩,by rw[tg];exact h4⟩,by rw[yu];exact h5⟩,h8⟩
theorem eT(hT:fX md ops=T)(h:(nv T.2 l.toList==[i]&&l.toList.set i true==l'.toList)=true):lL md ops l l' i=true:=by
 simp only[Bool.and_eq_true] at h
 obtain⟨h1,h2⟩:=h
 subst hT
 simp only[lL,Bool.and_eq_true]
 exact⟨by rw[nx];exact h1,rn h2⟩
theorem fA(hT:fX md ops=T)(h:(nv T.2 l.toList==[])=true):(Region.ready md ops l==[])=true:=by
 subst hT
 rw[nx]
 exact h
def yU(B:List Nat)(d:Nat):List Nat→Nat
 |[]=>0
 |n::r=>(2^n|||(if n<d then B.getD n 0 else 0))|||yU B d r
def fC(T:List (List Nat×List Nat))(B:List Nat):Bool:=(List.range T.length).all fun d=>match T[d]? with
 |some r=>(B.getD d 0|||yU B d r.1)==yU B d r.1
 |none=>false
theorem sI{B:List Nat}{d i:Nat}: ∀{ns:List Nat},(yU B d ns).testBit i=true→ ∃n∈ns,n=i∨(n<d∧(B.getD n 0).testBit i=true)
 |[],h=>by simp[yU] at h
 |n::r,h=>by
  unfold yU at h
  rw[Nat.testBit_or,Nat.testBit_or,Bool.or_eq_true,Bool.or_eq_true] at h
  rcases h with(h|h)|h
  ·rw[Nat.testBit_two_pow] at h
   exact⟨n,List.mem_cons_self, .inl (by simpa using h)⟩
  ·by_cases hn:n<d
   ·rw[if_pos hn] at h
    exact⟨n,List.mem_cons_self, .inr ⟨hn,h⟩⟩
   ·rw[if_neg hn] at h
    simp at h
  ·obtain⟨m,hm,h2⟩:=sI h
   exact⟨m,List.mem_cons_of_mem _ hm,h2⟩
theorem oz{T:List (List Nat×List Nat)}{B:List Nat}(hB:fC T B=true): ∀(fuel d:Nat),d<fuel→d<T.length→(B.getD d 0).testBit i=true→ld T i fuel d=true
 |0,d,h,_,_=>by omega
 |fuel+1,d,h,hd,hb=>by
  have h1:=List.all_eq_true.1 hB d (List.mem_range.2 hd)
  cases hr:T[d]? with
  |none=>rw[hr] at h1;simp at h1
  |some r=>
   rw[hr] at h1
   simp only[beq_iff_eq] at h1
   have h2:(yU B d r.1).testBit i=true:=by rw[←h1,Nat.testBit_or,hb,Bool.true_or]
   obtain⟨n,hn,h3⟩:=sI h2
   unfold ld
   rw[hr]
   simp only
   rw[List.any_eq_true]
   refine⟨n,hn,?_⟩
   rcases h3 with rfl|⟨h4,h5⟩
   ·simp
   ·rw[oz hB fuel n (by omega) (by omega) h5,Bool.or_true]
def yD(T:List (List Nat×List Nat))(B:List Nat)(l:List Bool)(ds:List Nat)(i:Nat):Bool:=ds.all fun d=>l.getD d true||(decide (d<T.length)&&(B.getD d 0).testBit i)
def yH(T:Bool×List (List Nat×List Nat))(B:List Nat)(ds:List Nat)(l l':List Bool)(i:Nat):Bool:=T.1&&p8 T.2 l i&&iq T.2 l i&&mv T.2 l&&yD T.2 B l ds i&&(l.set i true==l')
theorem ch{B:List Nat}(hT:fX md ops=T)(hB:fC T.2 B=true)(h:yH T B ds l.toList l'.toList i=true):nZ md ops ds l l' i=true:=by
 refine yB hT ?_
 simp only[yH,wx,Bool.and_eq_true] at h ⊢
 obtain⟨⟨⟨⟨⟨h1,h2⟩,h3⟩,h4⟩,h5⟩,h6⟩:=h
 refine⟨⟨⟨⟨⟨h1,h2⟩,h3⟩,h4⟩,?_⟩,h6⟩
 unfold yD at h5
 unfold sH
 rw[List.all_eq_true] at h5 ⊢
 intro d hd
 have h7:=h5 d hd
 rw[Bool.or_eq_true,Bool.and_eq_true,decide_eq_true_eq] at h7
 rcases h7 with h7|⟨h8,h9⟩
 ·rw[h7,Bool.true_or]
 ·rw[oz hB _ d h8 h8 h9,Bool.or_true]
theorem dV{P:Program}{Q:Exit→Act→World→Prop}{S:World→Prop}{n:Nat}{a:Act}{w:World}{B:List Nat}(hT:fX md ops=T)(hB:fC T.2 B=true)(h:aa (fX md ops=T)→aa (fC T.2 B=true)→bx P md ops Q S ds n l a w):bx P md ops Q S ds n l a w:=h ⟨hT⟩ ⟨hB⟩
end
def kb:Code→Nat→Option (Array Oper)
 | .region id ops _,k=>if id==k then some ops else none
 | .seq a b,k=>match kb a k with
  |some o=>some o
  |none=>kb b k
 | .cond _ a b,k=>match kb a k with
  |some o=>some o
  |none=>kb b k
 | .block _ c,k=>kb c k
 | .loop c,k=>kb c k
 | .scope c,k=>kb c k
 | .rangeFunc _ _ a b,k=>match kb a k with
  |some o=>some o
  |none=>kb b k
 |_,_=>none
def opsOf(f:Func)(k:Nat):Array Oper:=((f.body.bind fun c=>kb c k)).getD #[]
end Go.Proofs.YtndkmnjbjlfeaaaGreatW.PrintLast
end
section
namespace Go.Proofs.YtndkmnjbjlfeaaaGreatW.PrintLast
section
variable {P:Program} {ops:Array Oper} {Q:Exit→Act→World→Prop} {md:Region.Mode} {S:World→Prop} {ds:List Nat} {T:Bool×List (List Nat×List Nat)}
end
end Go.Proofs.YtndkmnjbjlfeaaaGreatW.PrintLast
end
section
namespace Go.Proofs.YtndkmnjbjlfeaaaGreatW.PrintWords
open Go.RowKit
namespace Kd
section
variable {α:Type} {d:Kd α} {W:World} {g n:Nat} {S ok:Nat→Prop} {A:Option Addr} {ad:Addr} {xs:List α}
end
end Kd
end Go.Proofs.YtndkmnjbjlfeaaaGreatW.PrintWords
end
section
namespace Go.Proofs.YtndkmnjbjlfeaaaGreatW.PrintWords
open Go.RowKit
section
variable {w w' u:World} {m B g:Nat} {o:Obj} {row:Option Nat} {S:Nat→Prop} {a:Addr} {v:Value}
end
namespace Kd
section
variable {α:Type} {d:Kd α} {e base n m:Nat} {ok:Nat→Prop} {w w':World} {v:Value} {A:Option Addr} {xs:List α}
end
end Kd
end Go.Proofs.YtndkmnjbjlfeaaaGreatW.PrintWords
end
section
namespace Go.Proofs.YtndkmnjbjlfeaaaGreatW.PrintWords
theorem cI.one{α:Type}{R:α→List Value→Prop}{ps:List α}{cs:List Value}{p:α}{v:Value}(hp:R p [v])(h:cI R 1 ps cs):cI R 1 (p::ps) (v::cs):=by
 refine⟨by simp[h.1],fun j q hq=>?_⟩
 cases j with
 |zero=>
  simp only[List.getElem?_cons_zero,Option.some.injEq] at hq
  subst hq
  simpa using hp
 |succ j=>
  simp only[List.getElem?_cons_succ] at hq
  have h1:=h.2 j q hq
  simpa[Nat.mul_one] using h1
theorem cI.front{α:Type}{R:α→List Value→Prop}{size:Nat}{ps:List α}{cs c all:List Value}{p:α}(hp:R p c)(hc:c.length=size)(h:cI R size ps cs)(ha:c++cs=all):cI R size (p::ps) all:=by
 subst ha
 refine⟨by rw[List.length_append,hc,h.1,List.length_cons,Nat.succ_mul,Nat.add_comm],fun j q hq=>?_⟩
 cases j with
 |zero=>
  simp only[List.getElem?_cons_zero,Option.some.injEq] at hq
  subst hq
  rw[Nat.zero_mul,List.drop_zero,List.take_append_of_le_length (by omega),List.take_of_length_le (by omega)]
  exact hp
 |succ j=>
  simp only[List.getElem?_cons_succ] at hq
  have h1:=h.2 j q hq
  rw[Nat.succ_mul,List.drop_append,List.drop_of_length_le (by rw[hc];exact Nat.le_add_left _ _),List.nil_append,hc,Nat.add_sub_cancel]
  exact h1
theorem cI.c2{α:Type}{R:α→List Value→Prop}{ps:List α}{cs:List Value}{p:α}{va vb:Value}(hp:R p [va,vb])(h:cI R 2 ps cs):cI R 2 (p::ps) (va::vb::cs):=cI.front hp rfl h rfl
theorem cI.c3{α:Type}{R:α→List Value→Prop}{ps:List α}{cs:List Value}{p:α}{va vb vc:Value}(hp:R p [va,vb,vc])(h:cI R 3 ps cs):cI R 3 (p::ps) (va::vb::vc::cs):=cI.front hp rfl h rfl
theorem cI.c4{α:Type}{R:α→List Value→Prop}{ps:List α}{cs:List Value}{p:α}{va vb vc vd:Value}(hp:R p [va,vb,vc,vd])(h:cI R 4 ps cs):cI R 4 (p::ps) (va::vb::vc::vd::cs):=cI.front hp rfl h rfl
theorem cI.c5{α:Type}{R:α→List Value→Prop}{ps:List α}{cs:List Value}{p:α}{va vb vc vd ve:Value}(hp:R p [va,vb,vc,vd,ve])(h:cI R 5 ps cs):cI R 5 (p::ps) (va::vb::vc::vd::ve::cs):=cI.front hp rfl h rfl
theorem cI.c6{α:Type}{R:α→List Value→Prop}{ps:List α}{cs:List Value}{p:α}{va vb vc vd ve vf:Value}(hp:R p [va,vb,vc,vd,ve,vf])(h:cI R 6 ps cs):cI R 6 (p::ps) (va::vb::vc::vd::ve::vf::cs):=cI.front hp rfl h rfl
theorem cI.c7{α:Type}{R:α→List Value→Prop}{ps:List α}{cs:List Value}{p:α}{va vb vc vd ve vf vg:Value}(hp:R p [va,vb,vc,vd,ve,vf,vg])(h:cI R 7 ps cs):cI R 7 (p::ps) (va::vb::vc::vd::ve::vf::vg::cs):=cI.front hp rfl h rfl
theorem cI.c8{α:Type}{R:α→List Value→Prop}{ps:List α}{cs:List Value}{p:α}{va vb vc vd ve vf vg vh:Value}(hp:R p [va,vb,vc,vd,ve,vf,vg,vh])(h:cI R 8 ps cs):cI R 8 (p::ps) (va::vb::vc::vd::ve::vf::vg::vh::cs):=cI.front hp rfl h rfl
theorem cI.c9{α:Type}{R:α→List Value→Prop}{ps:List α}{cs:List Value}{p:α}{va vb vc vd ve vf vg vh vi:Value}(hp:R p [va,vb,vc,vd,ve,vf,vg,vh,vi])(h:cI R 9 ps cs):cI R 9 (p::ps) (va::vb::vc::vd::ve::vf::vg::vh::vi::cs):=cI.front hp rfl h rfl
theorem cI.ek{α:Type}{R:α→List Value→Prop}{ps:List α}{cs:List Value}{p:α}{va vb vc vd ve vf vg vh vi vj:Value}(hp:R p [va,vb,vc,vd,ve,vf,vg,vh,vi,vj])(h:cI R 10 ps cs):cI R 10 (p::ps) (va::vb::vc::vd::ve::vf::vg::vh::vi::vj::cs):=cI.front hp rfl h rfl
end Go.Proofs.YtndkmnjbjlfeaaaGreatW.PrintWords
end
section
namespace Go.Proofs.YtndkmnjbjlfeaaaGreatW.PrintLast
def up(b:Nat→Bool)(i:Nat):Nat→Bool:=fun j=>if j=i then true else b j
section
variable {P:Program} {ops:Array Oper} {Q:Exit→Act→World→Prop} {md:Region.Mode} {T:Bool×List (List Nat×List Nat)} {B:List Nat} {O:List Nat} {b:Nat→Bool} {i j n:Nat}
end
end Go.Proofs.YtndkmnjbjlfeaaaGreatW.PrintLast
end
section
namespace Go.Proofs.YtndkmnjbjlfeaaaGreatW.PrintWords
open Go.RowKit
theorem Kd.uU{α:Type}{d:Kd α}{e base:Nat}{ok ok':Nat→Prop}{w:World}{v:Value}{xs:List α}(hd: ∀{ok1 ok2:Nat→Prop} {x:α} {cs:List Value},d.M w base ok1 x cs→d.M w base ok2 x cs)(h:d.R e w base ok v xs)(hok: ∀k,v.ownBlock=some k→ok k→ok' k):d.R e w base ok' v xs:=by
 obtain⟨h0,inner,hown,hr⟩:=h
 exact⟨fun k hk=>hok k hk (h0 k hk),inner,hown,hr.j9 (fun _ _ hm=>hd hm)⟩
end Go.Proofs.YtndkmnjbjlfeaaaGreatW.PrintWords
namespace Go.Proofs.YtndkmnjbjlfeaaaGreatW.PrintLast
section
variable {ops:Array Oper} {a:Act} {o og:Oper} {g:Nat} {t:Tmp} {u:Bool}
end
end Go.Proofs.YtndkmnjbjlfeaaaGreatW.PrintLast
end
section
namespace Go.Proofs.YtndkmnjbjlfeaaaGreatW.PrintWords
open Go.RowKit
section
variable {P:Program} {ops:Array Oper} {rest:List Oper} {o:Oper} {a:Act} {Q:Exit→Act→World→Prop} {W:World}
theorem fq(hw:Region.wanted o (yielded ops a.tmps)=true)(h:wpList P ops Q ({o with guard:=none}::rest) a W):wpList P ops Q (o::rest) a W:=by
 have h1:Region.wanted {o with guard:=none} (yielded ops a.tmps)=true:=rfl
 unfold wpList at h ⊢
 rw[if_pos h1] at h
 rw[if_pos hw]
 exact h
end
end Go.Proofs.YtndkmnjbjlfeaaaGreatW.PrintWords
end
