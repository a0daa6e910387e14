/- Parts of this claim's texts, packed by wip/tools/prune.py: what the proof does not reach is left out. -/
import Derived.Test.YtndkmnjbjlfeaaaGreatPCt8
import Derived.ChangeArms
import Derived.DataElems
import Derived.DataReads
import Derived.Deep.Slices
import Derived.SizedLaws
section
namespace Go.Proofs.YtndkmnjbjlfeaaaGreat.fx
open Go Go.Deep Go.RowKit Go.Proofs.YtndkmnjbjlfeaaaGreatW.PrintWords
def fx(P:Program)(t:TypeId){α:Type}(k:Kd α)(ok:α→Prop):Prop:=
 ∀(H:Type) (enc:TypeId×Value→H) (w:World) (base fuel:Nat) (held:Bool) (cs:List Value) (x:DataW H×List MemPlace),DataW.trod enc P w base (fun _=>true) held fuel t cs=some x→(x.1.weights P t).all (· ≤reachBytes)=true→ ∃a,k.K w a cs∧ok a
variable {P:Program} {t e:TypeId}
theorem iO{k:IntKind}(ht:P.underlying t=some (.int k)):fx P t (Kd.int k) (fun n=>(Lit.int k n).wf=true):=by
 intro H enc w base fuel held cs x h _
 obtain⟨n,rfl,_,hw⟩:=DataW.trod_int ht h
 exact⟨n,rfl,hw⟩
theorem oq{α β:Type}{k:Kd α}{ok:α→Prop}(f:β→α)(g:α→β)(hg: ∀a,f (g a)=a)(h:fx P t k ok):fx P t (Kd.Ah k f) (fun b=>ok (f b)):=by
 intro H enc w base fuel held cs x hx hw
 obtain⟨a,hK,ho⟩:=h H enc w base fuel held cs x hx hw
 exact⟨g a,by show k.K w (f (g a)) cs;rw[hg];exact hK,by show ok (f (g a));rw[hg];exact ho⟩
theorem mf{H:Type}{P:Program}{e:TypeId}: ∀{ds:List (DataW H)},(DataW.weightsAll P e ds).all (· ≤reachBytes)=true→ ∀d∈ds,(d.weights P e).all (· ≤reachBytes)=true
 |[],_,d,hd=>by cases hd
 |x::ds,h,d,hd=>by
  rw[DataW.weightsAll,List.all_append,Bool.and_eq_true] at h
  rcases List.mem_cons.1 hd with rfl|hd
  ·exact h.1
  ·exact mf h.2 d hd
theorem fE{H:Type}{P:Program}: ∀{ts:List TypeId} {ds:List (DataW H)} {j:Nat} {t:TypeId} {d:DataW H},(DataW.weightsEach P ts ds).all (· ≤reachBytes)=true→ts[j]?=some t→ds[j]?=some d→(d.weights P t).all (· ≤reachBytes)=true
 |[],_,j,t,d,_,ht,_=>by simp at ht
 |_::_,[],j,t,d,_,_,hd=>by simp at hd
 |a::ts,x::ds,0,t,d,h,ht,hd=>by
  rw[DataW.weightsEach,List.all_append,Bool.and_eq_true] at h
  simp at ht hd
  subst ht;subst hd
  exact h.1
 |a::ts,x::ds,j+1,t,d,h,ht,hd=>by
  rw[DataW.weightsEach,List.all_append,Bool.and_eq_true] at h
  exact fE h.2 (by simpa using ht) (by simpa using hd)
theorem jE{α:Type} [Inhabited α]{k:Kd α}{ok:α→Prop}(ht:P.underlying t=some (.slice e))(hsz:P.cellsOf e=k.sz)(h:fx P e k ok):
  fx P t (Kd.slice e k) (fun l=>(∀x∈l,ok x)∧l.length*P.bytesOf e≤reachBytes):=by
 intro H enc w base fuel held cs x hx hw
 rcases open_slice ht hx with⟨rfl,_⟩|⟨a,len,cap,m,n,D,Pl,rfl,hb,hl,hm,hmm,rfl,hall⟩
 ·exact⟨[],⟨none,0,rfl,Nat.le_refl _,rfl,Nat.zero_le _,fun h=>absurd h (by simp)⟩,by simp,by simp⟩
 ·have hm2:m=cap:=by simpa using hmm
  have hw:(DataW.weights P t (.slice ((List.range len).map D) ((List.range (m-len)).map fun j=>D (len+j)))).all (· ≤reachBytes)=true:=hw
  rw[DataW.weights,ht] at hw
  simp only[List.all_cons,List.all_append,Bool.and_eq_true,decide_eq_true_eq] at hw
  obtain⟨hsize,hin,_⟩:=hw
  have hlb:len*P.bytesOf e≤reachBytes:=Nat.le_trans (Nat.mul_le_mul_right _ (by simp)) hsize
  obtain⟨X,hX⟩:=choose_lt (α:=α) (p:=fun i y=> ∃cs',w.cells? base (a.add (i*P.cellsOf e)) (P.cellsOf e)=some cs'∧k.K w y cs'∧ok y) (n:=len) (fun i hi=>by
   obtain⟨cs',h1,h2⟩:=hall i (by omega)
   obtain⟨y,hy,hok⟩:=h H enc w base n held cs' _ h2 (mf hin (D i) (List.mem_map.2 ⟨i,by simpa using hi,rfl⟩))
   exact⟨y,cs',h1,hy,hok⟩)
  refine⟨(List.range len).map X,⟨some a,cap,by simp,by simpa using hl,by simp,?_,fun _=>⟨a,rfl,?_⟩⟩,?_,by simpa using hlb⟩
  ·have:maxLen=9223372036854775807:=rfl
   simp;omega
  ·intro j p hp
   have hj:j<len:=by
    refine Classical.byContradiction fun c=>?_
    rw[List.getElem?_eq_none (by simp;omega)] at hp
    cases hp
   have hpx:X j=p:=by simpa[hj] using hp
   obtain⟨cs',h1,h2,_⟩:=hX j hj
   obtain⟨_,hlen,hc⟩:=World.cells?_some h1
   refine⟨cs',by rw[hlen,hsz],by rw[←hpx];exact h2,fun i u hu=>?_⟩
   have hi:i<P.cellsOf e:=by rw[←hlen];exact(List.getElem?_eq_some_iff.1 hu).1
   have:=hc i hi
   rw[Addr.add_add] at this
   rw[←hsz,this,hu]
  ·intro y hy
   obtain⟨i,hi,rfl⟩:=List.mem_map.1 hy
   exact(hX i (by simpa using hi)).choose_spec.2.2
theorem nP{α β:Type}{a:Kd α}{b:Kd β}{oka:α→Prop}{okb:β→Prop}{fs:Array Field}{f0 f1:Field}(ht:P.underlying t=some (.struct fs))(hf:fs= #[f0,f1])
  (o0:f0.offset=0) (o1:f1.offset=P.cellsOf f0.type) (n:P.cellsOf t=P.cellsOf f0.type+P.cellsOf f1.type) (ha:fx P f0.type a oka) (hb:fx P f1.type b okb):
  fx P t (Kd.pair a b) (fun x=>oka x.1∧okb x.2):=by
 intro H enc w base fuel held cs x hx hw
 subst hf
 obtain⟨xs,m,_,rfl,hl,hs,hall⟩:=DataW.trod_struct ht hx
 have hw:(DataW.weights P t (.agg (xs.map (·.1)))).all (· ≤reachBytes)=true:=hw
 rw[DataW.weights,ht] at hw
 have hwj: ∀(j:Nat) (f:Field) y,_[j]?=some f→xs[j]?=some y→(y.1.weights P f.type).all (· ≤reachBytes)=true:=fun j f y h1 h2=>fE (j:=j) hw (by rw[List.getElem?_map,h1];rfl) (by rw[List.getElem?_map,h2];rfl)
 obtain⟨x0,h0⟩: ∃y,xs[0]?=some y:=⟨_,List.getElem?_eq_getElem (by rw[hs];simp)⟩
 obtain⟨x1,h1⟩: ∃y,xs[1]?=some y:=⟨_,List.getElem?_eq_getElem (by rw[hs];simp)⟩
 obtain⟨y0,k0,p0⟩:=ha H enc w base m held _ x0 ((hall 0 f0 rfl).trans h0) (hwj 0 f0 x0 rfl h0)
 obtain⟨y1,k1,p1⟩:=hb H enc w base m held _ x1 ((hall 1 f1 rfl).trans h1) (hwj 1 f1 x1 rfl h1)
 rw[o0,List.drop_zero] at k0
 rw[o1,List.take_of_length_le (by simp;omega)] at k1
 exact⟨(y0,y1),⟨_,_,(List.take_append_drop _ cs).symm,k0,k1⟩,p0,p1⟩
theorem nJ{α β γ:Type}{a:Kd α}{b:Kd β}{c:Kd γ}{oka:α→Prop}{okb:β→Prop}{okc:γ→Prop}{fs:Array Field}{f0 f1 f2:Field}(ht:P.underlying t=some (.struct fs))(hf:fs= #[f0,f1,f2])
  (o0:f0.offset=0) (o1:f1.offset=P.cellsOf f0.type) (o2:f2.offset=P.cellsOf f0.type+P.cellsOf f1.type) (n:P.cellsOf t=P.cellsOf f0.type+P.cellsOf f1.type+P.cellsOf f2.type)
  (ha:fx P f0.type a oka) (hb:fx P f1.type b okb) (hc:fx P f2.type c okc):
  fx P t (Kd.pair a (Kd.pair b c)) (fun x=>oka x.1∧okb x.2.1∧okc x.2.2):=by
 intro H enc w base fuel held cs x hx hw
 subst hf
 obtain⟨xs,m,_,rfl,hl,hs,hall⟩:=DataW.trod_struct ht hx
 have hw:(DataW.weights P t (.agg (xs.map (·.1)))).all (· ≤reachBytes)=true:=hw
 rw[DataW.weights,ht] at hw
 have hwj: ∀(j:Nat) (f:Field) y,_[j]?=some f→xs[j]?=some y→(y.1.weights P f.type).all (· ≤reachBytes)=true:=fun j f y h1 h2=>fE (j:=j) hw (by rw[List.getElem?_map,h1];rfl) (by rw[List.getElem?_map,h2];rfl)
 obtain⟨x0,h0⟩: ∃y,xs[0]?=some y:=⟨_,List.getElem?_eq_getElem (by rw[hs];simp)⟩
 obtain⟨x1,h1⟩: ∃y,xs[1]?=some y:=⟨_,List.getElem?_eq_getElem (by rw[hs];simp)⟩
 obtain⟨x2,h2⟩: ∃y,xs[2]?=some y:=⟨_,List.getElem?_eq_getElem (by rw[hs];simp)⟩
 obtain⟨y0,k0,p0⟩:=ha H enc w base m held _ x0 ((hall 0 f0 rfl).trans h0) (hwj 0 f0 x0 rfl h0)
 obtain⟨y1,k1,p1⟩:=hb H enc w base m held _ x1 ((hall 1 f1 rfl).trans h1) (hwj 1 f1 x1 rfl h1)
 obtain⟨y2,k2,p2⟩:=hc H enc w base m held _ x2 ((hall 2 f2 rfl).trans h2) (hwj 2 f2 x2 rfl h2)
 rw[o0,List.drop_zero] at k0
 rw[o1] at k1
 rw[o2,List.take_of_length_le (by simp;omega)] at k2
 refine⟨(y0,y1,y2),⟨_,_,(List.take_append_drop (P.cellsOf f0.type) cs).symm,k0,_,_,?_,k1,k2⟩,p0,p1,p2⟩
 rw[←List.drop_drop]
 exact(List.take_append_drop _ _).symm
theorem sZ{H:Type}{enc:TypeId×Value→H}{α:Type}{k:Kd α}{ok:List α→Prop}(h:fx P t (Kd.slice e k) ok){w:World}{base:Nat}{held:Bool}{v:Value}{d:DataW H}{ps:List MemPlace}
  (hd:DataW.Trod enc P w base (fun _=>true) held t v d ps) (hv: ∃a len cap,v= .slice a len cap) (hw:(d.weights P t).all (· ≤reachBytes)=true): ∃(A:Option Addr) (c:Nat) (l:List α),v= .slice A l.length c∧l.length≤c∧k.C w A l.length l∧ok l:=by
 obtain⟨a,len,cap,rfl⟩:=hv
 obtain⟨fuel,hf⟩:=hd
 obtain⟨l,⟨A,c,he,hl,hc⟩,ho⟩:=h H enc w base fuel held _ _ hf hw
 refine⟨A,c,l,?_,hl,hc,ho⟩
 simpa[Value.cells] using he
end Go.Proofs.YtndkmnjbjlfeaaaGreat.fx
end
