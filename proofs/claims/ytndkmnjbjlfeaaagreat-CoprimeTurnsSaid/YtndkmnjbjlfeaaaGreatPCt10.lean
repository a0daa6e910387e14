/- Parts of this claim's texts, packed by wip/tools/prune.py: what the proof does not reach is left out. -/
import Derived.Test.YtndkmnjbjlfeaaaGreatPCt9
import Derived.LoopIn
import Derived.LoopNIn
import Derived.OwnWalkIn
import Derived.RangeFuncGives
import Derived.RangeFuncLeaves
import Derived.RegionIn
import Derived.Shelf.Abstract
import Derived.Sort.KeysCollected
import Derived.Sort.MapsRangeIn
import Derived.TacticsInMore
section
namespace Go.Proofs.YtndkmnjbjlfeaaaGreat.KeysU
open Go Go.Proofs Go.RowKit Go.Maps Go.Sort Go.Shelf
abbrev gJ:Int→Value:=Value.int .u64
theorem wP{x y:Int}(h:gJ x=gJ y):x=y:=by simpa[gJ] using h
theorem oc{P:Program}{k:TypeId}(hk:P.underlying k=some (.int .u64)){key:Value}{kl:Lit}(h:keyOf P k key=some kl): ∃x:Int,key=gJ x∧kl= .int .u64 x∧(Lit.int .u64 x).wf=true:=by
 cases key<;>simp[keyOf,hk,mapKey] at h
 rename_i q a
 obtain⟨⟨rfl,hw⟩,rfl⟩:=h
 exact⟨a,rfl,rfl,hw⟩
def iV{H:Type}(D0:DataW H)(ss:List Int):Prop:=ss.Nodup∧ ∀x,x∈ss↔has D0 (.int .u64 x)=true
def oJ{H:Type}(D0:DataW H)(left:Lit→Bool)(ss:List Int):Prop:=ss.Nodup∧ ∀x,x∈ss↔(has D0 (.int .u64 x)=true∧left (.int .u64 x)=false)
theorem oJ.start{H:Type}(D0:DataW H):oJ D0 (has D0) []:=⟨List.nodup_nil,fun x=>by cases has D0 (.int .u64 x)<;>simp⟩
theorem oJ.step{H:Type}{D0:DataW H}{left:Lit→Bool}{ss:List Int}(h:oJ D0 left ss){x:Int}{y:DataW H}(hlk:left (.int .u64 x)=true)(hat: ∀zd,D0.atKey (.int .u64 x) zd=y):
  oJ D0 (fun z=>left z&& !z.sameKey (.int .u64 x)) (ss++[x]):=by
 have hhas:has D0 (.int .u64 x)=true:=has_true_of_atKey hat
 have hnew:x∉ss:=fun hx=>by have:=((h.2 x).1 hx).2;rw[hlk] at this;cases this
 refine⟨List.nodup_append.2 ⟨h.1,by simp,fun a ha b hb=>by simp at hb;subst hb;exact fun e=>hnew (e▸ha)⟩,fun y=>?_⟩
 by_cases hy:y=x
 ·subst hy;simp[hhas,Lit.sameKey]
 ·simp[h.2 y,hy,Lit.sameKey]
theorem oJ.done{H:Type}{D0:DataW H}{left:Lit→Bool}{ss:List Int}(h:oJ D0 left ss)(hl: ∀kl,left kl=false):iV D0 ss:=⟨h.1,fun x=>by rw[h.2 x,hl];simp⟩
set_option maxRecDepth 100000 in
set_option maxHeartbeats 1000000 in
theorem ue{H:Type}{R:Value→Option (DataW H×List MemPlace)}(F:Fence)(n:Nat)(h10:F.fn 147)(hro:F.round=none)(hn:1≤n)(l Bm b nn:Nat)(D0:DataW H)(J:List Int→World→Prop)
  (hY: ∀pre x W,J pre W→pre.length<Maps.size D0→YieldAt F (n-1) Tryz.prog l #[gJ x] W fun e W'=>e= .returned (.bool true)∧J (pre++[x]) W'∧KeepsWalks W W')
  (W:World) (hJ:AbidesFrom W.heap.size J) (hm:W.cell? ⟨Bm,0,none⟩=some (.map (some b))) (hown:W.ownsMap Tryz.prog 22 R b nn D0) (h0:J [] W):
  CallsIn F n Tryz.prog 147 #[.func (.yield l) #[] #[], .pointer (some ⟨Bm,0,none⟩)] W fun e W'=>(∃v,e= .returned v)∧ ∃ss:List Int,iV D0 ss∧J ss W':=by
 refine callsIn_of_wp Tryz.func147 rfl h10 ?_ hro
 simp only[Tryz.ntmps147,List.size_toArray,List.length_cons,List.length_nil,Nat.reduceAdd,Nat.reduceSub,Array.replicate_succ,Array.replicate_zero,List.push_toArray,List.append_toArray,List.nil_append,List.cons_append]
 gi_wp2_with (first
  |(gi_at_range;refine wpListIn_range_own _ rfl _ 166 rfl 22 94 (int_keyed Tryz.underlying22) Tryz.underlying166 _ b nn _ rfl hown ?_;intro w0 hrg0 hg0 hs0)
  |gi_in)
 go_frame
 gi_loopw [3] (fun _ wr=> ∃(left:Lit→Bool) (cnt:Nat) (ss:List Int),wr.ranges Tryz.prog 22 R b W.heap.size nn D0 left cnt∧ss.length+cnt≤Maps.size D0∧oJ D0 left ss∧J ss wr)
  (fun _ wr=>wr.rangeLeft b W.heap.size)
 case atStart=>
  exact⟨_,_,[],hrg0,by simp,oJ.start D0,hJ [] W w0 none h0 hg0 (fun r e=>by cases e)⟩
 case round=>
  obtain⟨left,cnt,ss,hrg,hcs,hC,hJs⟩:=hrel
  gi_wp2_with (first
   |(gi_at_next;refine wpListIn_next_ranges _ rfl _ rfl 22 (int_keyed Tryz.underlying22) R gJ id (fun key kl hk=>by obtain⟨x,hx,_⟩:=oc Tryz.underlying22 hk;exact⟨x,hx⟩) (fun v _ _=>⟨v,rfl⟩) b W.heap.size nn _ _ _ rfl hrg ?_ ?_)
   |gi_in)
  ·
   intro hc0 hl0
   gi_wp2
   go_end0
   exact⟨⟨_,rfl⟩,ss,hC.done hl0,hJs⟩
  ·
   intro x c kl yd yp w2 cnt2 hkey hlk hv hat hrg2 hlt hg2 hs2 hen
   obtain⟨x',ex,rfl,_⟩:=oc Tryz.underlying22 hkey
   obtain rfl:x=x':=wP ex
   have hJ2:J ss w2:=hJ ss wr w2 (some W.heap.size) hJs hg2 (fun r e=>by cases e;exact⟨Nat.le_refl _,hrg.iter_walk⟩)
   obtain⟨fn,tmps,assign,body,hy,hR⟩:=hY ss x w2 hJ2 (by omega)
   clear hs2
   gi_wp2
   refine hR.mono ?_
   rintro e W3 ⟨rfl,hJ3,hk3⟩
   gi_wp2
   have hrg3:=hrg2.of_walks hk3
   go_roundw
   case rel=>exact⟨_,cnt2,ss++[x],hrg3,by simp;omega,hC.step hlk hat,hJ3⟩
   case measure=>rw[hrg3.left_eq,hrg.left_eq];exact hlt
theorem qX{H:Type}{R:Value→Option (DataW H×List MemPlace)}(F:Fence)(n:Nat)(h10:F.fn 147)(hro:F.round=none)(hn:1≤n)(Bm b nn:Nat)(D0:DataW H)(w:World)(hBm:Bm<w.heap.size)
  (hm:w.cell? ⟨Bm,0,none⟩=some (.map (some b))) (hown:w.ownsMap Tryz.prog 22 R b nn D0):
  SeqGives F n Tryz.prog 147 #[.pointer (some ⟨Bm,0,none⟩)] gJ (fun ss=>iV D0 ss) (Maps.size D0) w:=fun l J W hW hJ hY h0=>by
 have hown':W.ownsMap Tryz.prog 22 R b nn D0:=by
  have hbl:=hown.lt
  obtain⟨es,clock,hb,Ft,hs,hD⟩:=hown
  exact⟨es,clock,(hW.block b hbl).trans hb,Ft,hs,hD⟩
 exact ue F n h10 hro hn l Bm b nn D0 J hY W hJ ((hW.cell (p:=⟨Bm,0,none⟩) hBm).trans hm) hown' h0
set_option maxHeartbeats 1000000 in
theorem wX(F:Fence)(n:Nat)(h7:F.fn 119)(hro:F.round=none)(mb:Option Nat)(w:World):
  CallsIn F n Tryz.prog 119 #[.map mb] w fun e w'=>e= .returned (.func (.func 147) #[] #[.pointer (some ⟨w.heap.size,0,none⟩)])∧w'=w.alloc (.cells #[.map mb] 166):=by
 refine callsIn_of_wp Tryz.func119 rfl h7 ?_ hro
 simp only[Tryz.ntmps119,List.size_toArray,List.length_cons,List.length_nil,Nat.reduceAdd,Nat.reduceSub,Array.replicate_succ,Array.replicate_zero,List.push_toArray,List.append_toArray,List.nil_append,List.cons_append]
 gi_wp2
 go_ret
 exact⟨rfl,rfl⟩
def nj:Code:=(Code.region 2 #[{dst:=some 5,op:=Op.assign (Operand.tmp 7),type:=22,pos:= "iter.go:51",after:= #[],guard:=none}] false)
def q7:Code:=(Code.block 1 (Code.region 3 #[{dst:=some 8,op:=Op.load 26 (Operand.tmp 2),type:=26,pos:= "iter.go:52",after:= #[],guard:=none},{dst:=some 9,op:=Op.move (Operand.tmp 5),type:=22,pos:= "iter.go:52",after:= #[],guard:=none},{dst:=some 10,op:=Op.buildSlice 26 1 #[(0,Operand.tmp 9)],type:=26,pos:= "iter.go:52",after:= #[{on:=1,ground:=Ground.data}],guard:=none},{dst:=some 11,op:=Op.call {callee:=Callee.builtin Builtin.append,args:= #[Operand.tmp 8,Operand.tmp 10],argTypes:= #[26,26]},type:=26,pos:= "iter.go:52",after:= #[{on:=0,ground:=Ground.data},{on:=2,ground:=Ground.data}],guard:=none},{dst:=none,op:=Op.store 26 (Operand.tmp 2) (Operand.tmp 11),type:=0,pos:= "iter.go:52",after:= #[{on:=3,ground:=Ground.data},{on:=3,ground:=Ground.chain},{on:=0,ground:=Ground.phase},{on:=1,ground:=Ground.phase},{on:=2,ground:=Ground.phase},{on:=3,ground:=Ground.phase}],guard:=none}] false))
def jD(fn:FuncId)(sv:Value)(Bs D:Nat)(st:LoopState)(pend:Option Code):Loop:=
 {state:=st,pending:=pend,fn,tmps:= #[.slice none 0 0,sv, .pointer (some ⟨Bs,0,none⟩),undef, .slice none 0 0,undef,sv,undef,undef,undef,undef,undef,undef],params:= #[7],assign:=nj,body:=q7,defers:=D}
structure vW (w0:World) (fn:FuncId) (sv:Value) (Bs l D:Nat) (ss:List Int) (W:World):Prop where
 box: ∃v,W.heap[Bs]?=some (.cells #[v] 26 (0,0))∧W.ownsRow w0.heap.size 22 1 v ss.length (ss.map gJ)∧(v= .slice none 0 0↔ss=[])
 L:W.heap[l]?=some (.loop (jD fn sv Bs D .ready none))
 K:W.heap[D]?=some (.deferred (some []))
 below:Below w0.heap.size w0 W
theorem nq{W W':World}{row:Option Nat}{base:Nat}{e:TypeId}{size:Nat}{v:Value}{k:Nat}{xs:List Value}(h:W.ownsRow base e size v k xs)(hg:W.grownBy W' row)
  (hrow: ∀r,row=some r→ ∃o:Obj,W.heap[r]?=some o∧o.isWalk=true):W'.ownsRow base e size v k xs:=by
 refine h.kept hg ?_
 rcases h.2 with⟨rfl,_⟩|⟨g,cap,cur,rfl,_,hgb,_⟩
 ·exact .inl rfl
 ·refine .inr fun e'=>?_
  obtain⟨o,ho,hw⟩:=hrow g (by simpa[Value.ownBlock] using e'.symm)
  rw[hgb] at ho;cases ho;cases hw
theorem te(w0:World)(fn:FuncId)(sv:Value)(Bs l D B:Nat)(hB:w0.heap.size≤B):AbidesFrom B (vW w0 fn sv Bs l D):=fun s W W' row h hg hrow=>by
 have hrow': ∀r,row=some r→ ∃o:Obj,W.heap[r]?=some o∧o.isWalk=true:=fun r e=>(hrow r e).2
 obtain⟨v,hv,hr,hn⟩:=h.box
 exact⟨⟨v,(grownBy_keeps hg hrow' hv rfl).trans hv,nq hr hg hrow',hn⟩,(grownBy_keeps hg hrow' h.L rfl).trans h.L,(grownBy_keeps hg hrow' h.K rfl).trans h.K,
  h.below.grown hg h.below.size (fun k e=>Nat.le_trans hB (hrow k e).1)⟩
theorem eH(W:World)(l:Nat)(o:Obj):W.grownBy (W.putObj l o) (some l):=
 ⟨rfl,rfl,rfl,by simp,fun k _ hk=>World.putObj_heap_other (fun e=>hk (by rw[e]))⟩
theorem lB(W:World)(b:Nat)(v:Value):W.grownBy (W.setCell ⟨b,0,none⟩ v) (some b):=
 ⟨rfl,rfl,rfl,(KeepsWalks.setCell W _ v).size,fun k _ hk=>Below.heap_setCell _ _ _ k (fun e=>hk (by rw[e]))⟩
theorem gj{W:World}{base:Nat}{e:TypeId}{size:Nat}{v:Value}{k:Nat}{xs:List Value}(h:W.ownsRow base e size v k xs){j:Nat}{o:Obj}(hj:W.heap[j]?=some o)(hno: ∀cur,o≠ .cells cur e (0,0)):
  v.ownBlock=none∨v.ownBlock≠some j:=by
 rcases h.2 with⟨rfl,_⟩|⟨g,cap,cur,rfl,_,hgb,_⟩
 ·exact .inl rfl
 ·refine .inr fun e'=>?_
  have:g=j:=by simpa[Value.ownBlock] using e'
  subst this;rw[hgb] at hj;cases hj;exact hno cur rfl
theorem js{W:World}{B:Nat}{v:Value}{t:TypeId}(h:W.heap[B]?=some (.cells #[v] t (0,0))):W.cell? ⟨B,0,none⟩=some v∧W.frozen? ⟨B,0,none⟩=false:=by
 constructor<;>simp[World.cell?,World.frozen?,h]
theorem lJ{W:World}{B:Nat}{v:Value}{t:TypeId}(v':Value)(h:W.heap[B]?=some (.cells #[v] t (0,0))):(W.setCell ⟨B,0,none⟩ v').heap[B]?=some (.cells #[v'] t (0,0)):=by
 obtain⟨hlt,hk⟩:=Array.getElem?_eq_some_iff.1 h
 show(W.heap.modify B _)[B]?=_
 rw[Array.getElem?_eq_getElem (by rw[Array.size_modify];exact hlt),Array.getElem_modify_self,hk]
 rfl
theorem lu{W:World}{base:Nat}{e:TypeId}{size:Nat}{v:Value}{k:Nat}{xs:List Value}(h:W.ownsRow base e size v k xs): ∀(j:Nat) (o:Obj),v.ownBlock=some j→W.heap[j]?=some o→o.isWalk=false:=by
 intro j o hj ho
 rcases h.2 with⟨rfl,_⟩|⟨g,cap,cur,rfl,_,hgb,_⟩
 ·simp[Value.ownBlock] at hj
 ·have:g=j:=by simpa[Value.ownBlock] using hj
  subst this;rw[hgb] at ho;cases ho;rfl
theorem wD:(Tryz.prog.info? 22).map (fun i=>(i.zero,i.size,i.bytes))=some (some (.int .u64 0),1,8):=by kernel_rfl
set_option maxRecDepth 100000 in
set_option maxHeartbeats 2000000 in
theorem xD (F : Fence) (m : Nat) (w0 : World) (fn : FuncId) (hfn : F.fn fn) (sv : Value) (Bs l D : Nat) (hBl : Bs ≠ l) (hDl : D ≠ l) (hDB : D ≠ Bs) (h0B : w0.heap.size ≤ Bs) (h0l : w0.heap.size ≤ l)
    (N : Nat) (hN : N ≤ maxLen) (hNb : N * 8 ≤ 140737488355328) (ss : List Int) (x : Int) (W : World) (h : vW w0 fn sv Bs l D ss W) (hlen : ss.length < N) :
    YieldAt F m Tryz.prog l #[gJ x] W fun e W' => e = .returned (.bool true) ∧ vW w0 fn sv Bs l D (ss ++ [x]) W' ∧ KeepsWalks W W' := by
  obtain ⟨i0, hi, hz0, hz1, hz2⟩ := info_parts wD
  obtain ⟨v, hv, hrow, _⟩ := h.box
  refine ⟨fn, #[.slice none 0 0, sv, .pointer (some ⟨Bs, 0, none⟩), undef, .slice none 0 0, undef, sv, gJ x, undef, undef, undef, undef, undef], nj, q7, by simpa [jD] using run_yield (P := Tryz.prog) (args := #[gJ x]) h.L rfl, roundIn_of_wpIn hfn ?_⟩
  have hl : l < W.heap.size := (Array.getElem?_eq_some_iff.1 h.L).1
  have hbr := run_beginRound (P := Tryz.prog) h.L rfl
  obtain ⟨W2, hW2⟩ : ∃ W2, W.putObj l (.loop { jD fn sv Bs D .ready none with state := .busy }) = W2 := ⟨_, rfl⟩
  rw [hW2] at hbr
  have hg2 : W.grownBy W2 (some l) := by rw [← hW2]; exact eH _ _ _
  have hk2 : KeepsWalks W W2 := by rw [← hW2]; exact KeepsWalks.putObj _ h.L rfl
  have hv2 : W2.heap[Bs]? = some (.cells #[v] 26 (0, 0)) := by rw [← hW2]; exact (World.putObj_heap_other hBl).trans hv
  have hK2 : W2.heap[D]? = some (.deferred (some [])) := by rw [← hW2]; exact (World.putObj_heap_other hDl).trans h.K
  have hL2 : W2.heap[l]? = some (.loop { jD fn sv Bs D .ready none with state := .busy }) := by rw [← hW2]; exact World.putObj_heap_same hl
  have hrow2 : W2.ownsRow w0.heap.size 22 1 v ss.length (ss.map gJ) := hrow.kept hg2 (gj hrow h.L (fun cur e => by cases e))
  have hb2 : Below w0.heap.size w0 W2 := h.below.grown hg2 h.below.size (fun k e => by cases e; exact h0l)
  obtain ⟨hc2, hf2⟩ := js hv2
  have hBlt : Bs < W2.heap.size := (Array.getElem?_eq_some_iff.1 hv2).1
  have hl2 : l < W2.heap.size := (Array.getElem?_eq_some_iff.1 hL2).1
  have hDlt : D < W2.heap.size := (Array.getElem?_eq_some_iff.1 hK2).1
  have ne_of : ∀ {j : Nat} {o : Obj}, W2.heap[j]? = some o → (∀ cur, o ≠ .cells cur 22 (0, 0)) → some j ≠ v.ownBlock := fun hj hno => by
    rcases gj hrow2 hj hno with e | e
    · rw [e]; simp
    · exact fun e' => e e'.symm
  clear hW2
  unfold nj
  gi_wp2_with (rw [Oper.semAt_eq _ _ _ (fun c h => by cases h)]; go_simp; try go_bits)
  unfold q7
  gi_wp2_with (first
    | (gi_at_builtin; refine wpListIn_append_own _ rfl _ _ 26 rfl w0.heap.size 22 i0 (.int .u64 0) 1 8 Tryz.underlying26 hi hz0 hz1 hz2 rfl (by decide) _ _ _ rfl (hrow2.alloc _) ⟨W2.heap.size, 0, none⟩ 1 1 [gJ x] rfl rfl (cell_one_new _ _ _) (by simp [Value.oneCell', gJ]) (by omega) (by omega) (by have := hb2.size; simp; omega) ?_; intro v' w3 hown' hg3 hnil3
       have hv3 : w3.heap[Bs]? = some (.cells #[v] 26 (0, 0)) := (hg3.block Bs (by simp; omega) (ne_of hv2 (fun cur e => by cases e))).trans ((Below.heap_alloc _ _ Bs hBlt).trans hv2)
       obtain ⟨hc3, hf3⟩ := js hv3
       obtain ⟨g', cap', cur', rfl, hbase', hgb', hr1, hr2, hr3, hr4⟩ : ∃ g' cap' cur', v' = .slice (some ⟨g', 0, none⟩) (ss.length + 1) cap' ∧ w0.heap.size ≤ g' ∧ w3.heap[g']? = some (.cells cur' 22 (0, 0)) ∧ ss.length + 1 ≤ cap' ∧ cap' ≤ maxLen ∧ cur'.size = cap' * 1 ∧ cur'.toList.take ((ss.length + 1) * 1) = ss.map gJ ++ [gJ x] := by
         rcases hown'.2 with ⟨_, h0⟩ | h'
         · exact absurd h0 (by omega)
         · exact h'
       go_frame)
    | (rw [Oper.semAt_eq _ _ _ (fun c h => by cases h)]; go_simp; try go_bits))
  have hg3' : (W2.alloc (.cells #[gJ x] 22)).grownBy w3 v.ownBlock := hg3
  have hL3 : w3.heap[l]? = some (.loop { jD fn sv Bs D .ready none with state := .busy }) := (hg3'.block l (by simp; omega) (ne_of hL2 (fun cur e => by cases e))).trans ((Below.heap_alloc _ _ l hl2).trans hL2)
  have hK3 : w3.heap[D]? = some (.deferred (some [])) := (hg3'.block D (by simp; omega) (ne_of hK2 (fun cur e => by cases e))).trans ((Below.heap_alloc _ _ D hDlt).trans hK2)
  obtain ⟨w4, hw4⟩ : ∃ w4, w3.setCell ⟨Bs, 0, none⟩ (.slice (some ⟨g', 0, none⟩) (ss.length + 1) cap') = w4 := ⟨_, rfl⟩
  rw [hw4]
  have hg4 : w3.grownBy w4 (some Bs) := by rw [← hw4]; exact lB _ _ _
  have hv4 : w4.heap[Bs]? = some (.cells #[.slice (some ⟨g', 0, none⟩) (ss.length + 1) cap'] 26 (0, 0)) := by rw [← hw4]; exact lJ _ hv3
  have hL4 : w4.heap[l]? = some (.loop { jD fn sv Bs D .ready none with state := .busy }) := (hg4.block l (Array.getElem?_eq_some_iff.1 hL3).1 (fun e => hBl (by cases e; rfl))).trans hL3
  have hK4 : w4.heap[D]? = some (.deferred (some [])) := (hg4.block D (Array.getElem?_eq_some_iff.1 hK3).1 (fun e => hDB (by cases e; rfl))).trans hK3
  have hrow4 := hown'.kept hg4 (gj hown' hv3 (fun cur e => by cases e))
  have hl4 : l < w4.heap.size := (Array.getElem?_eq_some_iff.1 hL4).1
  have hb3 : Below w0.heap.size w0 w3 := (hb2.alloc hb2.size _).grown hg3' (by have := hb2.size; simp; omega) (fun k e => (hrow2.lt k e).1)
  have hb4 : Below w0.heap.size w0 w4 := hb3.grown hg4 hb3.size (fun k e => by cases e; exact h0B)
  have hk4 : KeepsWalks W w4 := ((hk2.trans (KeepsWalks.alloc _ _)).trans (KeepsWalks.of_grownBy hg3' (lu (hrow2.alloc _)))).trans (by rw [← hw4]; exact KeepsWalks.setCell _ _ _)
  clear hw4
  refine ⟨_, _, run_endRound none hL4, rfl, ⟨⟨_, (World.putObj_heap_other hBl).trans hv4, ?_, by simp⟩, World.putObj_heap_same hl4, (World.putObj_heap_other hDl).trans hK4, hb4.grown (eH _ _ _) hb4.size (fun k e => by cases e; exact h0l)⟩, hk4.trans (KeepsWalks.putObj _ hL4 rfl)⟩
  have := hrow4.kept (eH w4 l (.loop { { jD fn sv Bs D .ready none with state := .busy } with state := if (none : Option Code).isNone then .ready else .done, pending := none })) (gj hrow4 hL4 (fun cur e => by cases e))
  simpa using this
set_option maxRecDepth 100000 in
set_option maxHeartbeats 2000000 in
theorem pe(F:Fence)(n:Nat)(h11:F.fn 163)(hro:F.round=none)(hn:2≤n)(g:Nat)(lb:Array Value)(hFg:F.fn g)(eg: ∀args w,(callFunc g args).run Tryz.prog w= .ok (.enter g args) w)
  (S:List Int→Prop) (N:Nat) (hN:N≤maxLen) (hNb:N*8≤140737488355328) (w:World) (hseq:SeqGives F (n-1) Tryz.prog g lb gJ S N w):
  CallsIn F n Tryz.prog 163 #[.slice none 0 0, .func (.func g) #[] lb] w fun e w'=> ∃(v:Value) (ss:List Int),e= .returned v∧S ss∧w'.ownsRow w.heap.size 22 1 v ss.length (ss.map gJ)∧(v= .slice none 0 0↔ss=[])∧Below w.heap.size w w':=by
 have h1:1≤n:=by omega
 refine callsIn_of_wp_marks Tryz.func163 rfl h11 ?_ hro
 simp only[Tryz.ntmps163,List.size_toArray,List.length_cons,List.length_nil,Nat.reduceAdd,Nat.reduceSub,Array.replicate_succ,Array.replicate_zero,List.push_toArray,List.append_toArray,List.nil_append,List.cons_append]
 gi_wp2
 refine wpIn_rangeFunc ?_
 intro fn hfn
 rw[hro]
 obtain⟨W0,hW0⟩: ∃W0,w.alloc (.cells #[.slice none 0 0] 26)=W0:=⟨_,rfl⟩
 have hs0:W0.heap.size=w.heap.size+1:=by rw[←hW0];simp
 have hv0:W0.heap[w.heap.size]?=some (.cells #[.slice none 0 0] 26 (0,0)):=by rw[←hW0];exact World.alloc_heap_new w _
 have hb0:Below w.heap.size w W0:=by rw[←hW0];exact(Below.refl _ w).alloc (Nat.le_refl _) _
 rw[hW0]
 obtain⟨W1,hW1⟩: ∃W1,(W0.alloc (.deferred (some []))).alloc (.loop (jD fn (.func (.func g) #[] lb) w.heap.size W0.heap.size .ready none))=W1:=⟨_,rfl⟩
 have hold: ∀k,k<W0.heap.size→W1.heap[k]?=W0.heap[k]?:=fun k hk=>by
  rw[←hW1];exact(Below.heap_alloc _ _ k (by simp;omega)).trans (Below.heap_alloc _ _ k hk)
 have hb1:Below w.heap.size w W1:=by rw[←hW1];exact(hb0.alloc hb0.size _).alloc (by have:=hb0.size;simp;omega) _
 have hs1:W1.heap.size=W0.heap.size+2:=by rw[←hW1];simp
 have hM:vW w fn (.func (.func g) #[] lb) w.heap.size (W0.heap.size+1) W0.heap.size [] W1:=
  ⟨⟨_,(hold w.heap.size (by omega)).trans hv0,⟨rfl, .inl ⟨rfl,rfl⟩⟩,by simp⟩,
  by rw[←hW1];have:=World.alloc_heap_new (W0.alloc (.deferred (some []))) (.loop (jD fn (.func (.func g) #[] lb) w.heap.size W0.heap.size .ready none));rwa[World.size_alloc] at this,
  by rw[←hW1];exact(Below.heap_alloc _ _ _ (by simp)).trans (World.alloc_heap_new W0 _),hb1⟩
 refine⟨W0.heap.size+1,[{target:= .collected W0.heap.size,args:= #[]}],W1,{target:= .fn (.func g) lb,args:= #[.func (.yield (W0.heap.size+1)) #[] #[]]},W1,g,
  #[.func (.yield (W0.heap.size+1)) #[] #[]]++lb,W1,?_,?_,?_,?_,fun _=>h1,?_⟩
 ·rw[←hW1];exact run_enterLoop_outer _ _ _ _ _
 ·simp[resolve,go_sem]
 ·intro f' hf';simp[Target.leads] at hf';subst hf';exact hFg
 ·simp[invoke,go_sem,eg]
 ·refine(hseq (W0.heap.size+1) (vW w fn (.func (.func g) #[] lb) w.heap.size (W0.heap.size+1) W0.heap.size) W1 hb1 (te _ _ _ _ _ _ _ hb1.size)
   (fun pre x W hJ hl=>xD F (n-1-1) w fn hfn _ w.heap.size (W0.heap.size+1) W0.heap.size (by omega) (by omega) (by omega) (Nat.le_refl _) (by omega) N hN hNb pre x W hJ hl) hM).mono ?_
  rintro e W2 ⟨⟨v0,rfl⟩,ss,hS,h2⟩
  obtain⟨v,hv,hrow,hnil⟩:=h2.box
  have hend:=run_endLoop (P:=Tryz.prog) h2.L (by simp[jD])
  obtain⟨W3,hW3⟩: ∃W3,W2.putObj (W0.heap.size+1) (.loop {jD fn (.func (.func g) #[] lb) w.heap.size W0.heap.size .ready none with state:= .exhausted})=W3:=⟨_,rfl⟩
  rw[hW3] at hend
  have hg3:W2.grownBy W3 (some (W0.heap.size+1)):=by rw[←hW3];exact eH _ _ _
  have hv3:W3.heap[w.heap.size]?=some (.cells #[v] 26 (0,0)):=by rw[←hW3];exact(World.putObj_heap_other (by omega)).trans hv
  have hK3:W3.heap[W0.heap.size]?=some (.deferred (some [])):=by rw[←hW3];exact(World.putObj_heap_other (by omega)).trans h2.K
  have hrow3:=hrow.kept hg3 (gj hrow h2.L (fun cur e=>by cases e))
  have hb3:Below w.heap.size w W3:=h2.below.grown hg3 h2.below.size (fun k e=>by cases e;omega)
  obtain⟨hc3,hf3⟩:=js hv3
  clear hW3
  refine⟨none,W3,hend,?_⟩
  gi_wp2
  rw[←hs0]
  refine⟨by simp, .inl ⟨_,_,rfl,run_takeDeferred hK3,?_⟩⟩
  exact⟨_,results_tmp rfl _ _ _,v,ss,rfl,hS,hrow3.kept (eH _ _ _) (gj hrow3 hK3 (fun cur e=>by cases e)),hnil,hb3.grown (eH _ _ _) hb3.size (fun k e=>by cases e;omega)⟩
set_option maxHeartbeats 1000000 in
theorem rH(F:Fence)(n:Nat)(h8:F.fn 145)(h11:F.fn 163)(hro:F.round=none)(hn:3≤n)(g:Nat)(lb:Array Value)(hFg:F.fn g)(eg: ∀args w,(callFunc g args).run Tryz.prog w= .ok (.enter g args) w)
  (S:List Int→Prop) (N:Nat) (hN:N≤maxLen) (hNb:N*8≤140737488355328) (w:World) (hseq:SeqGives F (n-1-1) Tryz.prog g lb gJ S N w):
  CallsIn F n Tryz.prog 145 #[.func (.func g) #[] lb] w fun e w'=> ∃(v:Value) (ss:List Int),e= .returned v∧S ss∧w'.ownsRow w.heap.size 22 1 v ss.length (ss.map gJ)∧(v= .slice none 0 0↔ss=[])∧Below w.heap.size w w':=by
 have h1:1≤n:=by omega
 refine callsIn_of_wp Tryz.func145 rfl h8 ?_ hro
 simp only[Tryz.ntmps145,List.size_toArray,List.length_cons,List.length_nil,Nat.reduceAdd,Nat.reduceSub,Array.replicate_succ,Array.replicate_zero,List.push_toArray,List.append_toArray,List.nil_append,List.cons_append]
 gi_wp2_with (gi_at_call 163;refine(pe F (n-1) h11 hro (by omega) g lb hFg eg S N hN hNb _ hseq).mono ?_;rintro e w' ⟨v,ss,rfl,hS,hrow,hnil,hb⟩)
 go_ret
 exact⟨v,ss,rfl,hS,hrow,hnil,hb⟩
end Go.Proofs.YtndkmnjbjlfeaaaGreat.KeysU
end
section
namespace Go.Proofs.YtndkmnjbjlfeaaaGreat.KeysU
open Go Go.Proofs Go.RowKit Go.Maps Go.Sort Go.Proofs.YtndkmnjbjlfeaaaGreatW.PrintWords Go.Proofs.YtndkmnjbjlfeaaaGreatW.PrintLast Go.Proofs.YtndkmnjbjlfeaaaGreatW.PrintMore Go.Proofs.YtndkmnjbjlfeaaaGreat.Given Go.Proofs.YtndkmnjbjlfeaaaGreat.XQ
theorem tL{w:World}{base:Nat}{e:TypeId}{v:Value}{ss:List Int}(h:w.ownsRow base e 1 v ss.length (ss.map gJ)):Kd.R (Kd.int .u64) e w base (fun _=>True) v ss:=by
 exact Kd.py (by simpa[iD] using h) (fun _ _=>trivial)
theorem nL{g:Nat}{lb:Array Value}(eg: ∀args w,(callFunc g args).run Tryz.prog w= .ok (.enter g args) w)(S:List Int→Prop)(N:Nat)(hN:N≤maxLen)(hNb:N*8≤140737488355328)(w:World)
  (hseq:SeqGives Fence.wide 4 Tryz.prog g lb gJ S N w):
  Calls Tryz.prog 145 #[.func (.func g) #[] lb] w fun e w'=> ∃(v:Value) (ss:List Int),e= .returned v∧S ss∧Kd.R (Kd.int .u64) 22 w' w.heap.size (fun _=>True) v ss∧Below w.heap.size w w':=by
 refine(callsIn_wide.1 (rH Fence.wide 6 trivial trivial rfl (by omega) g lb trivial eg S N hN hNb w hseq)).mono ?_
 rintro e w' ⟨v,ss,rfl,hS,hrow,_,hb⟩
 exact⟨v,ss,rfl,hS,tL hrow,hb⟩
theorem qZ(mb:Option Nat)(w:World):Calls Tryz.prog 119 #[.map mb] w fun e w'=>
  e= .returned (.func (.func 147) #[] #[.pointer (some ⟨w.heap.size,0,none⟩)])∧w'=w.alloc (.cells #[.map mb] 166):=
 callsIn_wide.1 (wX Fence.wide 5 trivial rfl mb w)
theorem rX: ∀args w,(callFunc 147 args).run Tryz.prog w= .ok (.enter 147 args) w:=
 enters_of Tryz.func147 (by kernel_rfl) rfl
theorem mF{H:Type}{R:Value→Option (DataW H×List MemPlace)}(b nn:Nat)(D0:DataW H)(w:World)(hown:w.ownsMap Tryz.prog 22 R b nn D0):
  SeqGives Fence.wide 4 Tryz.prog 147 #[.pointer (some ⟨w.heap.size,0,none⟩)] gJ (fun ss=>iV D0 ss) (Maps.size D0) (w.alloc (.cells #[.map (some b)] 166)):=
 qX Fence.wide 4 trivial rfl (by omega) w.heap.size b nn D0 _ (by simp) (by simp) (by
  have hbl:=hown.lt
  obtain⟨es,clock,hb,Ft,hs,hD⟩:=hown
  exact⟨es,clock,(Below.heap_alloc _ _ b hbl).trans hb,Ft,hs,hD⟩)
set_option maxHeartbeats 1000000 in
theorem oI{g:Nat}{lb:Array Value}(eg: ∀args w,(callFunc g args).run Tryz.prog w= .ok (.enter g args) w)(S:List Int→Prop)(hS12: ∀ss,S ss→ss.length≤12)(N:Nat)(hN:N≤1000)(w:World)
  (hseq:SeqGives Fence.wide 4 Tryz.prog g lb gJ S N w):
  Calls Tryz.prog 118 #[.func (.func g) #[] lb] w fun e w'=> ∃(v:Value) (ss L:List Int),e= .returned v∧S ss∧L.Perm ss∧L.Pairwise (· ≤ ·)∧Kd.R (Kd.int .u64) 22 w' w.heap.size (fun _=>True) v L∧Below w.heap.size w w':=by
 have HQ:=aa.mk (nL eg S N (by unfold maxLen;omega) (by omega) w hseq)
 have H12:=aa.mk hS12
 clear hseq hS12
 go_enter Tryz.func118,Tryz.ntmps118
 go_wp2_with (first
  |(go_at_call 145;(with_reducible refine HQ.out.mono ?_);rintro e w1 ⟨v,ss,rfl,hs,hr,hb⟩;have HS:=aa.mk hs;have HR:=aa.mk hr;have HB:=aa.mk hb;obtain⟨k,L,hk,hp,hso⟩:=xQ ss (H12.out ss hs);have HK:=aa.mk hk;have HP:=aa.mk hp;have HO:=aa.mk hso;(clear hs hr hb hk hp hso))
  |(go_at_call 146;(with_reducible refine(cx.calls k (fun _=>True) v ss L w w1 HB.out HR.out HK.out).mono ?_);rintro e w2 ⟨rfl,hr2,hb2,_⟩;have HR2:=aa.mk hr2;have HB2:=aa.mk hb2;(clear hr2 hb2)))
 go_ret
 exact⟨v,ss,L,rfl,HS.out,HP.out,HO.out,Kd.bE HR2.out (fun _ _=>trivial),HB2.out⟩
end Go.Proofs.YtndkmnjbjlfeaaaGreat.KeysU
end
