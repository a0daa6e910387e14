/- Parts of this claim's texts, packed by wip/tools/prune.py: what the proof does not reach is left out. -/
import Derived.Test.YtndkmnjbjlfeaaaGreatPCt10
import Derived.Maps.OwnSet
section
namespace Go.Proofs.YtndkmnjbjlfeaaaGreat.Row05
open Go Go.RowKit Go.Maps Go.Proofs.YtndkmnjbjlfeaaaGreatW.PrintWords Go.Proofs.YtndkmnjbjlfeaaaGreatW.PrintLast Go.Proofs.YtndkmnjbjlfeaaaGreatW.PrintMore Go.Proofs.YtndkmnjbjlfeaaaGreat.Given Go.Proofs.YtndkmnjbjlfeaaaGreat.M Go.Proofs.YtndkmnjbjlfeaaaGreat.XS Go.Proofs.YtndkmnjbjlfeaaaGreat.XT Go.Proofs.YtndkmnjbjlfeaaaGreat.Given05
def Rv(v:Value):Option (DataW Value×List MemPlace):=some (.held v,[])
abbrev o6 (e:dA) (v:Value):Value:= .agg #[.int .u64 e.f0, .int .u64 e.f1,v]
abbrev zE:Value:= .agg #[.int .u64 0, .int .u64 0, .slice none 0 0]
theorem rI(w:World):(zeroValue 94).run Tryz.prog w= .ok zE w:=by
 kernel_rfl
structure gv (w:World) (base b:Nat) (f:Nat→Nat) (all:List dA):Prop where
 own: ∃D n,w.ownsMap Tryz.prog 22 Rv b n D∧n≤all.length∧(∀q,Maps.has D (.int .u64 q)=all.any (fun e=>e.f0==q))∧
  ∀e∈all,∃v,(∀zd,D.atKey (.int .u64 e.f0) zd= .held (o6 e v))∧Kd.R ei 147 w base (fun k=>f k=e.f0.toNat∧k≠b) v e.f2
theorem gv.lt{w:World}{base b:Nat}{f:Nat→Nat}{all:List dA}(h:gv w base b f all):b<w.heap.size:=by
 obtain⟨D,n,ho,_⟩:=h.own
 exact ho.lt
theorem gv.made(w:World)(base:Nat)(f:Nat→Nat):gv (w.alloc (.map #[] 0)) base w.heap.size f []:=
 ⟨⟨_,0,World.ownsMap_made w _ _ Rv,Nat.le_refl _,fun _=>rfl,fun e he=>by cases he⟩⟩
theorem gv.below{w w':World}{base b:Nat}{f:Nat→Nat}{all:List dA}(h:gv w base b f all)(hb:Below w.heap.size w w'):gv w' base b f all:=by
 obtain⟨D,n,ho,hn,hh,he⟩:=h.own
 have hlt:=ho.lt
 obtain⟨es,clock,hbk,F,hs,hD⟩:=ho
 exact⟨⟨D,n,⟨es,clock,(hb.block b hlt).trans hbk,F,hs,hD⟩,hn,hh,fun e hm=>by
  obtain⟨v,h1,h2⟩:=he e hm
  exact⟨v,h1,Kd.dp h2 hb⟩⟩⟩
theorem gv.yL{w:World}{base b:Nat}{f f':Nat→Nat}{all:List dA}(h:gv w base b f all)(hf: ∀k,k<w.heap.size→f' k=f k):gv w base b f' all:=by
 obtain⟨D,n,ho,hn,hh,he⟩:=h.own
 exact⟨⟨D,n,ho,hn,hh,fun e hm=>by
  obtain⟨v,h1,h2⟩:=he e hm
  exact⟨v,h1,Kd.bE (Kd.eB h2) fun k hk=>⟨by rw[hf k hk.2.2.1];exact hk.1.1,hk.1.2⟩⟩⟩⟩
theorem gv.AH{w:World}{base b:Nat}{f:Nat→Nat}{all:List dA}{p:Int}(h:gv w base b f all)(hp:(Lit.int .u64 p).wf=true)(hn:all.any (fun e=>e.f0==p)=false):
  (Instr.lookup 166 (.map (some b)) (.int .u64 p) true).run Tryz.prog w= .ok (.tuple #[zE, .bool false]) w:=by
 obtain⟨D,n,ho,_,hh,_⟩:=h.own
 have hkey:=keyOf_int_mk Tryz.underlying22 hp
 have h1:=hh p
 rw[hn] at h1
 obtain⟨es,clock,hb,F,_,rfl⟩:=ho
 rcases Maps.fit_look true (int_keyed Tryz.underlying22) Tryz.underlying166 (rI w) hb F hkey with⟨hrun,_,_⟩|⟨e0,y,_,_,_,_,hat,_⟩
 ·exact hrun
 ·rw[Maps.has_true_of_atKey hat] at h1;cases h1
theorem gv.Bd{w:World}{base b:Nat}{f:Nat→Nat}{all:List dA}{e:dA}(h:gv w base b f all)(hp:(Lit.int .u64 e.f0).wf=true)(he:e∈all):
  ∃v,(Instr.lookup 166 (.map (some b)) (.int .u64 e.f0) true).run Tryz.prog w= .ok (.tuple #[o6 e v, .bool true]) w∧(Instr.lookup 166 (.map (some b)) (.int .u64 e.f0) false).run Tryz.prog w= .ok (o6 e v) w∧
   Kd.R ei 147 w base (fun k=>f k=e.f0.toNat∧k≠b) v e.f2:=by
 obtain⟨D,n,ho,_,hh,hE⟩:=h.own
 have hkey:=keyOf_int_mk Tryz.underlying22 hp
 obtain⟨v,hat,hr⟩:=hE e he
 have hhas:=Maps.has_true_of_atKey hat
 obtain⟨v1,p1,hrun1,hv1⟩:=ho.look_ok (int_keyed Tryz.underlying22) Tryz.underlying166 (rI w) (zd:= .held zE) (zp:=[]) rfl hkey
 obtain⟨v2,p2,hrun2,hv2⟩:=ho.lookup (int_keyed Tryz.underlying22) Tryz.underlying166 (rI w) (zd:= .held zE) (zp:=[]) rfl hkey
 rw[hat] at hv1 hv2
 rw[hhas] at hrun1
 have e1:v1=o6 e v:=DataW.held.inj (Prod.mk.inj (Option.some.inj hv1)).1
 have e2:v2=o6 e v:=DataW.held.inj (Prod.mk.inj (Option.some.inj hv2)).1
 rw[e1] at hrun1
 rw[e2] at hrun2
 exact⟨v,hrun1,hrun2,hr⟩
theorem gv.put{w w':World}{base b:Nat}{f:Nat→Nat}{all:List dA}{D:DataW Value}{n:Nat}{e:dA}{v:Value}(hn:n≤all.length)(hh: ∀q,Maps.has D (.int .u64 q)=all.any (fun e=>e.f0==q))(hM:Maps.IsMap D)
  (hE: ∀e∈all,∃v,(∀zd,D.atKey (.int .u64 e.f0) zd= .held (o6 e v))∧Kd.R ei 147 w base (fun k=>f k=e.f0.toNat∧k≠b) v e.f2) (hnew:all.any (fun x=>x.f0==e.f0)=false)
  (hr:Kd.R ei 147 w base (fun k=>f k=e.f0.toNat∧k≠b) v e.f2)
  (ho:w'.ownsMap Tryz.prog 22 Rv b (n+1) (D.put (.int .u64 e.f0) (.held (o6 e v)))) (hg:w.grownBy w' (some b)):gv w' base b f (all++[e]):=by
 have hkl: ∀q:Int,WideAt.IsKeyLit (.int .u64 q):=fun q=>trivial
 have hne: ∀x∈all,x.f0≠e.f0:=fun x hx c=>by
  rw[List.any_eq_false] at hnew
  exact hnew x hx (by rw[c];exact beq_self_eq_true _)
 have hne': ∀{q q':Int},q≠q'→(Lit.int .u64 q)≠(Lit.int .u64 q'):=fun h c=>h (by injection c)
 refine⟨⟨_,n+1,ho,by rw[List.length_append];exact Nat.add_le_add_right hn 1,fun q=>?_,fun x hx=>?_⟩⟩
 ·rw[List.any_append]
  by_cases c:q=e.f0
  ·subst c
   rw[Maps.has_put_same hM (hkl _)]
   simp
  ·rw[Maps.has_put_other (hne' c),hh]
   have:(e.f0==q)=false:=beq_eq_false_iff_ne.mpr fun h=>c h.symm
   simp[this]
 ·rcases List.mem_append.1 hx with hx|hx
  ·obtain⟨u,h1,h2⟩:=hE x hx
   exact⟨u,fun zd=>by rw[Maps.atKey_put_other (hne' (hne x hx))];exact h1 zd,Kd.mr h2 hg fun k hk c=>hk.2 (by injection c)⟩
  ·have:x=e:=by simpa using hx
   subst this
   exact⟨v,fun zd=>Maps.atKey_put_same hM (hkl _) _ zd,Kd.mr hr hg fun k hk c=>hk.2 (by injection c)⟩
end Go.Proofs.YtndkmnjbjlfeaaaGreat.Row05
end
section
namespace Go.Proofs.YtndkmnjbjlfeaaaGreat.Row05
open Go Go.RowKit Go.Maps Go.Proofs.YtndkmnjbjlfeaaaGreatW.PrintWords Go.Proofs.YtndkmnjbjlfeaaaGreatW.PrintLast Go.Proofs.YtndkmnjbjlfeaaaGreatW.PrintMore Go.Proofs.YtndkmnjbjlfeaaaGreat.Given Go.Proofs.YtndkmnjbjlfeaaaGreat.M Go.Proofs.YtndkmnjbjlfeaaaGreat.XS Go.Proofs.YtndkmnjbjlfeaaaGreat.XT Go.Proofs.YtndkmnjbjlfeaaaGreat.Given05
instance (p:Int):Decidable (U p):=by unfold U;infer_instance
mutual
def eS:Nat→List dA→Int→Option (List dA)
 |0,_,_=>none
 |k+1,all,p=>if U p then(if all.any (fun e=>e.f0==p)=true then some all else if p=2 then some all else
   (av.f k (IntKind.u64.wrap (p-1))).bind fun l=>(dM.f k p).bind fun g=>if all.length<1000 then eF k (all++[⟨p,g,l⟩]) l else none) else none
def eF:Nat→List dA→List bO→Option (List dA)
 |0,_,_=>none
 |_+1,all,[]=>some all
 |k+1,all,x::t=>(eS k all x.f0).bind fun a=>eF k a t
end
theorem rq{all:List dA}{p:Int}(h:all.any (fun e=>e.f0==p)=true): ∃e∈all,e.f0=p:=by
 rw[List.any_eq_true] at h
 obtain⟨e,he,hp⟩:=h
 exact⟨e,he,by simpa using hp⟩
theorem sR{p:Int}(h:U p):(Lit.int .u64 p).wf=true:=by
 unfold U at h
 simp[Lit.wf,IntKind.min,IntKind.max,IntKind.bits,IntKind.signed]
 omega
theorem vN{w w3 w4:World}{base b:Nat}{f:Nat→Nat}{all:List dA}{e:dA}{v o:Value}{t:TypeId}(hbase:base≤w.heap.size)(hm:gv w base b f all)(hnew:all.any (fun x=>x.f0==e.f0)=false)
  (hb3:Below (w.alloc (.cells #[.int .u64 0, .int .u64 0,o] t)).heap.size (w.alloc (.cells #[.int .u64 0, .int .u64 0,o] t)) w3) (hv:Kd.R ei 147 w3 (w.alloc (.cells #[.int .u64 0, .int .u64 0,o] t)).heap.size (fun _=>True) v e.f2) (hb4:Below w3.heap.size w3 w4):
  ∃f' D n,gv w4 base b f' all∧w4.ownsMap Tryz.prog 22 Rv b n D∧n≤all.length∧(∀w5,w5.ownsMap Tryz.prog 22 Rv b (n+1) (D.put (.int .u64 e.f0) (.held (o6 e v)))→w4.grownBy w5 (some b)→
   gv w5 base b f' (all++[e])∧Kd.R ei 147 w5 base (fun k=>k≠b) v e.f2∧w.grownBy w5 (some b)):=by
 have hs:(w.alloc (.cells #[.int .u64 0, .int .u64 0,o] t)).heap.size=w.heap.size+1:=by simp
 have hblt:=hm.lt
 have hb:Below w.heap.size w w4:=ah (ah (aQ (Below.refl _ _) _) hb3) hb4
 have hm4:gv w4 base b (fun k=>if w.heap.size+1≤k then e.f0.toNat else f k) all:=(hm.yL fun k hk=>if_neg (by omega)).below hb
 have hv4:Kd.R ei 147 w4 base (fun k=>(if w.heap.size+1≤k then e.f0.toNat else f k)=e.f0.toNat∧k≠b) v e.f2:=by
  refine Kd.bN (Kd.bE (Kd.eB (Kd.dp hv hb4)) fun k hk=>?_) (base:=(w.alloc (.cells #[.int .u64 0, .int .u64 0,o] t)).heap.size) (by omega)
  have:=hk.2.1
  rw[hs] at this
  exact⟨if_pos this,by omega⟩
 obtain⟨D,n,ho,hn,hh,hE⟩:=hm4.own
 refine⟨_,D,n,hm4,ho,hn,fun w5 ho5 hg5=>⟨gv.put hn hh ho.isMap hE hnew hv4 ho5 hg5,Kd.bE (Kd.mr hv4 hg5 fun k hk c=>hk.2 (by injection c)) fun k hk=>hk.2,?_⟩⟩
 exact⟨hg5.os.trans hb.os,hg5.tape.trans hb.tape,hg5.output.trans hb.output,Nat.le_trans hb.size hg5.size,fun k hk hne=>(hg5.block k (Nat.lt_of_lt_of_le hk hb.size) hne).trans (hb.block k hk)⟩
theorem l8{w w1 w2:World}{row:Option Nat}(h:w.grownBy w1 row)(h':w1.grownBy w2 row):w.grownBy w2 row:=
 ⟨h'.os.trans h.os,h'.tape.trans h.tape,h'.output.trans h.output,Nat.le_trans h.size h'.size,fun k hk hne=>(h'.block k (Nat.lt_of_lt_of_le hk h.size) hne).trans (h.block k hk hne)⟩
set_option maxRecDepth 100000 in
set_option maxHeartbeats 4000000 in
theorem oW(K:Nat): ∀(all r:List dA) (p:Int) (w:World) (base b:Nat) (f:Nat→Nat),base≤w.heap.size→eS K all p=some r→gv w base b f all→
  Calls Tryz.prog 117 #[.map (some b), .int .u64 p] w fun e w'=>e= .returned (.tuple #[])∧(∃f',gv w' base b f' r)∧w.grownBy w' (some b):=by
 induction K using Nat.strongRecOn with
 |ind K ih=>
 intro all r p w base b f hbase h hm
 cases K with
 |zero=>simp[eS] at h
 |succ K=>
 unfold eS at h
 split at h
 case isFalse=>cases h
 rename_i hU
 have hwf:=sR hU
 have HM:=aa.mk hm
 have HB:=aa.mk hbase
 split at h
 ·
  rename_i hany
  obtain rfl:=Option.some.inj h
  obtain⟨e,he,rfl⟩:=rq hany
  obtain⟨v,hrun,_,hr⟩:=hm.Bd hwf he
  obtain⟨A,c,rfl⟩:=Kd.cb hr
  clear hany h hm hr ih
  go_enter Tryz.func117,Tryz.ntmps117
  go_wp2
  refine bodyPost_ret (results_none rfl _ _ _) rfl ?_
  exact⟨rfl,⟨f,HM.out.below (by repeat(first|exact Below.refl _ _|apply aQ))⟩,World.grownBy_alloc _ _ _⟩
 ·rename_i hany
  have hany':all.any (fun e=>e.f0==p)=false:=by simpa using hany
  have hrun:=hm.AH hwf hany'
  split at h
  ·rename_i h2
   subst h2
   obtain rfl:=Option.some.inj h
   clear hany h hm ih
   go_enter Tryz.func117,Tryz.ntmps117
   go_wp2
   refine bodyPost_ret (results_none rfl _ _ _) rfl ?_
   exact⟨rfl,⟨f,HM.out.below (by repeat(first|exact Below.refl _ _|apply aQ))⟩,World.grownBy_alloc _ _ _⟩
  ·rename_i h2
   obtain⟨l,h3,h⟩:=Option.bind_eq_some_iff.1 h
   obtain⟨g,h4,h⟩:=Option.bind_eq_some_iff.1 h
   split at h
   case isFalse=>cases h
   rename_i hlen
   have H3:=aa.mk h3
   have H4:=aa.mk h4
   have H5:=aa.mk h
   have HL:=aa.mk hlen
   have HN:=aa.mk hany'
   have HW:=aa.mk hwf
   have c2:(p==2)=false:=beq_eq_false_iff_ne.mpr h2
   have IH:=aa.mk ih
   clear hany h hm h3 h4 ih hlen hany'
   go_enter Tryz.func117,Tryz.ntmps117
   go_wp2_with (first
    |(go_at_call 143;(with_reducible refine(av.calls K (IntKind.u64.wrap (p-1)) l _ H3.out).mono ?_);rintro e w3 ⟨v,rfl,hv,hb3⟩;(obtain⟨A,c,rfl⟩:=Kd.cb hv);have HV:=aa.mk hv;have HB3:=aa.mk hb3;clear hb3 hv)
    |(go_at_call 144;(with_reducible refine(dM.calls K p g _ H4.out).mono ?_);rintro e w4 ⟨rfl,hb4⟩;have HB4:=aa.mk hb4;clear hb4)
    |(at_mapUpdate;obtain⟨f',D,n,hm4,ho,hn,hput⟩:=vN (e:=⟨p,g,l⟩) HB.out HM.out HN.out HB3.out HV.out HB4.out;have HP:=aa.mk hput;(refine wpList_mapUpdate_own _ rfl _ _ _ 166 rfl 22 94 (int_keyed Tryz.underlying22) Tryz.underlying166 Rv b n D rfl ho ?hnmax _ _ (.int .u64 p) rfl rfl (keyOf_int_mk Tryz.underlying22 HW.out) (.held (o6 ⟨p,g,l⟩ (.slice A l.length c))) [] rfl ?_);(case hnmax=>have:=HL.out;unfold maxLen;omega);intro w5 ho5 hg5;obtain⟨q1,q2,q3⟩:=HP.out w5 ho5 hg5;have HM5:=aa.mk q1;have HR5:=aa.mk q2;have HG5:=aa.mk q3;clear hput hm4 ho hn ho5 hg5 q1 q2 q3 HP))
   have HLEN:aa (l.length≤9223372036854775807):=⟨(Kd.aT HV.out).2.2.2.1⟩
   go_loopg [32] K (fun kq v32 wr=> ∃(i:Nat) (a:List dA),v32= .int .i64 i∧i≤l.length∧aa (eF kq a (l.drop i)=some r)∧aa (kq≤K)∧aa (∃f',gv wr base b f' a)∧aa (Kd.R ei 147 wr base (fun k=>k≠b) (.slice A l.length c) l)∧aa (w.grownBy wr (some b)))
   case atStart=>exact⟨0,_,rfl,Nat.zero_le _,H5,⟨Nat.le_refl _⟩,⟨_,HM5.out⟩,HR5,HG5⟩
   case round=>
    obtain⟨i,a,rfl,hi,HA,HK1,HMr,HRr,HGr⟩:=hrel
    cases gk with
    |zero=>exact absurd HA.out (by simp[eF])
    |succ k1=>
     have hlen:=HLEN.out
     by_cases hlt:i<l.length
     ·have c3b0:decide ((i:Int)<(l.length:Int))=true:=decide_eq_true (by omega)
      have c3b1:decide (i<l.length)=true:=decide_eq_true hlt
      have p1:0≤(i:Int):=by omega
      have q1:(i:Int)<(l.length:Int):=by omega
      have hd:l.drop i=bg l (i:Int)::l.drop (i+1):=by
       rw[List.drop_eq_getElem_cons hlt]
       unfold bg
       rw[Int.toNat_natCast,List.getD_eq_getElem?_getD,List.getElem?_eq_getElem hlt];rfl
      have hA:=HA.out
      rw[hd] at hA
      unfold eF at hA
      obtain⟨a',hA1,hA2⟩:=Option.bind_eq_some_iff.1 hA
      obtain⟨ad,rfl,hx0,hx1⟩:=iz (Kd.aT HRr.out).2.2 i (by omega) (by omega)
      simp only[Int.toNat_natCast] at hx0 hx1
      have HA1:=aa.mk hA1
      have HA2:=aa.mk hA2
      have HLT:=aa.mk hlt
      obtain⟨f1,hm1⟩:=HMr.out
      have HM1:=aa.mk hm1
      clear hA hA1 hA2 hd hlt hlen hi hm1 HA
      go_wp2_with (first
       |((with_reducible refine bk (N:=8) rfl ?_);refine iI ?hg (N:=8) ?hd (cs:= #[.int .u64 0, .int .i64 0]) (t:=147) ?hr ?_;(case hd=>rfl);(case hg=>rfl);(case hr=>first|(go_simp;done)|(go_simp;rfl));intro gb hg w11 hbox hbx2;(have GE:aa (wr.heap.size≤gb):=⟨by rw[hg];exact Nat.le_refl _⟩);(have HBX:=aa.mk hbx2);(have z0:w11.cell? ⟨gb,0,none⟩=some (.int .u64 0):=(aj hbox 0).trans rfl);(have z1:w11.cell? ⟨gb,1,none⟩=some (.int .i64 0):=(aj hbox 1).trans rfl);have z2:=ab hbox 0;have z3:=ab hbox 1;clear hbox hbx2 hg)
       |(go_at_call 117;(with_reducible refine(IH.out k1 ?hk a a' _ _ base b f1 ?hba HA1.out ?hmr).mono ?_);(case hk=>have:=HK1.out;omega);(case hmr=>exact HM1.out.below (cg (cg HBX.out GE.out) GE.out));(case hba=>exact Nat.le_trans HB.out (Nat.le_trans HGr.out.size (cg (cg HBX.out GE.out) GE.out).size));rintro e w6 ⟨rfl,hm6,hg6⟩;have HM6:=aa.mk hm6;have HG6:=aa.mk hg6;clear hm6 hg6))
      have HBY:aa (wr.grownBy w6 (some b)):=⟨by
       have hb:=cg (cg (v:= .int .u64 (bg l (i:Int)).f0) HBX.out GE.out (j:=0)) (v:= .int .i64 (bg l (i:Int)).f1) GE.out (j:=1)
       exact l8 ⟨hb.os,hb.tape,hb.output,hb.size,fun k hk _=>hb.block k hk⟩ HG6.out⟩
      go_roundg k1
      case measure=>have:=HK1.out;omega
      case rel=>exact⟨i+1,a',by have:=HLT.out;have:=HLEN.out;exact congrArg (Value.int .i64) ((cY ((i:Int)+1) (by omega) (by omega)).trans rfl),by have:=HLT.out;omega,HA2,⟨by have:=HK1.out;omega⟩,HM6,⟨Kd.mr HRr.out HBY.out fun k hk c=>hk (by injection c)⟩,⟨l8 HGr.out HBY.out⟩⟩
     ·have c3b0:decide ((i:Int)<(l.length:Int))=false:=decide_eq_false (by omega)
      have c3b1:decide (i<l.length)=false:=decide_eq_false hlt
      have hA:=HA.out
      rw[List.drop_eq_nil_iff.2 (by omega)] at hA
      unfold eF at hA
      obtain rfl:=Option.some.inj hA
      clear hlt hlen hA HA
      go_wp2
      go_end0
      exact⟨rfl,HMr.out,HGr.out⟩
end Go.Proofs.YtndkmnjbjlfeaaaGreat.Row05
end
section
namespace Go.Proofs.YtndkmnjbjlfeaaaGreat.Row05
open Go Go.RowKit Go.Maps Go.Proofs.YtndkmnjbjlfeaaaGreatW.PrintWords Go.Proofs.YtndkmnjbjlfeaaaGreatW.PrintLast Go.Proofs.YtndkmnjbjlfeaaaGreatW.PrintMore Go.Proofs.YtndkmnjbjlfeaaaGreat.Given Go.Proofs.YtndkmnjbjlfeaaaGreat.M Go.Proofs.YtndkmnjbjlfeaaaGreat.XS Go.Proofs.YtndkmnjbjlfeaaaGreat.XT Go.Proofs.YtndkmnjbjlfeaaaGreat.Given05 Go.Proofs.YtndkmnjbjlfeaaaGreat.KeysU
def look(all:List dA)(q:Int):dA:=(all.find? (fun e=>e.f0==q)).getD Bb
def hZ(all:List dA):List Int:=(all.map fun e=>e.f0).mergeSort (fun a b=>decide (a≤b))
def iw(all:List dA):Prop:=all.length≤12∧(all.map fun e=>e.f0).Nodup∧ ∀e∈all,U e.f0
instance (all:List dA):Decidable (iw all):=by unfold iw;infer_instance
def eu.f(k:Nat)(p:Int):Option (List dA×Int):=(ep.f k p).bind fun t=>if t=true then((eS k [] p).bind fun all=>if iw all then some ((hZ all).map (look all),0) else none) else some ([],1)
theorem gn(all:List dA):(hZ all).Perm (all.map fun e=>e.f0):=List.mergeSort_perm _ _
theorem kK(all:List dA):(hZ all).Pairwise (· ≤ ·):=by
 have:=List.pairwise_mergeSort (le:=fun a b:Int=>decide (a≤b)) (fun a b c h1 h2=>by simp only[decide_eq_true_eq] at*;omega) (fun a b=>by simp only[Bool.or_eq_true,decide_eq_true_eq];omega) (all.map fun e=>e.f0)
 exact this.imp fun h=>by simpa using h
theorem keys_eq{all:List dA}(hn:(all.map fun e=>e.f0).Nodup){D:DataW Value}(hh: ∀q,Maps.has D (.int .u64 q)=all.any (fun e=>e.f0==q)){ss:List Int}(hk:iV D ss):ss.Perm (all.map fun e=>e.f0):=by
 refine(List.perm_ext_iff_of_nodup hk.1 hn).2 fun x=>?_
 rw[hk.2 x,hh,List.any_eq_true,List.mem_map]
 exact⟨fun⟨e,h1,h2⟩=>⟨e,h1,by simpa using h2⟩,fun⟨e,h1,h2⟩=>⟨e,h1,by simpa using h2⟩⟩
theorem om{L L':List Int}(h:L.Perm L')(h1:L.Pairwise (· ≤ ·))(h2:L'.Pairwise (· ≤ ·)):L=L':=
 List.Perm.eq_of_pairwise (le:=fun a b:Int=>a≤b) (fun _ _ _ _ h1 h2=>Int.le_antisymm h1 h2) h1 h2 h
theorem sV{all:List dA}{q:Int}(h:q∈all.map fun e=>e.f0):look all q∈all∧(look all q).f0=q:=by
 obtain⟨e,he,hq⟩:=List.mem_map.1 h
 unfold look
 cases hf:all.find? (fun e=>e.f0==q) with
 |none=>exact absurd (List.find?_eq_none.1 hf e he) (by simp[hq])
 |some x=>exact⟨List.mem_of_find?_eq_some hf,by simpa using List.find?_some hf⟩
theorem rW{w3:World}{base b:Nat}{f:Nat→Nat}{all:List dA}(hm:gv w3 base b f all)(hok:iw all):
  Calls Tryz.prog 118 #[.func (.func 147) #[] #[.pointer (some ⟨w3.heap.size,0,none⟩)]] (w3.alloc (.cells #[.map (some b)] 166)) fun e w5=>
   ∃A c,e= .returned (.slice A (hZ all).length c)∧Kd.R (Kd.int .u64) 22 w5 w3.heap.size (fun _=>True) (.slice A (hZ all).length c) (hZ all)∧Below w3.heap.size w3 w5:=by
 obtain⟨D,n,ho,hn,hh,hE⟩:=hm.own
 have h12: ∀ss,iV D ss→ss.length≤12:=fun ss hss=>by
  have:=(keys_eq hok.2.1 hh hss).length_eq
  rw[List.length_map] at this
  have:=hok.1
  omega
 have hN:Maps.size D≤1000:=by have:=ho.size_le;have:=hok.1;omega
 refine(oI rX (fun ss=>iV D ss) h12 (Maps.size D) hN _ (mF b n D w3 ho)).mono ?_
 rintro e w5 ⟨v5,ss,L,rfl,hss,hp,hso,hr5,hb5⟩
 have hL:L=hZ all:=om (hp.trans ((keys_eq hok.2.1 hh hss).trans (gn all).symm)) hso (kK all)
 subst hL
 obtain⟨A5,c5,rfl⟩:=Kd.cb hr5
 exact⟨A5,c5,rfl,Kd.bN hr5 (by simp),ah (aQ (Below.refl _ _) _) hb5⟩
def oU(L:List Int)(i:Nat)(f:Nat→Nat)(N:Nat)(k:Nat):Prop:=(∃q∈L.take i,f k=q.toNat)∨N≤k
theorem vr{L:List Int}{i:Nat}{f f3:Nat→Nat}{N b:Nat}(hf:f=fun k=>if k<N then f3 k else 18446744073709551616)(hn:L.Nodup)(hU: ∀q∈L,U q)(hi:i<L.length):
  (∀k,f k=L[i].toNat∧k≠b→k<N)∧(∀k,oU L i f N k→oU L (i+1) f N k∧ ¬(f k=L[i].toNat∧k≠b))∧(∀k,f k=L[i].toNat∧k≠b→oU L (i+1) f N k):=by
 have hm:L[i]∈L:=List.getElem_mem hi
 have hu:=hU _ hm
 have ht:L.take (i+1)=L.take i++[L[i]]:=List.take_succ_eq_append_getElem hi
 have h1: ∀k,f k=L[i].toNat∧k≠b→k<N:=fun k hk=>by
  refine Nat.lt_of_not_le fun c=>?_
  have:=hk.1
  rw[hf] at this
  simp only[if_neg (show¬k<N by omega)] at this
  unfold U at hu
  omega
 refine⟨h1,fun k hk=>⟨?_,fun hp=>?_⟩,fun k hk=> .inl ⟨L[i],by rw[ht];exact List.mem_append_right _ (List.mem_singleton.2 rfl),hk.1⟩⟩
 ·rcases hk with⟨q,hq,e⟩|hk
  ·exact .inl ⟨q,by rw[ht];exact List.mem_append_left _ hq,e⟩
  ·exact .inr hk
 ·rcases hk with⟨q,hq,e⟩|hk
  ·have hq':=hU q (List.mem_of_mem_take hq)
   rw[e] at hp
   have e2:q=L[i]:=by have:=hp.1;unfold U at*;omega
   have:=hn
   rw[←List.take_append_drop (i+1) L,ht] at this
   have:=(List.nodup_append.1 (List.nodup_append.1 this).1).2.2 q hq L[i] (by simp)
   exact this e2
  ·have:=h1 k hp;omega
theorem eu.tB{k:Nat}{p:Int}{w:World}(h:ep.f k p=some false):
  Calls Tryz.prog 88 #[.int .u64 p] w fun e w'=> ∃v0_:Value,e= .returned (.tuple #[v0_, .int .i64 1])∧Kd.S kt 94 w' w.heap.size (fun _=>True) v0_ []∧Below w.heap.size w w':=by
 have H1:=aa.mk h
 clear h
 go_enter Tryz.func88,Tryz.ntmps88
 go_wp2_with (go_at_call 116;(with_reducible refine(ep.calls k p false _ H1.out).mono ?_);rintro e w2 ⟨rfl,hb2⟩;have HB2:=aa.mk hb2;clear hb2)
 go_ret2
 exact⟨_,rfl,Kd.jv _ _ _ _ _,HB2.out⟩
set_option maxRecDepth 100000 in
set_option maxHeartbeats 4000000 in
theorem eu.tY{k:Nat}{p:Int}{all:List dA}{w:World}(h:ep.f k p=some true)(h2:eS k [] p=some all)(hok:iw all):
  Calls Tryz.prog 88 #[.int .u64 p] w fun e w'=> ∃v0_:Value,e= .returned (.tuple #[v0_, .int .i64 0])∧Kd.S kt 94 w' w.heap.size (fun _=>True) v0_ ((hZ all).map (look all))∧Below w.heap.size w w':=by
 have H1:=aa.mk h
 have H2:=aa.mk h2
 have HO:=aa.mk hok
 have hmm:= @run_makeMap Tryz.prog
 clear h h2 hok
 go_enter Tryz.func88,Tryz.ntmps88
 go_wp2_with (first
  |(go_at_call 116;(with_reducible refine(ep.calls k p true _ H1.out).mono ?_);rintro e w2 ⟨rfl,hb2⟩;have HB2:=aa.mk hb2;clear hb2)
  |(go_at_call 117;(with_reducible refine(oW k [] all p _ w.heap.size w2.heap.size (fun _=>0) ?hba H2.out ?hmr).mono ?_);(case hba=>exact Nat.le_trans HB2.out.size (by simp));(case hmr=>exact gv.made w2 _ _);rintro e w3 ⟨rfl,⟨f3,hm3⟩,hg3⟩;have HM3:=aa.mk hm3;(have HB3:aa (Below w.heap.size w w3):=⟨(aQ HB2.out _).grown hg3 (Nat.le_trans HB2.out.size (by simp)) (fun q e=>by cases e;exact HB2.out.size)⟩);clear hm3 hg3 hmm)
  |(go_at_call 119;(with_reducible refine(qZ _ _).mono ?_);rintro e w4 ⟨rfl,rfl⟩)
  |(go_at_call 118;(with_reducible refine(rW HM3.out HO.out).mono ?_);rintro e w5 ⟨A5,c5,rfl,hr5,hb5⟩;have HR5:=aa.mk hr5;have HB5:=aa.mk hb5;clear hr5 hb5))
 have HN:aa ((hZ all).Nodup):=⟨(gn all).nodup_iff.2 HO.out.2.1⟩
 have HU:aa (∀q∈hZ all,U q):=⟨fun q hq=>by
  obtain⟨e,he,h⟩:=List.mem_map.1 ((gn all).mem_iff.1 hq)
  rw[←h];exact HO.out.2.2 e he⟩
 have HK:aa (∀q∈hZ all,look all q∈all∧(look all q).f0=q):=⟨fun q hq=>sV ((gn all).mem_iff.1 hq)⟩
 have HL12:aa ((hZ all).length≤12):=⟨by have:=(gn all).length_eq;rw[List.length_map] at this;have:=HO.out.1;omega⟩
 obtain⟨L,hL⟩: ∃L,hZ all=L:=⟨_,rfl⟩
 rw[hL] at HN HU HK HL12 HR5 ⊢
 obtain⟨f1,hf1⟩: ∃f1:Nat→Nat,f1=fun k=>if k<w5.heap.size then f3 k else 18446744073709551616:=⟨_,rfl⟩
 have HF:=aa.mk hf1
 have HM5:aa (gv w5 w.heap.size w2.heap.size f1 all):=⟨(HM3.out.below HB5.out).yL fun k hk=>by rw[hf1];exact if_pos hk⟩
 have HBW5:aa (Below w.heap.size w w5):=⟨ah HB3.out HB5.out⟩
 have HLE:=aa.mk hL
 clear hL hf1 HM3 HB3 HB5
 go_loopw [5,19] (fun v5 v19 wr=> ∃i:Nat,v19= .int .i64 i∧i≤L.length∧aa (Kd.S kt 94 wr w.heap.size (oU L i f1 w5.heap.size) v5 ((L.take i).map (look all)))∧aa (∀k,v5.ownBlock=some k→w5.heap.size≤k)∧aa (Below w5.heap.size w5 wr)) (fun _ v19 _=>L.length-(intOf v19).toNat)
 case atStart=>exact⟨0,rfl,Nat.zero_le _,⟨Kd.jv _ _ _ _ _⟩,⟨fun k hk=>by simp[Value.ownBlock] at hk⟩,⟨Below.refl _ _⟩⟩
 case round=>
  obtain⟨i,rfl,hi,HS,HOW,HBW⟩:=hrel
  have hl12:=HL12.out
  by_cases hlt:i<L.length
  ·have c3b0:decide ((i:Int)<(L.length:Int))=true:=decide_eq_true (by omega)
   have c3b1:decide (i<L.length)=true:=decide_eq_true hlt
   have p1:0≤(i:Int):=by omega
   have q1:(i:Int)<(L.length:Int):=by omega
   obtain⟨e0,he0⟩: ∃e0,look all L[i]=e0:=⟨_,rfl⟩
   obtain⟨hmem,hq⟩:=HK.out L[i] (List.getElem_mem hlt)
   rw[he0] at hmem hq
   have hwf:=sR (HO.out.2.2 e0 hmem)
   have HMr:=HM5.out.below HBW.out
   obtain⟨v,_,hrun,hr⟩:=HMr.Bd hwf hmem
   obtain⟨Ae,ce,rfl⟩:=Kd.cb hr
   have HR:=aa.mk hr
   obtain⟨ad,cc,rfl,_,hK,hcell⟩:=Kd.n7 (Kd.aT (Kd.dp HR5.out HBW.out)).2.2 (0:Int) (i:Int) p1 q1
   have hx0:wr.cell? (ad.add i)=some (.int .u64 e0.f0):=by
    have hcc:cc=[.int .u64 (L.getD (i:Int).toNat 0)]:=hK
    have:=hcell 0 (.int .u64 (L.getD (i:Int).toNat 0)) (by rw[hcc];rfl)
    rw[Int.toNat_natCast,List.getD_eq_getElem?_getD,List.getElem?_eq_getElem hlt] at this
    rw[hq]
    simpa[Kd.int,Kd.scalar] using this
   obtain⟨o1,o2,o3⟩:=vr (b:=w2.heap.size) HF.out HN.out HU.out hlt
   rw[←hq] at o1 o2 o3
   have O1:=aa.mk o1
   have O2:=aa.mk o2
   have O3:=aa.mk o3
   have hlen2:((L.take i).map (look all)).length=i:=by rw[List.length_map,List.length_take];omega
   have HLN:=aa.mk hlen2
   have hnext:(L.take (i+1)).map (look all)=(L.take i).map (look all)++[e0]:=by rw[List.take_succ_eq_append_getElem hlt,List.map_append,←he0];rfl
   have HNX:=aa.mk hnext
   have HLT:=aa.mk hlt
   have HBY:aa (Below w.heap.size w wr):=⟨ah HBW5.out HBW.out⟩
   clear hmem he0 hq hi hK hcell hr HMr o1 o2 o3 hlen2 hnext hlt hl12 hwf
   go_wp2_with ((with_reducible refine eO (b:= .append) (xs:= #[.tmp 23, .tmp 27]) rfl ?_);at_builtin;(refine Kd.pQ kt (w0:=w) w.heap.size rfl (.tmp 23) (.tmp 27) 81 94 (.agg #[(.int .u64 0),(.int .u64 0),(.slice none 0 0)]) 40 rfl Tryz.underlying81 ko rfl (by decide) (by omega) _ ((L.take i).map (look all)) e0 [.int .u64 e0.f0, .int .u64 e0.f1, .slice Ae e0.f2.length ce] (oU L (i+1) f1 w5.heap.size) (fun k=>f1 k=e0.f0.toNat∧k≠w2.heap.size) rfl rfl ?aP ?aK ?aF ?aO ?aB ?aS ?aL ?_);(case aP=>exact oX _ _ _ e0 HR.out);(case aK=>exact fun k hk=>⟨O3.out k hk,fun c=>by have:=HOW.out k c.symm;have:=O1.out k hk;omega⟩);(case aF=>exact fun k hk=> .inr (Nat.le_trans HBW.out.size hk));(case aO=>exact Kd.kg HS.out O2.out);(case aB=>exact HBY.out);(case aS=>exact HBY.out.size);(case aL=>have:=HLN.out;have:=HLT.out;have:=HL12.out;omega);intro v1 w6 ho hb hg hat;have HO6:=aa.mk ho;have HG6:=aa.mk hg;have HAT:=aa.mk hat;clear ho hb hg hat)
   have HG:aa (Below w5.heap.size w5 w6):=⟨HBW.out.grown HG6.out HBW.out.size HOW.out⟩
   rw[←HNX.out] at HO6
   go_roundw
   case rel=>exact⟨i+1,by have:=HLT.out;have:=HL12.out;exact congrArg (Value.int .i64) ((cY ((i:Int)+1) (by omega) (by omega)).trans rfl),HLT.out,HO6,⟨fun k hk=>by
    rcases HAT.out with c|⟨q,c,hq⟩
    ·rw[c] at hk;exact HOW.out k hk
    ·rw[c] at hk;cases hk;exact Nat.le_trans HBW.out.size hq⟩,HG⟩
   case measure=>
    have:=HLT.out
    have:=HL12.out
    rw[cY ((i:Int)+1) (by omega) (by omega)]
    simp[intOf];omega
  ·have c3b0:decide ((i:Int)<(L.length:Int))=false:=decide_eq_false (by omega)
   have c3b1:decide (i<L.length)=false:=decide_eq_false hlt
   have hr:(L.take i).map (look all)=L.map (look all):=by rw[List.take_of_length_le (by omega)]
   rw[hr] at HS
   clear hlt hr hi hl12
   go_wp2
   go_ret2
   refine⟨_,rfl,?_,ah HBW5.out HBW.out⟩
   rw[HLE.out]
   exact Kd.kg HS.out (fun _ _=>trivial)
theorem eu.calls(k:Nat)(a0:Int)(r:List dA)(r2:Int)(w:World)(h:eu.f k a0=some (r,r2)):
  Calls Tryz.prog 88 #[.int .u64 a0] w fun e w'=> ∃v0_:Value,e= .returned (.tuple #[v0_, .int .i64 r2])∧Kd.S kt 94 w' w.heap.size (fun _=>True) v0_ r∧Below w.heap.size w w':=by
 unfold eu.f at h
 obtain⟨t,h1,h⟩:=Option.bind_eq_some_iff.1 h
 cases t with
 |false=>
  rw[if_neg Bool.false_ne_true] at h
  obtain⟨rfl,rfl⟩:=Prod.mk.inj (Option.some.inj h)
  exact eu.tB h1
 |true=>
  rw[if_pos rfl] at h
  obtain⟨all,h2,h⟩:=Option.bind_eq_some_iff.1 h
  split at h
  case isFalse=>cases h
  rename_i hok
  obtain⟨rfl,rfl⟩:=Prod.mk.inj (Option.some.inj h)
  exact eu.tY h1 h2 hok
end Go.Proofs.YtndkmnjbjlfeaaaGreat.Row05
end
section
namespace Go.Proofs.YtndkmnjbjlfeaaaGreat.XT
open Go.RowKit Go.Proofs.YtndkmnjbjlfeaaaGreat.Given Go.Proofs.YtndkmnjbjlfeaaaGreat.Given05 Go.Proofs.YtndkmnjbjlfeaaaGreat.XS Go.Proofs.YtndkmnjbjlfeaaaGreat.Given04 Go.Proofs.YtndkmnjbjlfeaaaGreat.Row05 Go.Proofs.YtndkmnjbjlfeaaaGreatW.PrintWords Go.Proofs.YtndkmnjbjlfeaaaGreatW.PrintLast Go.Proofs.YtndkmnjbjlfeaaaGreatW.PrintMore
attribute [local go_sem] bU bS ct cr bw bz bP bT
set_option linter.unusedVariables false
set_option linter.unusedSimpArgs false
mutual
def al.j0:Nat→List (dA)→Bool→Int→Int→List (bO)→Option (Bool)
 |0,_,_,_,_,_=>none
 |k+1,x0,x27,x102000,x102001,x102002=>if x27=true then(some false) else(al.l0 k x0 1 x102002 (x102002.length:Int) 0 x102000 x102001 x102002)
def al.l0:Nat→List (dA)→Int→List (bO)→Int→Int→Int→Int→List (bO)→Option (Bool)
 |0,_,_,_,_,_,_,_,_=>none
 |k+1,x0,x5,x29,x30,x31,x102000,x102001,x102002=>if x31<x30 then(if 0≤x31 then(if x31<(x29.length:Int) then(if((bg x29 x31).f1)<1 then(al.j2 k x0 x5 x31 x29 x30 x31 true x102000 x102001 x102002 ((bg x29 x31).f0) ((bg x29 x31).f1)) else(al.j2 k x0 x5 x31 x29 x30 x31 (decide (((bg x29 x31).f1)>62)) x102000 x102001 x102002 ((bg x29 x31).f0) ((bg x29 x31).f1))) else(none)) else(none)) else(some (x5==(IntKind.u64.wrap (x102000-1))))
def al.j2:Nat→List (dA)→Int→Int→List (bO)→Int→Int→Bool→Int→Int→List (bO)→Int→Int→Option (Bool)
 |0,_,_,_,_,_,_,_,_,_,_,_,_=>none
 |k+1,x0,x5,x6,x29,x30,x31,x43,x102000,x102001,x102002,x105000,x105001=>if x43=true then(some false) else(if x6>0 then(if 0≤(wrap64 (x6-1)) then(if(wrap64 (x6-1))<(x102002.length:Int) then(if x105000≤((bg x102002 (wrap64 (x6-1))).f0) then(al.j3 k x0 x5 x29 x30 x31 true x102000 x102001 x102002 x105000 x105001) else((e8.f x0 x105000).bind fun t106=>(al.j3 k x0 x5 x29 x30 x31 (!t106) x102000 x102001 x102002 x105000 x105001))) else(none)) else(none)) else(al.j3 k x0 x5 x29 x30 x31 false x102000 x102001 x102002 x105000 x105001))
def al.j3:Nat→List (dA)→Int→List (bO)→Int→Int→Bool→Int→Int→List (bO)→Int→Int→Option (Bool)
 |0,_,_,_,_,_,_,_,_,_,_,_=>none
 |k+1,x0,x5,x29,x30,x31,x64,x102000,x102001,x102002,x105000,x105001=>if x64=true then(some false) else(al.l1 k x0 x5 x29 x30 x31 x105001 0 x102000 x102001 x102002 x105000 x105001)
def al.l1:Nat→List (dA)→Int→List (bO)→Int→Int→Int→Int→Int→Int→List (bO)→Int→Int→Option (Bool)
 |0,_,_,_,_,_,_,_,_,_,_,_,_=>none
 |k+1,x0,x5,x29,x30,x31,x66,x67,x102000,x102001,x102002,x105000,x105001=>if x67<x66 then((bits_Mul64.f x5 x105000).bind fun bt107=>(if bt107.1>0 then(some false) else(al.l1 k x0 bt107.2 x29 x30 x31 x66 (wrap64 (x67+1)) x102000 x102001 x102002 x105000 x105001))) else(al.l0 k x0 x5 x29 x30 (wrap64 (x31+1)) x102000 x102001 x102002)
end
def al.f(k:Nat)(l0:List (dA))(a1_0:Int)(a1_1:Int)(l1_2:List (bO)):Option (Bool):=if(l1_2.length:Int)=0 then(al.j0 k l0 true a1_0 a1_1 l1_2) else(if(l1_2.length:Int)>16 then(al.j0 k l0 true a1_0 a1_1 l1_2) else(if 0<(l1_2.length:Int) then(al.j0 k l0 (((bg l1_2 0).f0) !=2) a1_0 a1_1 l1_2) else(none)))
def al.T9:Bool×List (List Nat×List Nat):=(true,[([],[]),([0],[0]),([1],[1]),([2],[2]),([3,2],[2,3]),([2],[2]),([5,2],[2,5]),([2],[2]),([7,2],[2,7]),([6,8,2],[2,6,8]),([9,2],[2,9]),([10,2],[2,10]),([4,11,2],[2,4,11]),([12,2,2],[2,12]),([13],[13]),([13],[13]),([15,13],[13,15]),([14,16,13,13],[13,14,16]),([17,13],[13,17]),([13,18,2],[2,13,18]),([2,19],[2,19])])
def al.B9:List Nat:=[0,1,3,7,15,7,39,7,135,487,999,2023,4095,8191,16383,16383,49151,131071,262143,524287,1048575]
theorem al.wi:fX .any (opsOf Tryz.f150 9)=al.T9:=by kernel_rfl
theorem al.pE:fC al.T9.2 al.B9=true:=by kernel_rfl
set_option maxHeartbeats 8000000 in
set_option maxRecDepth 100000 in
theorem al.calls(k:Nat)(A0:Option Addr)(c0:Nat)(l0:List (dA))(a1_0:Int)(a1_1:Int)(A1_2:Option Addr)(c1_2:Nat)(l1_2:List (bO))(r:Bool)(w:World)(hr0:Kd.C kt w A0 l0.length l0)(hc0:l0.length≤c0)(hr1_2:Kd.C ei w A1_2 l1_2.length l1_2)(hc1_2:l1_2.length≤c1_2)(h:al.f k l0 a1_0 a1_1 l1_2=some r):
  Calls Tryz.prog 150 #[.slice A0 l0.length c0, .agg #[.int .u64 a1_0, .int .u64 a1_1, .slice A1_2 l1_2.length c1_2]] w fun e w'=>e= .returned (.bool r)∧Below w.heap.size w w':=by
 have hu94:=Tryz.underlying94
 have hu147:=Tryz.underlying147
 have HR0:=aa.mk hr0
 have HC0:=aa.mk hc0
 clear hr0 hc0
 have HR1_2:=aa.mk hr1_2
 have HC1_2:=aa.mk hc1_2
 clear hr1_2 hc1_2
 have HB:=aa.mk (Below.refl w.heap.size w)
 have H:=h;unfold al.f at H
 clear h
 have HC3:=aa.mk H
 clear H
 go_enter Tryz.func150,Tryz.ntmps150
 go_upto_region 1 with(first|((with_reducible refine bk (N:=3) rfl ?_);(try(refine fq (by rfl) ?_;dsimp only));refine jg 3 #[.int .u64 a1_0, .int .u64 a1_1, .slice A1_2 l1_2.length c1_2] 94 ?_;intro gb101 hg w4 hbox hb;have n0_:=aa.mk (ah ak hb);have n1_:=aa.mk (hbox);have n2_:=aa.mk ((by rw[hg];exact(ai ak):w.heap.size≤gb101));have n3_:=aa.mk ((by rw[hg];exact(ai ak):w.heap.size≤gb101));clear HB;have HB:=n0_;have BK101:=n1_;have GW101:=n2_;have GE101:=n3_;clear n0_ n1_ n2_ n3_;clear hb hbox hg))
 (try simp only[Act.put,List.setIfInBounds_toArray,List.set_cons_zero,List.set_cons_succ])
 go_cut [27] (fun v27 wc=> ∃(kq:Nat) (x27_2:Bool),v27= .bool x27_2∧aa (al.j0 kq l0 x27_2 a1_0 a1_1 l1_2=some r)∧aa (kq≤k)∧aa (wc.heap[gb101]?=some (.cells #[.int .u64 a1_0, .int .u64 a1_1,(.slice A1_2 l1_2.length c1_2)] 94 (0,0)))∧aa (Below w.heap.size w wc))
 case first=>
  have H:=HC3.out
  clear HC3
  by_cases c5:(l1_2.length:Int)=0
  ·rw[if_pos c5] at H
   have c5b0:=beq_iff_eq.mpr c5
   have c5b1:=bne_eq_false_iff_eq.mpr c5
   clear c5
   (first|rw[c5b0]|(simp only[bp,bQ];rw[c5b0])|skip)
   have H':=aa.mk H
   clear H
   have hcz6_0:=bt BK101.out 0 rfl
   have hcz6_1:=bt BK101.out 1 rfl
   have hcz6_2:=bt BK101.out 2 rfl
   have hfz6_0:=ab BK101.out 0
   have hfz6_1:=ab BK101.out 1
   have hfz6_2:=ab BK101.out 2
   go_wp2
   go_meet
   case rel=>exact⟨_,(true),a8,H',⟨by first|omega|exact Nat.le_refl _⟩,⟨cP BK101.out⟩,⟨ak⟩⟩
  ·rw[if_neg c5] at H
   have c5b0:=beq_eq_false_iff_ne.mpr c5
   have c5b1:=bne_iff_ne.mpr c5
   have c5b2: ¬(l1_2=[]):=fun h_=>c5 (by rw[h_];rfl)
   (first|rw[c5b0]|(simp only[bp,bQ];rw[c5b0])|skip)
   by_cases c7:(l1_2.length:Int)>16
   ·rw[if_pos c7] at H
    have c7b0:=decide_eq_true c7
    have c7b1:decide (16<l1_2.length)=true:=decide_eq_true (by omega)
    clear c7
    have H':=aa.mk H
    clear H
    have hcz8_0:=bt BK101.out 0 rfl
    have hcz8_1:=bt BK101.out 1 rfl
    have hcz8_2:=bt BK101.out 2 rfl
    have hfz8_0:=ab BK101.out 0
    have hfz8_1:=ab BK101.out 1
    have hfz8_2:=ab BK101.out 2
    go_wp2
    go_meet
    case rel=>exact⟨_,(true),a8,H',⟨by first|omega|exact Nat.le_refl _⟩,⟨cP BK101.out⟩,⟨ak⟩⟩
   ·rw[if_neg c7] at H
    have c7b0:=decide_eq_false c7
    have c7b1:decide (16<l1_2.length)=false:=decide_eq_false (by omega)
    clear c7
    by_cases c9:0<(l1_2.length:Int)
    ·rw[if_pos c9] at H
     have c9b0:=decide_eq_true c9
     have c9b1:decide (0<l1_2.length)=true:=decide_eq_true (by omega)
     clear c9
     have H':=aa.mk H
     clear H
     have hcz10_0:=bt BK101.out 0 rfl
     have hcz10_1:=bt BK101.out 1 rfl
     have hcz10_2:=bt BK101.out 2 rfl
     have hfz10_0:=ab BK101.out 0
     have hfz10_1:=ab BK101.out 1
     have hfz10_2:=ab BK101.out 2
     have p102:0≤(0:Int):=(by omega)
     have q102:0<(l1_2.length:Int):=of_decide_eq_true (by assumption)
     obtain⟨ad102,e102,hx102_0,hx102_1⟩:=iz HR1_2.out 0 p102 q102
     cases e102
     have qi102:(0<l1_2.length)=True:=eq_true (by omega)
     (try rw[show((0:Int)).toNat=0 from rfl] at hx102_0)
     (try rw[show 0*2=0 from rfl] at hx102_0)
     (try rw[Addr.add_zero'] at hx102_0)
     (try rw[show((0:Int)).toNat=0 from rfl] at hx102_1)
     (try rw[show 0*2=0 from rfl] at hx102_1)
     (try rw[Addr.add_zero'] at hx102_1)
     replace hx102_0:=dP HB.out hx102_0
     replace hx102_1:=dP HB.out hx102_1
     replace p102:=eq_true p102
     replace q102:=eq_true q102
     go_wp2
     go_meet
     case rel=>exact⟨_,((((bg l1_2 0).f0) !=2)),a8,H',⟨by first|omega|exact Nat.le_refl _⟩,⟨cP BK101.out⟩,⟨ak⟩⟩
    ·rw[if_neg c9] at H
     exact absurd H (by simp)
 case rest=>
  clear HC3
  try clear hx1
  try clear qi1
  try clear hx10
  try clear qi10
  try clear hx102_0
  try clear hx102_1
  obtain⟨kq,x27_2,rfl,HA,HJ2,BK101,HB⟩:=hcut
  cases kq with
  |zero=>exact absurd HA.out (by simp[al.j0])
  |succ kj2=>
   have H:=HA.out
   clear HA
   simp only[al.j0] at H
   by_cases eW:x27_2=true
   ·subst eW
    have H1:=H;rw[if_pos rfl] at H1
    clear H
    have H:=H1
    clear H1
    obtain rfl:=Option.some.inj H
    go_wp2
    go_ret
    exact⟨a8,ak⟩
   ·replace eW:=Bool.eq_false_iff.mpr eW
    subst eW
    have H1:=H;rw[if_neg (show¬(false=true) by decide)] at H1
    clear H
    have H:=H1
    clear H1
    have H':=aa.mk H
    clear H
    have hcz12_0:=bt BK101.out 0 rfl
    have hcz12_1:=bt BK101.out 1 rfl
    have hcz12_2:=bt BK101.out 2 rfl
    have hfz12_0:=ab BK101.out 0
    have hfz12_1:=ab BK101.out 1
    have hfz12_2:=ab BK101.out 2
    go_wp2
    go_loopg [5,31] kj2 (fun kq v5 v31 w'=> ∃(x5_2:Int) (x31_2:Int),v5= .int .u64 x5_2∧v31= .int .i64 x31_2∧aa (al.l0 kq l0 x5_2 l1_2 (l1_2.length:Int) x31_2 a1_0 a1_1 l1_2=some r)∧aa (kq≤kj2)∧aa (w'.heap[gb101]?=some (.cells #[.int .u64 a1_0, .int .u64 a1_1,(.slice A1_2 l1_2.length c1_2)] 94 (0,0)))∧aa (Below w.heap.size w w'))
    case atStart=>exact⟨(1),(0),a8,a8,H',⟨Nat.le_refl _⟩,⟨cP BK101.out⟩,⟨ak⟩⟩
    case round=>
     clear H'
     try clear hx1
     try clear qi1
     try clear hx10
     try clear qi10
     try clear hx102_0
     try clear hx102_1
     obtain⟨x5_2,x31_2,rfl,rfl,HA,HK2,BK101,HB⟩:=hrel
     cases gk with
     |zero=>exact absurd HA.out (by simp[al.l0])
     |succ k2=>
      have H:=HA.out
      clear HA
      simp only[al.l0] at H
      by_cases iG:x31_2<(l1_2.length:Int)
      ·rw[if_pos iG] at H
       have c13b0:=decide_eq_true iG
       clear iG
       by_cases fa:0≤x31_2
       ·rw[if_pos fa] at H
        have c14b0:=decide_eq_true fa
        clear fa
        by_cases iK:x31_2<(l1_2.length:Int)
        ·rw[if_pos iK] at H
         have c15b0:=decide_eq_true iK
         clear iK
         have HC16:=aa.mk H
         clear H
         have p103:0≤(x31_2:Int):=of_decide_eq_true (by assumption)
         have q103:x31_2<(l1_2.length:Int):=of_decide_eq_true (by assumption)
         obtain⟨ad103,e103,hx103_0,hx103_1⟩:=iz HR1_2.out x31_2 p103 q103
         cases e103
         replace hx103_0:=dP HB.out hx103_0
         replace hx103_1:=dP HB.out hx103_1
         replace p103:=eq_true p103
         replace q103:=eq_true q103
         go_upto_region 7 with(first|((with_reducible refine bk (N:=7) rfl ?_);(try(refine fq (by rfl) ?_;dsimp only));refine jg 7 #[.int .u64 0, .int .i64 0] 147 ?_;intro gb104 hg w17 hbox hb;have n0_:=aa.mk (aU BK101.out hb);have n1_:=aa.mk (ah ak hb);have n2_:=aa.mk (hbox);have n3_:=aa.mk ((by rw[hg];exact(ai ak):w.heap.size≤gb104));have n4_:=aa.mk ((by rw[hg];exact(ai ak):w.heap.size≤gb104));have n5_:=aa.mk ((by rw[hg];exact Nat.ne_of_lt (de BK101.out):gb101≠gb104));have n6_:=aa.mk ((by rw[hg];exact Nat.ne_of_gt (de BK101.out):gb104≠gb101));clear BK101;clear HB;have BK101:=n0_;have HB:=n1_;have BK104:=n2_;have GW104:=n3_;have GE104:=n4_;have NB101_104:=n5_;have NB104_101:=n6_;clear n0_ n1_ n2_ n3_ n4_ n5_ n6_;clear hb hbox hg;have hnb18:=NB104_101.out;have hnc18:=NB101_104.out;have hcz19_0:=bt BK104.out 0 rfl;have hcz19_1:=bt BK104.out 1 rfl;have hfz19_0:=ab BK104.out 0;have hfz19_1:=ab BK104.out 1))
         (try simp only[Act.put,List.setIfInBounds_toArray,List.set_cons_zero,List.set_cons_succ])
         go_cut [43] (fun v43 wc=> ∃(kq:Nat) (x43_15:Bool),v43= .bool x43_15∧aa (al.j2 kq l0 x5_2 x31_2 l1_2 (l1_2.length:Int) x31_2 x43_15 a1_0 a1_1 l1_2 ((bg l1_2 x31_2).f0) ((bg l1_2 x31_2).f1)=some r)∧aa (kq≤k2)∧aa (wc.heap[gb101]?=some (.cells #[.int .u64 a1_0, .int .u64 a1_1,(.slice (some ad103) l1_2.length c1_2)] 94 (0,0)))∧aa (wc.heap[gb104]?=some (.cells #[.int .u64 ((bg l1_2 x31_2).f0), .int .i64 ((bg l1_2 x31_2).f1)] 147 (0,0)))∧aa (Below w.heap.size w wc))
         case first=>
          have H:=HC16.out
          clear HC16
          by_cases pg:((bg l1_2 x31_2).f1)<1
          ·rw[if_pos pg] at H
           have c20b0:=decide_eq_true pg
           clear pg
           (first|rw[c20b0]|(simp only[bp,bQ];rw[c20b0])|skip)
           have H':=aa.mk H
           clear H
           have hnb21:=NB104_101.out
           have hnc21:=NB101_104.out
           have hcz22_0:=bt BK104.out 0 rfl
           have hcz22_1:=bt BK104.out 1 rfl
           have hfz22_0:=ab BK104.out 0
           have hfz22_1:=ab BK104.out 1
           go_wp2
           go_meet
           case rel=>exact⟨_,(true),a8,H',⟨by have:=HJ2.out;have:=HK2.out;first|omega|exact Nat.le_refl _⟩,⟨dx (dx BK101.out NB101_104.out _) NB101_104.out _⟩,⟨bC (bC BK104.out 0 _ rfl) 1 _ rfl⟩,⟨ak⟩⟩
          ·rw[if_neg pg] at H
           have c20b0:=decide_eq_false pg
           clear pg
           (first|rw[c20b0]|(simp only[bp,bQ];rw[c20b0])|skip)
           have H':=aa.mk H
           clear H
           have hnb23:=NB104_101.out
           have hnc23:=NB101_104.out
           have hcz24_0:=bt BK104.out 0 rfl
           have hcz24_1:=bt BK104.out 1 rfl
           have hfz24_0:=ab BK104.out 0
           have hfz24_1:=ab BK104.out 1
           go_wp2
           go_meet
           case rel=>exact⟨_,(decide (((bg l1_2 x31_2).f1)>62)),a8,H',⟨by have:=HJ2.out;have:=HK2.out;first|omega|exact Nat.le_refl _⟩,⟨dx (dx BK101.out NB101_104.out _) NB101_104.out _⟩,⟨bC (bC BK104.out 0 _ rfl) 1 _ rfl⟩,⟨ak⟩⟩
         case rest=>
          clear HC16
          try clear hx1
          try clear qi1
          try clear hx10
          try clear qi10
          try clear hx102_0
          try clear hx102_1
          try clear hx103_0
          try clear hx103_1
          obtain⟨kq,x43_15,rfl,HA,HJ15,BK101,BK104,HB⟩:=hcut
          cases kq with
          |zero=>exact absurd HA.out (by simp[al.j2])
          |succ kj15=>
           have H:=HA.out
           clear HA
           simp only[al.j2] at H
           by_cases kY:x43_15=true
           ·subst kY
            have H1:=H;rw[if_pos rfl] at H1
            clear H
            have H:=H1
            clear H1
            obtain rfl:=Option.some.inj H
            go_wp2
            go_ret
            exact⟨a8,ak⟩
           ·replace kY:=Bool.eq_false_iff.mpr kY
            subst kY
            have H1:=H;rw[if_neg (show¬(false=true) by decide)] at H1
            clear H
            have H:=H1
            clear H1
            have HC26:=aa.mk H
            clear H
            go_upto_region 9 with(fail)
            go_cut [64] (fun v64 wc=> ∃(kq:Nat) (x64_25:Bool),v64= .bool x64_25∧aa (al.j3 kq l0 x5_2 l1_2 (l1_2.length:Int) x31_2 x64_25 a1_0 a1_1 l1_2 ((bg l1_2 x31_2).f0) ((bg l1_2 x31_2).f1)=some r)∧aa (kq≤kj15)∧aa (wc.heap[gb101]?=some (.cells #[.int .u64 a1_0, .int .u64 a1_1,(.slice (some ad103) l1_2.length c1_2)] 94 (0,0)))∧aa (wc.heap[gb104]?=some (.cells #[.int .u64 ((bg l1_2 x31_2).f0), .int .i64 ((bg l1_2 x31_2).f1)] 147 (0,0)))∧aa (Below w.heap.size w wc))
            case first=>
             have H:=HC26.out
             clear HC26
             by_cases ke:x31_2>0
             ·rw[if_pos ke] at H
              have c27b0:=decide_eq_true ke
              clear ke
              (first|rw[c27b0]|(simp only[bp,bQ];rw[c27b0])|skip)
              obtain⟨ji28,hji28⟩: ∃j_:Int,(wrap64 (x31_2-1))=j_:=⟨_,rfl⟩
              (first|rw[hji28] at H|simp only[hji28] at H)
              have hji28w:(IntKind.i64.wrap (x31_2-1))=ji28:=(bp _).trans hji28
              by_cases mo:0≤(ji28)
              ·rw[if_pos mo] at H
               have c29b0:=decide_eq_true mo
               clear mo
               by_cases uj:(ji28)<(l1_2.length:Int)
               ·rw[if_pos uj] at H
                have c30b0:=decide_eq_true uj
                clear uj
                by_cases kv:((bg l1_2 x31_2).f0)≤((bg l1_2 (ji28)).f0)
                ·rw[if_pos kv] at H
                 have c31b0:=decide_eq_true kv
                 clear kv
                 have H':=aa.mk H
                 clear H
                 try go_wp2
                 have n0_:=aa.mk (bG BK101.out)
                 have n1_:=aa.mk (bG BK104.out)
                 have n2_:=aa.mk (bs HB.out)
                 clear BK101
                 clear BK104
                 clear HB
                 have BK101:=n0_
                 have BK104:=n1_
                 have HB:=n2_
                 clear n0_ n1_ n2_
                 have p105:0≤((ji28):Int):=of_decide_eq_true (by assumption)
                 have q105:(ji28)<(l1_2.length:Int):=of_decide_eq_true (by assumption)
                 obtain⟨ad105,e105,hx105_0,hx105_1⟩:=iz HR1_2.out (ji28) p105 q105
                 have hw105_1:=hx105_1
                 have hw105_0:=hx105_0
                 obtain rfl:ad103=ad105:=(by injection e105)
                 replace hx105_0:=dP HB.out hx105_0
                 replace hx105_1:=dP HB.out hx105_1
                 replace p105:=eq_true p105
                 replace q105:=eq_true q105
                 refine fF (n:=21) (S:=fun w'=>w'.cell? ⟨gb104,0,none⟩=some (.int .u64 ((bg l1_2 x31_2).f0))∧w'.cell? ⟨gb104,1,none⟩=some (.int .i64 ((bg l1_2 x31_2).f1))∧w'.cell? ⟨gb101,0,none⟩=some (.int .u64 a1_0)∧w'.cell? ⟨gb101,1,none⟩=some (.int .u64 a1_1)∧w'.cell? ⟨gb101,2,none⟩=some (.slice (some ad103) l1_2.length c1_2)∧w'.cell? (ad103.add (((ji28)).toNat*2))=some (.int .u64 ((bg l1_2 (ji28)).f0))∧w'.cell? ⟨(ad103.add (((ji28)).toNat*2)).block,(ad103.add (((ji28)).toNat*2)).off+1,none⟩=some (.int .i64 ((bg l1_2 (ji28)).f1))) (ds:=[]) #[false,false,false,false,false,false,false,false,false,false,false,false,false,false,false,false,false,false,false,false,false] (by kernel_rfl) rfl rfl ⟨(aj BK104.out 0).trans rfl,(aj BK104.out 1).trans rfl,(aj BK101.out 0).trans rfl,(aj BK101.out 1).trans rfl,(aj BK101.out 2).trans rfl,(dP HB.out hw105_0),(dP HB.out hw105_1)⟩ (fun hHeld=>?_);refine dV al.wi al.pE (fun HT_ HW_=>?_)
                 generalize wc.drew=w32 at BK101 BK104 HB hx105_0 hx105_1 hHeld ⊢
                 refine dd 0 44 HT_ rfl rfl ?_
                 refine dd 1 45 HT_ rfl rfl ?_
                 refine dd 2 46 HT_ rfl rfl ?_
                 refine dd 3 47 HT_ rfl rfl ?_
                 refine dd 5 49 HT_ rfl rfl ?_
                 refine dd 7 51 HT_ rfl rfl ?_
                 refine dd 8 52 HT_ rfl rfl ?_
                 refine jk 4 48 (ch HT_.out HW_.out (by kernel_rfl)) hHeld (by rintro w' ⟨s0,s1,s2,s3,s4,s5,s6⟩;go_simp;with_reducible rfl) rfl rfl ?_
                 refine jk 6 50 (ch HT_.out HW_.out (by kernel_rfl)) hHeld (by rintro w' ⟨s0,s1,s2,s3,s4,s5,s6⟩;go_simp;with_reducible rfl) rfl rfl ?_
                 refine dd 9 53 HT_ rfl rfl ?_
                 refine dd 10 54 HT_ rfl rfl ?_
                 refine jk 11 55 (ch HT_.out HW_.out (by kernel_rfl)) hHeld (by rintro w' ⟨s0,s1,s2,s3,s4,s5,s6⟩;go_simp;with_reducible rfl) rfl rfl ?_
                 refine dd 12 56 HT_ rfl rfl ?_
                 refine dd 13 57 HT_ rfl rfl ?_
                 refine dF (i:=14) (N:=some 58) (v:=undef) (a':=?_) #[true,true,true,true,true,true,true,true,true,true,true,true,true,true,true,false,false,false,false,false,false] rfl rfl (df HT_.out (by kernel_rfl)) (fun _ _ _ h=>h) (Or.inr ⟨by rfl,rfl⟩) ?_ ?_
                 rotate_left
                 ·simp only[Act.put,List.setIfInBounds_toArray,List.set_cons_zero,List.set_cons_succ,bp,bQ]
                  rfl
                 refine dF (i:=15) (N:=some 59) (v:=undef) (a':=?_) #[true,true,true,true,true,true,true,true,true,true,true,true,true,true,true,true,false,false,false,false,false] rfl rfl (df HT_.out (by kernel_rfl)) (fun _ _ _ h=>h) (Or.inr ⟨by rfl,rfl⟩) ?_ ?_
                 rotate_left
                 ·simp only[Act.put,List.setIfInBounds_toArray,List.set_cons_zero,List.set_cons_succ,bp,bQ]
                  rfl
                 refine dF (i:=16) (N:=some 60) (v:=undef) (a':=?_) #[true,true,true,true,true,true,true,true,true,true,true,true,true,true,true,true,true,false,false,false,false] rfl rfl (df HT_.out (by kernel_rfl)) (fun _ _ _ h=>h) (Or.inr ⟨by rfl,rfl⟩) ?_ ?_
                 rotate_left
                 ·simp only[Act.put,List.setIfInBounds_toArray,List.set_cons_zero,List.set_cons_succ,bp,bQ]
                  rfl
                 refine dF (i:=17) (N:=some 61) (v:=undef) (a':=?_) #[true,true,true,true,true,true,true,true,true,true,true,true,true,true,true,true,true,true,false,false,false] rfl rfl (df HT_.out (by kernel_rfl)) (fun _ _ _ h=>h) (Or.inr ⟨by rfl,rfl⟩) ?_ ?_
                 rotate_left
                 ·simp only[Act.put,List.setIfInBounds_toArray,List.set_cons_zero,List.set_cons_succ,bp,bQ]
                  rfl
                 refine dF (i:=18) (N:=some 62) (v:=undef) (a':=?_) #[true,true,true,true,true,true,true,true,true,true,true,true,true,true,true,true,true,true,true,false,false] rfl rfl (df HT_.out (by kernel_rfl)) (fun _ _ _ h=>h) (Or.inr ⟨by rfl,rfl⟩) ?_ ?_
                 rotate_left
                 ·simp only[Act.put,List.setIfInBounds_toArray,List.set_cons_zero,List.set_cons_succ,bp,bQ]
                  rfl
                 refine dd 19 63 HT_ rfl rfl ?_
                 refine dd 20 64 HT_ rfl rfl ?_
                 refine gQ (fA HT_.out (by kernel_rfl)) ?_
                 try go_wp2
                 go_meet
                 case rel=>exact⟨_,(true),a8,H',⟨by have:=HJ2.out;have:=HK2.out;have:=HJ15.out;first|omega|exact Nat.le_refl _⟩,⟨cP BK101.out⟩,⟨cP BK104.out⟩,⟨ak⟩⟩
                ·rw[if_neg kv] at H
                 have c31b0:=decide_eq_false kv
                 clear kv
                 replace H:=Option.bind_eq_some_iff.mp H
                 obtain⟨t106,A330,H⟩:=H
                 (try dsimp only at H)
                 have A33:=aa.mk A330
                 clear A330
                 have H':=aa.mk H
                 clear H
                 try go_wp2
                 have n0_:=aa.mk (bG BK101.out)
                 have n1_:=aa.mk (bG BK104.out)
                 have n2_:=aa.mk (bs HB.out)
                 clear BK101
                 clear BK104
                 clear HB
                 have BK101:=n0_
                 have BK104:=n1_
                 have HB:=n2_
                 clear n0_ n1_ n2_
                 have p105:0≤((ji28):Int):=of_decide_eq_true (by assumption)
                 have q105:(ji28)<(l1_2.length:Int):=of_decide_eq_true (by assumption)
                 obtain⟨ad105,e105,hx105_0,hx105_1⟩:=iz HR1_2.out (ji28) p105 q105
                 have hw105_1:=hx105_1
                 have hw105_0:=hx105_0
                 obtain rfl:ad103=ad105:=(by injection e105)
                 replace hx105_0:=dP HB.out hx105_0
                 replace hx105_1:=dP HB.out hx105_1
                 replace p105:=eq_true p105
                 replace q105:=eq_true q105
                 refine fF (n:=21) (S:=fun w'=>w'.cell? ⟨gb104,0,none⟩=some (.int .u64 ((bg l1_2 x31_2).f0))∧w'.cell? ⟨gb104,1,none⟩=some (.int .i64 ((bg l1_2 x31_2).f1))∧w'.cell? ⟨gb101,0,none⟩=some (.int .u64 a1_0)∧w'.cell? ⟨gb101,1,none⟩=some (.int .u64 a1_1)∧w'.cell? ⟨gb101,2,none⟩=some (.slice (some ad103) l1_2.length c1_2)∧w'.cell? (ad103.add (((ji28)).toNat*2))=some (.int .u64 ((bg l1_2 (ji28)).f0))∧w'.cell? ⟨(ad103.add (((ji28)).toNat*2)).block,(ad103.add (((ji28)).toNat*2)).off+1,none⟩=some (.int .i64 ((bg l1_2 (ji28)).f1))) (ds:=[]) #[false,false,false,false,false,false,false,false,false,false,false,false,false,false,false,false,false,false,false,false,false] (by kernel_rfl) rfl rfl ⟨(aj BK104.out 0).trans rfl,(aj BK104.out 1).trans rfl,(aj BK101.out 0).trans rfl,(aj BK101.out 1).trans rfl,(aj BK101.out 2).trans rfl,(dP HB.out hw105_0),(dP HB.out hw105_1)⟩ (fun hHeld=>?_);refine dV al.wi al.pE (fun HT_ HW_=>?_)
                 generalize wc.drew=w34 at BK101 BK104 HB hx105_0 hx105_1 hHeld ⊢
                 refine dd 0 44 HT_ rfl rfl ?_
                 refine dd 1 45 HT_ rfl rfl ?_
                 refine dd 2 46 HT_ rfl rfl ?_
                 refine dd 3 47 HT_ rfl rfl ?_
                 refine dd 5 49 HT_ rfl rfl ?_
                 refine dd 7 51 HT_ rfl rfl ?_
                 refine dd 8 52 HT_ rfl rfl ?_
                 refine jk 4 48 (ch HT_.out HW_.out (by kernel_rfl)) hHeld (by rintro w' ⟨s0,s1,s2,s3,s4,s5,s6⟩;go_simp;with_reducible rfl) rfl rfl ?_
                 refine jk 6 50 (ch HT_.out HW_.out (by kernel_rfl)) hHeld (by rintro w' ⟨s0,s1,s2,s3,s4,s5,s6⟩;go_simp;with_reducible rfl) rfl rfl ?_
                 refine dd 9 53 HT_ rfl rfl ?_
                 refine dd 10 54 HT_ rfl rfl ?_
                 refine jk 11 55 (ch HT_.out HW_.out (by kernel_rfl)) hHeld (by rintro w' ⟨s0,s1,s2,s3,s4,s5,s6⟩;go_simp;with_reducible rfl) rfl rfl ?_
                 refine dd 12 56 HT_ rfl rfl ?_
                 refine dd 13 57 HT_ rfl rfl ?_
                 refine dd 14 58 HT_ rfl rfl ?_
                 refine dd 15 59 HT_ rfl rfl ?_
                 refine jk 16 60 (ch HT_.out HW_.out (by kernel_rfl)) hHeld (by rintro w' ⟨s0,s1,s2,s3,s4,s5,s6⟩;go_simp;with_reducible rfl) rfl rfl ?_
                 refine jz (i:=17) (N:=some 61) #[true,true,true,true,true,true,true,true,true,true,true,true,true,true,true,true,true,true,false,false,false] rfl rfl (eT HT_.out (by kernel_rfl)) (by decide) (fun K hK=>?_)
                 refine gB Tryz.func165 (by kernel_rfl) rfl #[.slice A0 l0.length c0, .int .u64 ((bg l1_2 x31_2).f0)] (by rfl) rfl rfl za ?_
                 with_reducible refine(e8.calls _ _ l0 ((bg l1_2 x31_2).f0) t106 _ ?side1 ?side2 A33.out).mono ?_
                 (case side1=>exact cw (Kd.bu HR0.out HB.out))
                 (case side2=>exact HC0.out)
                 rintro e w35 ⟨rfl,hb⟩
                 refine⟨_,rfl,?_⟩
                 have n0_:=aa.mk (aU BK101.out hb)
                 have n1_:=aa.mk (aU BK104.out hb)
                 have n2_:=aa.mk (ah ak hb)
                 clear BK101
                 clear BK104
                 clear HB
                 have BK101:=n0_
                 have BK104:=n1_
                 have HB:=n2_
                 clear n0_ n1_ n2_
                 (try clear hb)
                 (try clear hb2)
                 (try clear hk)
                 (try clear hi)
                 refine hK.out _ _ ⟨(aj BK104.out 0).trans rfl,(aj BK104.out 1).trans rfl,(aj BK101.out 0).trans rfl,(aj BK101.out 1).trans rfl,(aj BK101.out 2).trans rfl,(dP HB.out hw105_0),(dP HB.out hw105_1)⟩ (fun hHeld=>?_)
                 clear hK K
                 refine qK ?_
                 refine dd 18 62 HT_ rfl rfl ?_
                 refine dd 19 63 HT_ rfl rfl ?_
                 refine dd 20 64 HT_ rfl rfl ?_
                 refine gQ (fA HT_.out (by kernel_rfl)) ?_
                 try go_wp2
                 go_meet
                 case rel=>exact⟨_,(!t106),a8,H',⟨by have:=HJ2.out;have:=HK2.out;have:=HJ15.out;first|omega|exact Nat.le_refl _⟩,⟨cP BK101.out⟩,⟨cP BK104.out⟩,⟨ak⟩⟩
               ·rw[if_neg uj] at H
                exact absurd H (by simp)
              ·rw[if_neg mo] at H
               exact absurd H (by simp)
             ·rw[if_neg ke] at H
              have c27b0:=decide_eq_false ke
              clear ke
              (first|rw[c27b0]|(simp only[bp,bQ];rw[c27b0])|skip)
              have H':=aa.mk H
              clear H
              try go_wp2
              have n0_:=aa.mk (bG BK101.out)
              have n1_:=aa.mk (bG BK104.out)
              have n2_:=aa.mk (bs HB.out)
              clear BK101
              clear BK104
              clear HB
              have BK101:=n0_
              have BK104:=n1_
              have HB:=n2_
              clear n0_ n1_ n2_
              refine fF (n:=21) (S:=fun w'=>True) (ds:=[]) #[false,false,false,false,false,false,false,false,false,false,false,false,false,false,false,false,false,false,false,false,false] (by kernel_rfl) rfl rfl trivial (fun hHeld=>?_);refine dV al.wi al.pE (fun HT_ HW_=>?_)
              generalize wc.drew=w36 at BK101 BK104 HB hHeld ⊢
              refine dd 0 44 HT_ rfl rfl ?_
              refine dd 1 45 HT_ rfl rfl ?_
              refine dd 2 46 HT_ rfl rfl ?_
              refine dF (i:=3) (N:=some 47) (v:=undef) (a':=?_) #[true,true,true,true,false,false,false,false,false,false,false,false,false,false,false,false,false,false,false,false,false] rfl rfl (df HT_.out (by kernel_rfl)) (fun _ _ _ h=>h) (Or.inr ⟨by rfl,rfl⟩) ?_ ?_
              rotate_left
              ·simp only[Act.put,List.setIfInBounds_toArray,List.set_cons_zero,List.set_cons_succ,bp,bQ]
               rfl
              refine dF (i:=4) (N:=some 48) (v:=undef) (a':=?_) #[true,true,true,true,true,false,false,false,false,false,false,false,false,false,false,false,false,false,false,false,false] rfl rfl (df HT_.out (by kernel_rfl)) (fun _ _ _ h=>h) (Or.inr ⟨by rfl,rfl⟩) ?_ ?_
              rotate_left
              ·simp only[Act.put,List.setIfInBounds_toArray,List.set_cons_zero,List.set_cons_succ,bp,bQ]
               rfl
              refine dF (i:=5) (N:=some 49) (v:=undef) (a':=?_) #[true,true,true,true,true,true,false,false,false,false,false,false,false,false,false,false,false,false,false,false,false] rfl rfl (df HT_.out (by kernel_rfl)) (fun _ _ _ h=>h) (Or.inr ⟨by rfl,rfl⟩) ?_ ?_
              rotate_left
              ·simp only[Act.put,List.setIfInBounds_toArray,List.set_cons_zero,List.set_cons_succ,bp,bQ]
               rfl
              refine dF (i:=6) (N:=some 50) (v:=undef) (a':=?_) #[true,true,true,true,true,true,true,false,false,false,false,false,false,false,false,false,false,false,false,false,false] rfl rfl (df HT_.out (by kernel_rfl)) (fun _ _ _ h=>h) (Or.inr ⟨by rfl,rfl⟩) ?_ ?_
              rotate_left
              ·simp only[Act.put,List.setIfInBounds_toArray,List.set_cons_zero,List.set_cons_succ,bp,bQ]
               rfl
              refine dF (i:=7) (N:=some 51) (v:=undef) (a':=?_) #[true,true,true,true,true,true,true,true,false,false,false,false,false,false,false,false,false,false,false,false,false] rfl rfl (df HT_.out (by kernel_rfl)) (fun _ _ _ h=>h) (Or.inr ⟨by rfl,rfl⟩) ?_ ?_
              rotate_left
              ·simp only[Act.put,List.setIfInBounds_toArray,List.set_cons_zero,List.set_cons_succ,bp,bQ]
               rfl
              refine dF (i:=8) (N:=some 52) (v:=undef) (a':=?_) #[true,true,true,true,true,true,true,true,true,false,false,false,false,false,false,false,false,false,false,false,false] rfl rfl (df HT_.out (by kernel_rfl)) (fun _ _ _ h=>h) (Or.inr ⟨by rfl,rfl⟩) ?_ ?_
              rotate_left
              ·simp only[Act.put,List.setIfInBounds_toArray,List.set_cons_zero,List.set_cons_succ,bp,bQ]
               rfl
              refine dF (i:=9) (N:=some 53) (v:=undef) (a':=?_) #[true,true,true,true,true,true,true,true,true,true,false,false,false,false,false,false,false,false,false,false,false] rfl rfl (df HT_.out (by kernel_rfl)) (fun _ _ _ h=>h) (Or.inr ⟨by rfl,rfl⟩) ?_ ?_
              rotate_left
              ·simp only[Act.put,List.setIfInBounds_toArray,List.set_cons_zero,List.set_cons_succ,bp,bQ]
               rfl
              refine dF (i:=10) (N:=some 54) (v:=undef) (a':=?_) #[true,true,true,true,true,true,true,true,true,true,true,false,false,false,false,false,false,false,false,false,false] rfl rfl (df HT_.out (by kernel_rfl)) (fun _ _ _ h=>h) (Or.inr ⟨by rfl,rfl⟩) ?_ ?_
              rotate_left
              ·simp only[Act.put,List.setIfInBounds_toArray,List.set_cons_zero,List.set_cons_succ,bp,bQ]
               rfl
              refine dF (i:=11) (N:=some 55) (v:=undef) (a':=?_) #[true,true,true,true,true,true,true,true,true,true,true,true,false,false,false,false,false,false,false,false,false] rfl rfl (df HT_.out (by kernel_rfl)) (fun _ _ _ h=>h) (Or.inr ⟨by rfl,rfl⟩) ?_ ?_
              rotate_left
              ·simp only[Act.put,List.setIfInBounds_toArray,List.set_cons_zero,List.set_cons_succ,bp,bQ]
               rfl
              refine dF (i:=12) (N:=some 56) (v:=undef) (a':=?_) #[true,true,true,true,true,true,true,true,true,true,true,true,true,false,false,false,false,false,false,false,false] rfl rfl (df HT_.out (by kernel_rfl)) (fun _ _ _ h=>h) (Or.inr ⟨by rfl,rfl⟩) ?_ ?_
              rotate_left
              ·simp only[Act.put,List.setIfInBounds_toArray,List.set_cons_zero,List.set_cons_succ,bp,bQ]
               rfl
              refine dF (i:=13) (N:=some 57) (v:=undef) (a':=?_) #[true,true,true,true,true,true,true,true,true,true,true,true,true,true,false,false,false,false,false,false,false] rfl rfl (df HT_.out (by kernel_rfl)) (fun _ _ _ h=>h) (Or.inr ⟨by rfl,rfl⟩) ?_ ?_
              rotate_left
              ·simp only[Act.put,List.setIfInBounds_toArray,List.set_cons_zero,List.set_cons_succ,bp,bQ]
               rfl
              refine dF (i:=14) (N:=some 58) (v:=undef) (a':=?_) #[true,true,true,true,true,true,true,true,true,true,true,true,true,true,true,false,false,false,false,false,false] rfl rfl (df HT_.out (by kernel_rfl)) (fun _ _ _ h=>h) (Or.inr ⟨by rfl,rfl⟩) ?_ ?_
              rotate_left
              ·simp only[Act.put,List.setIfInBounds_toArray,List.set_cons_zero,List.set_cons_succ,bp,bQ]
               rfl
              refine dF (i:=15) (N:=some 59) (v:=undef) (a':=?_) #[true,true,true,true,true,true,true,true,true,true,true,true,true,true,true,true,false,false,false,false,false] rfl rfl (df HT_.out (by kernel_rfl)) (fun _ _ _ h=>h) (Or.inr ⟨by rfl,rfl⟩) ?_ ?_
              rotate_left
              ·simp only[Act.put,List.setIfInBounds_toArray,List.set_cons_zero,List.set_cons_succ,bp,bQ]
               rfl
              refine dF (i:=16) (N:=some 60) (v:=undef) (a':=?_) #[true,true,true,true,true,true,true,true,true,true,true,true,true,true,true,true,true,false,false,false,false] rfl rfl (df HT_.out (by kernel_rfl)) (fun _ _ _ h=>h) (Or.inr ⟨by rfl,rfl⟩) ?_ ?_
              rotate_left
              ·simp only[Act.put,List.setIfInBounds_toArray,List.set_cons_zero,List.set_cons_succ,bp,bQ]
               rfl
              refine dF (i:=17) (N:=some 61) (v:=undef) (a':=?_) #[true,true,true,true,true,true,true,true,true,true,true,true,true,true,true,true,true,true,false,false,false] rfl rfl (df HT_.out (by kernel_rfl)) (fun _ _ _ h=>h) (Or.inr ⟨by rfl,rfl⟩) ?_ ?_
              rotate_left
              ·simp only[Act.put,List.setIfInBounds_toArray,List.set_cons_zero,List.set_cons_succ,bp,bQ]
               rfl
              refine dF (i:=18) (N:=some 62) (v:=undef) (a':=?_) #[true,true,true,true,true,true,true,true,true,true,true,true,true,true,true,true,true,true,true,false,false] rfl rfl (df HT_.out (by kernel_rfl)) (fun _ _ _ h=>h) (Or.inr ⟨by rfl,rfl⟩) ?_ ?_
              rotate_left
              ·simp only[Act.put,List.setIfInBounds_toArray,List.set_cons_zero,List.set_cons_succ,bp,bQ]
               rfl
              refine dF (i:=19) (N:=some 63) (v:=undef) (a':=?_) #[true,true,true,true,true,true,true,true,true,true,true,true,true,true,true,true,true,true,true,true,false] rfl rfl (df HT_.out (by kernel_rfl)) (fun _ _ _ h=>h) (Or.inr ⟨by rfl,rfl⟩) ?_ ?_
              rotate_left
              ·simp only[Act.put,List.setIfInBounds_toArray,List.set_cons_zero,List.set_cons_succ,bp,bQ]
               rfl
              refine dd 20 64 HT_ rfl rfl ?_
              refine gQ (fA HT_.out (by kernel_rfl)) ?_
              try go_wp2
              go_meet
              case rel=>exact⟨_,(false),a8,H',⟨by have:=HJ2.out;have:=HK2.out;have:=HJ15.out;first|omega|exact Nat.le_refl _⟩,⟨cP BK101.out⟩,⟨cP BK104.out⟩,⟨ak⟩⟩
            case rest=>
             clear HC26
             try clear hx1
             try clear hx10
             try clear hx102_0
             try clear hx102_1
             try clear hx103_0
             try clear hx103_1
             try clear hx105_0
             try clear hx105_1
             obtain⟨kq,x64_25,rfl,HA,HJ25,BK101,BK104,HB⟩:=hcut
             cases kq with
             |zero=>exact absurd HA.out (by simp[al.j3])
             |succ kj25=>
              have H:=HA.out
              clear HA
              simp only[al.j3] at H
              by_cases c37:x64_25=true
              ·subst c37
               have H1:=H;rw[if_pos rfl] at H1
               clear H
               have H:=H1
               clear H1
               obtain rfl:=Option.some.inj H
               go_wp2
               go_ret
               exact⟨a8,ak⟩
              ·replace c37:=Bool.eq_false_iff.mpr c37
               subst c37
               have H1:=H;rw[if_neg (show¬(false=true) by decide)] at H1
               clear H
               have H:=H1
               clear H1
               have H':=aa.mk H
               clear H
               have hnb38:=NB104_101.out
               have hnc38:=NB101_104.out
               have hcz39_0:=bt BK104.out 0 rfl
               have hcz39_1:=bt BK104.out 1 rfl
               have hfz39_0:=ab BK104.out 0
               have hfz39_1:=ab BK104.out 1
               go_wp2
               go_loopg [5,67] kj25 (fun kq v5 v67 w'=> ∃(x5_5:Int) (x67_5:Int),v5= .int .u64 x5_5∧v67= .int .i64 x67_5∧aa (al.l1 kq l0 x5_5 l1_2 (l1_2.length:Int) x31_2 ((bg l1_2 x31_2).f1) x67_5 a1_0 a1_1 l1_2 ((bg l1_2 x31_2).f0) ((bg l1_2 x31_2).f1)=some r)∧aa (kq≤kj25)∧aa (w'.heap[gb101]?=some (.cells #[.int .u64 a1_0, .int .u64 a1_1,(.slice (some ad103) l1_2.length c1_2)] 94 (0,0)))∧aa (w'.heap[gb104]?=some (.cells #[.int .u64 ((bg l1_2 x31_2).f0), .int .i64 ((bg l1_2 x31_2).f1)] 147 (0,0)))∧aa (Below w.heap.size w w'))
               case atStart=>exact⟨(x5_2),(0),a8,a8,H',⟨Nat.le_refl _⟩,⟨cP BK101.out⟩,⟨cP BK104.out⟩,⟨ak⟩⟩
               case round=>
                clear H'
                try clear hx1
                try clear hx10
                try clear hx102_0
                try clear hx102_1
                try clear hx103_0
                try clear hx103_1
                try clear hx105_0
                try clear hx105_1
                obtain⟨x5_5,x67_5,rfl,rfl,HA,HK5,BK101,BK104,HB⟩:=hrel
                cases gk with
                |zero=>exact absurd HA.out (by simp[al.l1])
                |succ k5=>
                 have H:=HA.out
                 clear HA
                 simp only[al.l1] at H
                 by_cases c40:x67_5<((bg l1_2 x31_2).f1)
                 ·rw[if_pos c40] at H
                  have c40b0:=decide_eq_true c40
                  clear c40
                  replace H:=Option.bind_eq_some_iff.mp H
                  obtain⟨⟨t107,t108⟩,A410,H⟩:=H
                  (try dsimp only at H)
                  have A41:=aa.mk A410
                  clear A410
                  by_cases c42:t107>0
                  ·rw[if_pos c42] at H
                   have c42b0:=decide_eq_true c42
                   clear c42
                   obtain rfl:=Option.some.inj H
                   have hnb43:=NB104_101.out
                   have hnc43:=NB101_104.out
                   have hcz44_0:=bt BK104.out 0 rfl
                   have hcz44_1:=bt BK104.out 1 rfl
                   have hfz44_0:=ab BK104.out 0
                   have hfz44_1:=ab BK104.out 1
                   go_wp2_with (first|(refine fh 73 Tryz.func125 #[.int .u64 x5_5, .int .u64 ((bg l1_2 x31_2).f0)] rfl ?_;(with_reducible refine(bits_Mul64.calls x5_5 ((bg l1_2 x31_2).f0) t107 t108 _ A41.out).mono ?_);rintro e w' ⟨rfl,⟨nd,rfl⟩⟩;refine⟨_,rfl,?_⟩))
                   go_ret
                   exact⟨a8,ak⟩
                  ·rw[if_neg c42] at H
                   have c42b0:=decide_eq_false c42
                   clear c42
                   have H':=aa.mk H
                   clear H
                   have hnb45:=NB104_101.out
                   have hnc45:=NB101_104.out
                   have hcz46_0:=bt BK104.out 0 rfl
                   have hcz46_1:=bt BK104.out 1 rfl
                   have hfz46_0:=ab BK104.out 0
                   have hfz46_1:=ab BK104.out 1
                   go_wp2_with (first|(refine fh 73 Tryz.func125 #[.int .u64 x5_5, .int .u64 ((bg l1_2 x31_2).f0)] rfl ?_;(with_reducible refine(bits_Mul64.calls x5_5 ((bg l1_2 x31_2).f0) t107 t108 _ A41.out).mono ?_);rintro e w' ⟨rfl,⟨nd,rfl⟩⟩;refine⟨_,rfl,?_⟩))
                   go_roundg k5
                   case measure=>have:=HJ2.out;have:=HK2.out;have:=HJ15.out;have:=HJ25.out;have:=HK5.out;omega
                   case rel=>exact⟨(t108),(wrap64 (x67_5+1)),a8,a8,H',⟨by have:=HJ2.out;have:=HK2.out;have:=HJ15.out;have:=HJ25.out;have:=HK5.out;omega⟩,⟨cP BK101.out⟩,⟨cP BK104.out⟩,⟨ak⟩⟩
                 ·rw[if_neg c40] at H
                  have c40b0:=decide_eq_false c40
                  clear c40
                  have H':=aa.mk H
                  clear H
                  go_wp2
                  go_roundg k5
                  case measure=>have:=HJ2.out;have:=HK2.out;have:=HJ15.out;have:=HJ25.out;have:=HK5.out;omega
                  case rel=>exact⟨(x5_5),(wrap64 (x31_2+1)),a8,a8,H',⟨by have:=HJ2.out;have:=HK2.out;have:=HJ15.out;have:=HJ25.out;have:=HK5.out;omega⟩,⟨cP BK101.out⟩,⟨ak⟩⟩
        ·rw[if_neg iK] at H
         exact absurd H (by simp)
       ·rw[if_neg fa] at H
        exact absurd H (by simp)
      ·rw[if_neg iG] at H
       have c13b0:=decide_eq_false iG
       clear iG
       obtain rfl:=Option.some.inj H
       have hcz47_0:=bt BK101.out 0 rfl
       have hcz47_1:=bt BK101.out 1 rfl
       have hcz47_2:=bt BK101.out 2 rfl
       have hfz47_0:=ab BK101.out 0
       have hfz47_1:=ab BK101.out 1
       have hfz47_2:=ab BK101.out 2
       go_wp2
       go_ret
       exact⟨a8,ak⟩
end Go.Proofs.YtndkmnjbjlfeaaaGreat.XT
end
section
namespace Go.Proofs.YtndkmnjbjlfeaaaGreat.XT
open Go.RowKit Go.Proofs.YtndkmnjbjlfeaaaGreat.Given Go.Proofs.YtndkmnjbjlfeaaaGreat.Given05 Go.Proofs.YtndkmnjbjlfeaaaGreat.XS Go.Proofs.YtndkmnjbjlfeaaaGreat.Given04 Go.Proofs.YtndkmnjbjlfeaaaGreat.Row05 Go.Proofs.YtndkmnjbjlfeaaaGreatW.PrintWords Go.Proofs.YtndkmnjbjlfeaaaGreatW.PrintLast Go.Proofs.YtndkmnjbjlfeaaaGreatW.PrintMore
attribute [local go_sem] bU bS ct cr bw bz bP bT
set_option linter.unusedVariables false
set_option linter.unusedSimpArgs false
mutual
def bf.j0:Nat→List (dA)→Bool→Int→Int→List (bO)→Option (Bool)
 |0,_,_,_,_,_=>none
 |k+1,x0,x31,x110000,x110001,x110002=>if x31=true then(some false) else(if(x0.length:Int)>0 then(if 0≤(wrap64 ((x0.length:Int)-1)) then(if(wrap64 ((x0.length:Int)-1))<(x0.length:Int) then(bf.j1 k x0 (decide (((aW x0 (wrap64 ((x0.length:Int)-1))).f0)≥x110000)) x110000 x110001 x110002) else(none)) else(none)) else(bf.j1 k x0 false x110000 x110001 x110002))
def bf.j1:Nat→List (dA)→Bool→Int→Int→List (bO)→Option (Bool)
 |0,_,_,_,_,_=>none
 |k+1,x0,x46,x110000,x110001,x110002=>if x46=true then(some false) else((al.f k x0 x110000 x110001 x110002).bind fun t111=>(if t111=true then((eU.f x110000 x110001 x110002).bind fun t112=>(some t112)) else(some false)))
end
def bf.f(k:Nat)(l0:List (dA))(a1_0:Int)(a1_1:Int)(l1_2:List (bO)):Option (Bool):=if(Go.bits .and .u64 a1_0 1)=0 then(bf.j0 k l0 true a1_0 a1_1 l1_2) else(if a1_0<3 then(bf.j0 k l0 true a1_0 a1_1 l1_2) else(if a1_0≥9223372036854775808 then(bf.j0 k l0 true a1_0 a1_1 l1_2) else(if a1_1<2 then(bf.j0 k l0 true a1_0 a1_1 l1_2) else(bf.j0 k l0 (decide (a1_1≥a1_0)) a1_0 a1_1 l1_2))))
set_option maxHeartbeats 8000000 in
set_option maxRecDepth 100000 in
theorem bf.calls(k:Nat)(A0:Option Addr)(c0:Nat)(l0:List (dA))(a1_0:Int)(a1_1:Int)(A1_2:Option Addr)(c1_2:Nat)(l1_2:List (bO))(r:Bool)(w:World)(hr0:Kd.C kt w A0 l0.length l0)(hc0:l0.length≤c0)(hr1_2:Kd.C ei w A1_2 l1_2.length l1_2)(hc1_2:l1_2.length≤c1_2)(h:bf.f k l0 a1_0 a1_1 l1_2=some r):
  Calls Tryz.prog 123 #[.slice A0 l0.length c0, .agg #[.int .u64 a1_0, .int .u64 a1_1, .slice A1_2 l1_2.length c1_2]] w fun e w'=>e= .returned (.bool r)∧Below w.heap.size w w':=by
 have hu94:=Tryz.underlying94
 have HR0:=aa.mk hr0
 have HC0:=aa.mk hc0
 clear hr0 hc0
 have HR1_2:=aa.mk hr1_2
 have HC1_2:=aa.mk hc1_2
 clear hr1_2 hc1_2
 have HB:=aa.mk (Below.refl w.heap.size w)
 have H:=h;unfold bf.f at H
 clear h
 have HC3:=aa.mk H
 clear H
 go_enter Tryz.func123,Tryz.ntmps123
 go_upto_region 1 with(first|((with_reducible refine bk (N:=3) rfl ?_);refine jg 3 #[.int .u64 a1_0, .int .u64 a1_1, .slice A1_2 l1_2.length c1_2] 94 ?_;intro gb109 hg w4 hbox hb;have n0_:=aa.mk (ah ak hb);have n1_:=aa.mk (hbox);have n2_:=aa.mk ((by rw[hg];exact(ai ak):w.heap.size≤gb109));have n3_:=aa.mk ((by rw[hg];exact(ai ak):w.heap.size≤gb109));clear HB;have HB:=n0_;have BK109:=n1_;have GW109:=n2_;have GE109:=n3_;clear n0_ n1_ n2_ n3_;clear hb hbox hg))
 (try simp only[Act.put,List.setIfInBounds_toArray,List.set_cons_zero,List.set_cons_succ])
 go_cut [31] (fun v31 wc=> ∃(kq:Nat) (x31_2:Bool),v31= .bool x31_2∧aa (bf.j0 kq l0 x31_2 a1_0 a1_1 l1_2=some r)∧aa (kq≤k)∧aa (wc.heap[gb109]?=some (.cells #[.int .u64 a1_0, .int .u64 a1_1,(.slice A1_2 l1_2.length c1_2)] 94 (0,0)))∧aa (Below w.heap.size w wc))
 case first=>
  have H:=HC3.out
  clear HC3
  by_cases c5:(Go.bits .and .u64 a1_0 1)=0
  ·rw[if_pos c5] at H
   have c5b0:=beq_iff_eq.mpr c5
   have c5b1:=bne_eq_false_iff_eq.mpr c5
   clear c5
   (first|rw[c5b0]|(simp only[bp,bQ];rw[c5b0])|skip)
   have H':=aa.mk H
   clear H
   have hcz6_0:=bt BK109.out 0 rfl
   have hcz6_1:=bt BK109.out 1 rfl
   have hcz6_2:=bt BK109.out 2 rfl
   have hfz6_0:=ab BK109.out 0
   have hfz6_1:=ab BK109.out 1
   have hfz6_2:=ab BK109.out 2
   go_wp2
   go_meet
   case rel=>exact⟨_,(true),a8,H',⟨by first|omega|exact Nat.le_refl _⟩,⟨cP BK109.out⟩,⟨ak⟩⟩
  ·rw[if_neg c5] at H
   have c5b0:=beq_eq_false_iff_ne.mpr c5
   have c5b1:=bne_iff_ne.mpr c5
   (first|rw[c5b0]|(simp only[bp,bQ];rw[c5b0])|skip)
   by_cases c7:a1_0<3
   ·rw[if_pos c7] at H
    have c7b0:=decide_eq_true c7
    clear c7
    have H':=aa.mk H
    clear H
    have hcz8_0:=bt BK109.out 0 rfl
    have hcz8_1:=bt BK109.out 1 rfl
    have hcz8_2:=bt BK109.out 2 rfl
    have hfz8_0:=ab BK109.out 0
    have hfz8_1:=ab BK109.out 1
    have hfz8_2:=ab BK109.out 2
    go_wp2
    go_meet
    case rel=>exact⟨_,(true),a8,H',⟨by first|omega|exact Nat.le_refl _⟩,⟨cP BK109.out⟩,⟨ak⟩⟩
   ·rw[if_neg c7] at H
    have c7b0:=decide_eq_false c7
    clear c7
    by_cases c9:a1_0≥9223372036854775808
    ·rw[if_pos c9] at H
     have c9b0:=decide_eq_true c9
     clear c9
     have H':=aa.mk H
     clear H
     have hcz10_0:=bt BK109.out 0 rfl
     have hcz10_1:=bt BK109.out 1 rfl
     have hcz10_2:=bt BK109.out 2 rfl
     have hfz10_0:=ab BK109.out 0
     have hfz10_1:=ab BK109.out 1
     have hfz10_2:=ab BK109.out 2
     go_wp2
     go_meet
     case rel=>exact⟨_,(true),a8,H',⟨by first|omega|exact Nat.le_refl _⟩,⟨cP BK109.out⟩,⟨ak⟩⟩
    ·rw[if_neg c9] at H
     have c9b0:=decide_eq_false c9
     clear c9
     by_cases eW:a1_1<2
     ·rw[if_pos eW] at H
      have c11b0:=decide_eq_true eW
      clear eW
      have H':=aa.mk H
      clear H
      have hcz12_0:=bt BK109.out 0 rfl
      have hcz12_1:=bt BK109.out 1 rfl
      have hcz12_2:=bt BK109.out 2 rfl
      have hfz12_0:=ab BK109.out 0
      have hfz12_1:=ab BK109.out 1
      have hfz12_2:=ab BK109.out 2
      go_wp2
      go_meet
      case rel=>exact⟨_,(true),a8,H',⟨by first|omega|exact Nat.le_refl _⟩,⟨cP BK109.out⟩,⟨ak⟩⟩
     ·rw[if_neg eW] at H
      have c11b0:=decide_eq_false eW
      clear eW
      have H':=aa.mk H
      clear H
      have hcz13_0:=bt BK109.out 0 rfl
      have hcz13_1:=bt BK109.out 1 rfl
      have hcz13_2:=bt BK109.out 2 rfl
      have hfz13_0:=ab BK109.out 0
      have hfz13_1:=ab BK109.out 1
      have hfz13_2:=ab BK109.out 2
      go_wp2
      go_meet
      case rel=>exact⟨_,(decide (a1_1≥a1_0)),a8,H',⟨by first|omega|exact Nat.le_refl _⟩,⟨cP BK109.out⟩,⟨ak⟩⟩
 case rest=>
  clear HC3
  obtain⟨kq,x31_2,rfl,HA,HJ2,BK109,HB⟩:=hcut
  cases kq with
  |zero=>exact absurd HA.out (by simp[bf.j0])
  |succ kj2=>
   have H:=HA.out
   clear HA
   simp only[bf.j0] at H
   by_cases fa:x31_2=true
   ·subst fa
    have H1:=H;rw[if_pos rfl] at H1
    clear H
    have H:=H1
    clear H1
    obtain rfl:=Option.some.inj H
    go_wp2
    go_ret
    exact⟨a8,ak⟩
   ·replace fa:=Bool.eq_false_iff.mpr fa
    subst fa
    have H1:=H;rw[if_neg (show¬(false=true) by decide)] at H1
    clear H
    have H:=H1
    clear H1
    have HC15:=aa.mk H
    clear H
    go_upto_region 4 with(fail)
    go_cut [46] (fun v46 wc=> ∃(kq:Nat) (x46_14:Bool),v46= .bool x46_14∧aa (bf.j1 kq l0 x46_14 a1_0 a1_1 l1_2=some r)∧aa (kq≤kj2)∧aa (wc.heap[gb109]?=some (.cells #[.int .u64 a1_0, .int .u64 a1_1,(.slice A1_2 l1_2.length c1_2)] 94 (0,0)))∧aa (Below w.heap.size w wc))
    case first=>
     have H:=HC15.out
     clear HC15
     by_cases jx:(l0.length:Int)>0
     ·rw[if_pos jx] at H
      have c16b0:=decide_eq_true jx
      have c16b1:decide (0<l0.length)=true:=decide_eq_true (by omega)
      clear jx
      (first|rw[c16b0]|(simp only[bp,bQ];rw[c16b0])|skip)
      obtain⟨ji17,hji17⟩: ∃j_:Int,(wrap64 ((l0.length:Int)-1))=j_:=⟨_,rfl⟩
      (first|rw[hji17] at H|simp only[hji17] at H)
      have hji17w:(IntKind.i64.wrap ((l0.length:Int)-1))=ji17:=(bp _).trans hji17
      by_cases ji:0≤(ji17)
      ·rw[if_pos ji] at H
       have c18b0:=decide_eq_true ji
       clear ji
       by_cases mD:(ji17)<(l0.length:Int)
       ·rw[if_pos mD] at H
        have c19b0:=decide_eq_true mD
        clear mD
        have H':=aa.mk H
        clear H
        have p110:0≤((ji17):Int):=of_decide_eq_true (by assumption)
        have q110:(ji17)<(l0.length:Int):=of_decide_eq_true (by assumption)
        obtain⟨ad110,A110_2,c110_2,e110,hx110_0,hx110_1,hx110_2,hl110_2,hi110_2⟩:=lA HR0.out (ji17) p110 q110
        cases e110
        replace hx110_0:=dP HB.out hx110_0
        replace hx110_1:=dP HB.out hx110_1
        replace hx110_2:=dP HB.out hx110_2
        have HR110_2:=aa.mk hi110_2
        have HC110_2:=aa.mk hl110_2
        clear hi110_2 hl110_2
        replace p110:=eq_true p110
        replace q110:=eq_true q110
        have hcz20_0:=bt BK109.out 0 rfl
        have hcz20_1:=bt BK109.out 1 rfl
        have hcz20_2:=bt BK109.out 2 rfl
        have hfz20_0:=ab BK109.out 0
        have hfz20_1:=ab BK109.out 1
        have hfz20_2:=ab BK109.out 2
        go_wp2
        repeat(go_quiet (fail);try go_wp2)
        go_meet
        case rel=>exact⟨_,(decide (((aW l0 (ji17)).f0)≥a1_0)),(by first|rfl|(simp;done)|(simp only[←hji17]<;>(first|rfl|simp))|(simp[*];done)),H',⟨by have:=HJ2.out;first|omega|exact Nat.le_refl _⟩,⟨cP BK109.out⟩,⟨ak⟩⟩
       ·rw[if_neg mD] at H
        exact absurd H (by simp)
      ·rw[if_neg ji] at H
       exact absurd H (by simp)
     ·rw[if_neg jx] at H
      have c16b0:=decide_eq_false jx
      have c16b1:decide (0<l0.length)=false:=decide_eq_false (by omega)
      clear jx
      (first|rw[c16b0]|(simp only[bp,bQ];rw[c16b0])|skip)
      have H':=aa.mk H
      clear H
      go_wp2
      repeat(go_quiet (fail);try go_wp2)
      go_meet
      case rel=>exact⟨_,(false),a8,H',⟨by have:=HJ2.out;first|omega|exact Nat.le_refl _⟩,⟨cP BK109.out⟩,⟨ak⟩⟩
    case rest=>
     clear HC15
     try clear hx1
     try clear hx11
     try clear hx110_0
     try clear hx110_1
     try clear hx110_2
     obtain⟨kq,x46_14,rfl,HA,HJ14,BK109,HB⟩:=hcut
     cases kq with
     |zero=>exact absurd HA.out (by simp[bf.j1])
     |succ kj14=>
      have H:=HA.out
      clear HA
      simp only[bf.j1] at H
      by_cases mq:x46_14=true
      ·subst mq
       have H1:=H;rw[if_pos rfl] at H1
       clear H
       have H:=H1
       clear H1
       obtain rfl:=Option.some.inj H
       go_wp2
       go_ret
       exact⟨a8,ak⟩
      ·replace mq:=Bool.eq_false_iff.mpr mq
       subst mq
       have H1:=H;rw[if_neg (show¬(false=true) by decide)] at H1
       clear H
       have H:=H1
       clear H1
       replace H:=Option.bind_eq_some_iff.mp H
       obtain⟨t111,A220,H⟩:=H
       (try dsimp only at H)
       have A22:=aa.mk A220
       clear A220
       by_cases jn:t111=true
       ·subst jn
        have H1:=H;rw[if_pos rfl] at H1
        clear H
        have H:=H1
        clear H1
        replace H:=Option.bind_eq_some_iff.mp H
        obtain⟨t112,A240,H⟩:=H
        (try dsimp only at H)
        have A24:=aa.mk A240
        clear A240
        obtain rfl:=Option.some.inj H
        have hcz25_0:=bt BK109.out 0 rfl
        have hcz25_1:=bt BK109.out 1 rfl
        have hcz25_2:=bt BK109.out 2 rfl
        have hfz25_0:=ab BK109.out 0
        have hfz25_1:=ab BK109.out 1
        have hfz25_2:=ab BK109.out 2
        go_wp2_with (first|(go_at_call 150;(with_reducible refine(al.calls kj14 _ _ l0 a1_0 a1_1 _ _ l1_2 true _ ?side1 ?side2 ?side3 ?side4 A22.out).mono ?_);(case side1=>exact cw (Kd.bu HR0.out HB.out));(case side2=>exact HC0.out);(case side3=>exact cw (Kd.bu HR1_2.out HB.out));(case side4=>exact HC1_2.out);rintro e w26 ⟨rfl,hb⟩;have n0_:=aa.mk (aU BK109.out hb);have n1_:=aa.mk (ah ak hb);clear BK109;clear HB;have BK109:=n0_;have HB:=n1_;clear n0_ n1_;have hcz27_0:=bt BK109.out 0 rfl;have hcz27_1:=bt BK109.out 1 rfl;have hcz27_2:=bt BK109.out 2 rfl;have hfz27_0:=ab BK109.out 0;have hfz27_1:=ab BK109.out 1;have hfz27_2:=ab BK109.out 2)|(go_at_call 151;(with_reducible refine(eU.calls a1_0 a1_1 _ _ l1_2 t112 _ ?side1 ?side2 A24.out).mono ?_);(case side1=>exact cw (Kd.bu HR1_2.out HB.out));(case side2=>exact HC1_2.out);rintro e w28 ⟨rfl,hb⟩;have n0_:=aa.mk (aU BK109.out hb);have n1_:=aa.mk (ah ak hb);clear BK109;clear HB;have BK109:=n0_;have HB:=n1_;clear n0_ n1_))
        go_ret
        exact⟨a8,ak⟩
       ·replace jn:=Bool.eq_false_iff.mpr jn
        subst jn
        have H1:=H;rw[if_neg (show¬(false=true) by decide)] at H1
        clear H
        have H:=H1
        clear H1
        obtain rfl:=Option.some.inj H
        have hcz29_0:=bt BK109.out 0 rfl
        have hcz29_1:=bt BK109.out 1 rfl
        have hcz29_2:=bt BK109.out 2 rfl
        have hfz29_0:=ab BK109.out 0
        have hfz29_1:=ab BK109.out 1
        have hfz29_2:=ab BK109.out 2
        go_wp2_with (first|(go_at_call 150;(with_reducible refine(al.calls kj14 _ _ l0 a1_0 a1_1 _ _ l1_2 false _ ?side1 ?side2 ?side3 ?side4 A22.out).mono ?_);(case side1=>exact cw (Kd.bu HR0.out HB.out));(case side2=>exact HC0.out);(case side3=>exact cw (Kd.bu HR1_2.out HB.out));(case side4=>exact HC1_2.out);rintro e w30 ⟨rfl,hb⟩;have n0_:=aa.mk (aU BK109.out hb);have n1_:=aa.mk (ah ak hb);clear BK109;clear HB;have BK109:=n0_;have HB:=n1_;clear n0_ n1_))
        go_ret
        exact⟨a8,ak⟩
def bD.l0:Nat→List (dA)→List (dA)→Int→Int→Option (Int×Int)
 |0,_,_,_,_=>none
 |k+1,x0,x9,x10,x11=>if x11<x10 then(if 0≤x11 then(if x11<(x9.length:Int) then(if x11≤(x0.length:Int) then((bf.f k (x0.take (x11:Int).toNat) ((aW x9 x11).f0) ((aW x9 x11).f1) ((aW x9 x11).f2)).bind fun t119=>(if t119=true then(bD.l0 k x0 x9 x10 (wrap64 (x11+1))) else(some (x11,3)))) else(none)) else(none)) else(none)) else(some (0,0))
def bD.f(k:Nat)(l0:List (dA)):Option (Int×Int):=if(l0.length:Int)>32 then(some (0,13)) else(bD.l0 k l0 l0 (l0.length:Int) 0)
set_option maxHeartbeats 8000000 in
set_option maxRecDepth 100000 in
theorem bD.calls(k:Nat)(A0:Option Addr)(c0:Nat)(l0:List (dA))(r1:Int)(r2:Int)(w:World)(hr0:Kd.C kt w A0 l0.length l0)(hc0:l0.length≤c0)(h:bD.f k l0=some (r1,r2)):
  Calls Tryz.prog 93 #[.slice A0 l0.length c0] w fun e w'=>e= .returned (.tuple #[.int .i64 r1, .int .i64 r2])∧Below w.heap.size w w':=by
 have hu94:=Tryz.underlying94
 have HR0:=aa.mk hr0
 have HC0:=aa.mk hc0
 clear hr0 hc0
 have HB:=aa.mk (Below.refl w.heap.size w)
 have H:=h;unfold bD.f at H
 clear h
 by_cases c2:(l0.length:Int)>32
 ·rw[if_pos c2] at H
  have c2b0:=decide_eq_true c2
  have c2b1:decide (32<l0.length)=true:=decide_eq_true (by omega)
  clear c2
  simp only[Option.some.injEq,Prod.mk.injEq] at H
  obtain⟨rfl,rfl⟩:=H
  go_enter Tryz.func93,Tryz.ntmps93
  go_wp2
  go_ret2
  exact⟨a8,ak⟩
 ·rw[if_neg c2] at H
  have c2b0:=decide_eq_false c2
  have c2b1:decide (32<l0.length)=false:=decide_eq_false (by omega)
  clear c2
  have H':=aa.mk H
  clear H
  go_enter Tryz.func93,Tryz.ntmps93
  go_wp2
  go_loopg [11] k (fun kq v11 w'=> ∃(x11_1:Int),v11= .int .i64 x11_1∧aa (bD.l0 kq l0 l0 (l0.length:Int) x11_1=some (r1,r2))∧aa (kq≤k)∧aa (Below w.heap.size w w'))
  case atStart=>exact⟨(0),a8,H',⟨Nat.le_refl _⟩,⟨ak⟩⟩
  case round=>
   clear H'
   obtain⟨x11_1,rfl,HA,HK1,HB⟩:=hrel
   cases gk with
   |zero=>exact absurd HA.out (by simp[bD.l0])
   |succ k1=>
    have H:=HA.out
    clear HA
    simp only[bD.l0] at H
    by_cases c3:x11_1<(l0.length:Int)
    ·rw[if_pos c3] at H
     have c3b0:=decide_eq_true c3
     clear c3
     by_cases c4:0≤x11_1
     ·rw[if_pos c4] at H
      have c4b0:=decide_eq_true c4
      clear c4
      by_cases c5:x11_1<(l0.length:Int)
      ·rw[if_pos c5] at H
       have c5b0:=decide_eq_true c5
       clear c5
       have c6b0:=eq_true (of_decide_eq_true (by assumption):0≤x11_1)
       by_cases c7:x11_1≤(l0.length:Int)
       ·rw[if_pos c7] at H
        have c7b0:=eq_true c7
        have c7b1:=decide_eq_true c7
        clear c7
        obtain⟨y115,hy115⟩: ∃y_:List (dA),y_=(l0.take (x11_1:Int).toNat):=⟨_,rfl⟩
        replace H:((bf.f k1 y115 ((aW l0 x11_1).f0) ((aW l0 x11_1).f1) ((aW l0 x11_1).f2)).bind fun t119=>(if t119=true then(bD.l0 k1 l0 l0 (l0.length:Int) (wrap64 (x11_1+1))) else(some (x11_1,3))))=some (r1,r2):=by first|(rw[hy115];with_reducible exact H)|(have H2_:=(Option.bind_some _ _).symm.trans H;rw[hy115];with_reducible exact H2_)|(have H2_:=(Option.bind_some _ _).symm.trans H;with_reducible exact H2_)|with_reducible exact H|(rw[hy115];exact H)|exact H
        have Ny115:=aa.mk hy115
        clear hy115
        replace H:=Option.bind_eq_some_iff.mp H
        obtain⟨t119,A80,H⟩:=H
        (try dsimp only at H)
        have A8:=aa.mk A80
        clear A80
        by_cases c9:t119=true
        ·subst c9
         have H1:=H;rw[if_pos rfl] at H1
         clear H
         have H:=H1
         clear H1
         have H':=aa.mk H
         clear H
         have p113:0≤(x11_1:Int):=of_decide_eq_true (by assumption)
         have q113:x11_1<(l0.length:Int):=of_decide_eq_true (by assumption)
         obtain⟨ad113,A113_2,c113_2,e113,hx113_0,hx113_1,hx113_2,hl113_2,hi113_2⟩:=lA HR0.out x11_1 p113 q113
         cases e113
         replace hx113_0:=dP HB.out hx113_0
         replace hx113_1:=dP HB.out hx113_1
         replace hx113_2:=dP HB.out hx113_2
         have HR113_2:=aa.mk hi113_2
         have HC113_2:=aa.mk hl113_2
         clear hi113_2 hl113_2
         replace p113:=eq_true p113
         replace q113:=eq_true q113
         try go_wp2_with (first|((with_reducible refine bk (N:=5) rfl ?_);refine jg 5 #[.int .u64 0, .int .u64 0, .slice none 0 0] 94 ?_;intro gb114 hg w10 hbox hb;have n0_:=aa.mk (ah ak hb);have n1_:=aa.mk (hbox);have n2_:=aa.mk ((by rw[hg];exact(ai ak):w.heap.size≤gb114));have n3_:=aa.mk ((by rw[hg];exact(ai ak):w.heap.size≤gb114));clear HB;have HB:=n0_;have BK114:=n1_;have GW114:=n2_;have GE114:=n3_;clear n0_ n1_ n2_ n3_;clear hb hbox hg;have hcz11_0:=bt BK114.out 0 rfl;have hcz11_1:=bt BK114.out 1 rfl;have hcz11_2:=bt BK114.out 2 rfl;have hfz11_0:=ab BK114.out 0;have hfz11_1:=ab BK114.out 1;have hfz11_2:=ab BK114.out 2))
         have n0_:aa ((((w10.setCell ⟨gb114,0,none⟩ (.int .u64 ((aW l0 x11_1).f0))).setCell ⟨gb114,1,none⟩ (.int .u64 ((aW l0 x11_1).f1))).setCell ⟨gb114,2,none⟩ (.slice A113_2 ((aW l0 x11_1).f2).length c113_2)).heap[gb114]?=some (.cells #[.int .u64 ((aW l0 x11_1).f0), .int .u64 ((aW l0 x11_1).f1), .slice A113_2 ((aW l0 x11_1).f2).length c113_2] 94 (0,0))):=⟨bC (bC (bC BK114.out 0 _ rfl) 1 _ rfl) 2 _ rfl⟩
         have n1_:aa (Below w.heap.size w (((w10.setCell ⟨gb114,0,none⟩ (.int .u64 ((aW l0 x11_1).f0))).setCell ⟨gb114,1,none⟩ (.int .u64 ((aW l0 x11_1).f1))).setCell ⟨gb114,2,none⟩ (.slice A113_2 ((aW l0 x11_1).f2).length c113_2))):=⟨ak⟩
         (try clear BK114)
         (try clear HB)
         generalize(((w10.setCell ⟨gb114,0,none⟩ (.int .u64 ((aW l0 x11_1).f0))).setCell ⟨gb114,1,none⟩ (.int .u64 ((aW l0 x11_1).f1))).setCell ⟨gb114,2,none⟩ (.slice A113_2 ((aW l0 x11_1).f2).length c113_2))=w12 at n0_ n1_ ⊢
         have BK114:=n0_
         have HB:=n1_
         clear n0_ n1_
         have n0_:=aa.mk (bG BK114.out)
         have n1_:=aa.mk (bs HB.out)
         clear BK114
         clear HB
         have BK114:=n0_
         have HB:=n1_
         clear n0_ n1_
         have q14:(x11_1:Int)≤((l0.length:Int):Int):=of_decide_eq_true (by assumption)
         obtain⟨i014,hi014,_,hsz14,_⟩:=info_parts ko
         have hroom14:l0.length≤c0:=HC0.out
         have hC14:Kd.C kt _ (some ad113) l0.length l0:=HR0.out
         have hcut14:=qR (P:=Tryz.prog) 81 94 .i64 Tryz.underlying81 hi014 (some ad113) l0.length c0 x11_1 (of_decide_eq_true (by assumption)) q14 hroom14
         have hr14:=Kd.rR (m:=(x11_1:Int).toNat) hC14 (by omega)
         have hy14:y115.length=(x11_1:Int).toNat:=(by rw[Ny115.out,List.length_take];omega)
         rw[←Ny115.out] at hr14
         rw[←hy14] at hcut14
         have HR118:=aa.mk hr14
         have HC118:=aa.mk (show y115.length≤c0 from by omega)
         clear hr14 hC14 hroom14 hi014 hsz14
         have KY14:=aa.mk hy14
         clear hy14
         replace q14:=eq_true q14
         refine fF (n:=6) (S:=fun w'=>w'.cell? ⟨gb114,0,none⟩=some (.int .u64 ((aW l0 x11_1).f0))∧w'.cell? ⟨gb114,1,none⟩=some (.int .u64 ((aW l0 x11_1).f1))∧w'.cell? ⟨gb114,2,none⟩=some (.slice A113_2 ((aW l0 x11_1).f2).length c113_2)) (ds:=[]) #[false,false,false,false,false,false] (by kernel_rfl) rfl rfl ⟨(aj BK114.out 0).trans rfl,(aj BK114.out 1).trans rfl,(aj BK114.out 2).trans rfl⟩ (fun hHeld=>?_)
         generalize w12.drew=w13 at BK114 HB HR118 hHeld ⊢
         refine ph 0 16 (by kernel_rfl) rfl rfl ?_
         refine ph 1 17 (by kernel_rfl) rfl rfl ?_
         refine ph 2 18 (by kernel_rfl) rfl rfl ?_
         refine jk 3 19 (by kernel_rfl) hHeld (by rintro w' ⟨s0,s1,s2⟩;go_simp;with_reducible rfl) rfl rfl ?_
         refine jz (i:=4) (N:=some 20) #[true,true,true,true,true,false] rfl rfl (by kernel_rfl) (by decide) (fun K hK=>?_)
         refine gB Tryz.func123 (by kernel_rfl) rfl #[.slice (some ad113) y115.length c0, .agg #[.int .u64 ((aW l0 x11_1).f0), .int .u64 ((aW l0 x11_1).f1), .slice A113_2 ((aW l0 x11_1).f2).length c113_2]] (by rfl) rfl rfl za ?_
         with_reducible refine(bf.calls k1 _ _ y115 ((aW l0 x11_1).f0) ((aW l0 x11_1).f1) _ _ ((aW l0 x11_1).f2) true _ ?side1 ?side2 ?side3 ?side4 A8.out).mono ?_
         (case side1=>exact cw (Kd.bu HR118.out HB.out))
         (case side2=>exact HC118.out)
         (case side3=>exact cw (Kd.bu HR113_2.out HB.out))
         (case side4=>exact HC113_2.out)
         rintro e w15 ⟨rfl,hb⟩
         refine⟨_,rfl,?_⟩
         have n0_:=aa.mk (aU BK114.out hb)
         have n1_:=aa.mk (ah ak hb)
         clear BK114
         clear HB
         have BK114:=n0_
         have HB:=n1_
         clear n0_ n1_
         (try clear hb)
         (try clear hb2)
         (try clear hk)
         (try clear hi)
         refine hK.out _ _ ⟨(aj BK114.out 0).trans rfl,(aj BK114.out 1).trans rfl,(aj BK114.out 2).trans rfl⟩ (fun hHeld=>?_)
         clear hK K
         refine qK ?_
         refine ph 5 21 (by kernel_rfl) rfl rfl ?_
         refine gQ (by kernel_rfl) ?_
         try go_wp2
         go_roundg k1
         case measure=>have:=HK1.out;omega
         case rel=>exact⟨(wrap64 (x11_1+1)),a8,H',⟨by have:=HK1.out;omega⟩,⟨ak⟩⟩
        ·replace c9:=Bool.eq_false_iff.mpr c9
         subst c9
         have H1:=H;rw[if_neg (show¬(false=true) by decide)] at H1
         clear H
         have H:=H1
         clear H1
         simp only[Option.some.injEq,Prod.mk.injEq] at H
         obtain⟨rfl,rfl⟩:=H
         have p113:0≤(x11_1:Int):=of_decide_eq_true (by assumption)
         have q113:x11_1<(l0.length:Int):=of_decide_eq_true (by assumption)
         obtain⟨ad113,A113_2,c113_2,e113,hx113_0,hx113_1,hx113_2,hl113_2,hi113_2⟩:=lA HR0.out x11_1 p113 q113
         cases e113
         replace hx113_0:=dP HB.out hx113_0
         replace hx113_1:=dP HB.out hx113_1
         replace hx113_2:=dP HB.out hx113_2
         have HR113_2:=aa.mk hi113_2
         have HC113_2:=aa.mk hl113_2
         clear hi113_2 hl113_2
         replace p113:=eq_true p113
         replace q113:=eq_true q113
         try go_wp2_with (first|((with_reducible refine bk (N:=5) rfl ?_);refine jg 5 #[.int .u64 0, .int .u64 0, .slice none 0 0] 94 ?_;intro gb114 hg w16 hbox hb;have n0_:=aa.mk (ah ak hb);have n1_:=aa.mk (hbox);have n2_:=aa.mk ((by rw[hg];exact(ai ak):w.heap.size≤gb114));have n3_:=aa.mk ((by rw[hg];exact(ai ak):w.heap.size≤gb114));clear HB;have HB:=n0_;have BK114:=n1_;have GW114:=n2_;have GE114:=n3_;clear n0_ n1_ n2_ n3_;clear hb hbox hg;have hcz17_0:=bt BK114.out 0 rfl;have hcz17_1:=bt BK114.out 1 rfl;have hcz17_2:=bt BK114.out 2 rfl;have hfz17_0:=ab BK114.out 0;have hfz17_1:=ab BK114.out 1;have hfz17_2:=ab BK114.out 2))
         have n0_:aa ((((w16.setCell ⟨gb114,0,none⟩ (.int .u64 ((aW l0 x11_1).f0))).setCell ⟨gb114,1,none⟩ (.int .u64 ((aW l0 x11_1).f1))).setCell ⟨gb114,2,none⟩ (.slice A113_2 ((aW l0 x11_1).f2).length c113_2)).heap[gb114]?=some (.cells #[.int .u64 ((aW l0 x11_1).f0), .int .u64 ((aW l0 x11_1).f1), .slice A113_2 ((aW l0 x11_1).f2).length c113_2] 94 (0,0))):=⟨bC (bC (bC BK114.out 0 _ rfl) 1 _ rfl) 2 _ rfl⟩
         have n1_:aa (Below w.heap.size w (((w16.setCell ⟨gb114,0,none⟩ (.int .u64 ((aW l0 x11_1).f0))).setCell ⟨gb114,1,none⟩ (.int .u64 ((aW l0 x11_1).f1))).setCell ⟨gb114,2,none⟩ (.slice A113_2 ((aW l0 x11_1).f2).length c113_2))):=⟨ak⟩
         (try clear BK114)
         (try clear HB)
         generalize(((w16.setCell ⟨gb114,0,none⟩ (.int .u64 ((aW l0 x11_1).f0))).setCell ⟨gb114,1,none⟩ (.int .u64 ((aW l0 x11_1).f1))).setCell ⟨gb114,2,none⟩ (.slice A113_2 ((aW l0 x11_1).f2).length c113_2))=w18 at n0_ n1_ ⊢
         have BK114:=n0_
         have HB:=n1_
         clear n0_ n1_
         have n0_:=aa.mk (bG BK114.out)
         have n1_:=aa.mk (bs HB.out)
         clear BK114
         clear HB
         have BK114:=n0_
         have HB:=n1_
         clear n0_ n1_
         have q20:(x11_1:Int)≤((l0.length:Int):Int):=of_decide_eq_true (by assumption)
         obtain⟨i020,hi020,_,hsz20,_⟩:=info_parts ko
         have hroom20:l0.length≤c0:=HC0.out
         have hC20:Kd.C kt _ (some ad113) l0.length l0:=HR0.out
         have hcut20:=qR (P:=Tryz.prog) 81 94 .i64 Tryz.underlying81 hi020 (some ad113) l0.length c0 x11_1 (of_decide_eq_true (by assumption)) q20 hroom20
         have hr20:=Kd.rR (m:=(x11_1:Int).toNat) hC20 (by omega)
         have hy20:y115.length=(x11_1:Int).toNat:=(by rw[Ny115.out,List.length_take];omega)
         rw[←Ny115.out] at hr20
         rw[←hy20] at hcut20
         have HR118:=aa.mk hr20
         have HC118:=aa.mk (show y115.length≤c0 from by omega)
         clear hr20 hC20 hroom20 hi020 hsz20
         have KY20:=aa.mk hy20
         clear hy20
         replace q20:=eq_true q20
         refine fF (n:=6) (S:=fun w'=>w'.cell? ⟨gb114,0,none⟩=some (.int .u64 ((aW l0 x11_1).f0))∧w'.cell? ⟨gb114,1,none⟩=some (.int .u64 ((aW l0 x11_1).f1))∧w'.cell? ⟨gb114,2,none⟩=some (.slice A113_2 ((aW l0 x11_1).f2).length c113_2)) (ds:=[]) #[false,false,false,false,false,false] (by kernel_rfl) rfl rfl ⟨(aj BK114.out 0).trans rfl,(aj BK114.out 1).trans rfl,(aj BK114.out 2).trans rfl⟩ (fun hHeld=>?_)
         generalize w18.drew=w19 at BK114 HB HR118 hHeld ⊢
         refine ph 0 16 (by kernel_rfl) rfl rfl ?_
         refine ph 1 17 (by kernel_rfl) rfl rfl ?_
         refine ph 2 18 (by kernel_rfl) rfl rfl ?_
         refine jk 3 19 (by kernel_rfl) hHeld (by rintro w' ⟨s0,s1,s2⟩;go_simp;with_reducible rfl) rfl rfl ?_
         refine jz (i:=4) (N:=some 20) #[true,true,true,true,true,false] rfl rfl (by kernel_rfl) (by decide) (fun K hK=>?_)
         refine gB Tryz.func123 (by kernel_rfl) rfl #[.slice (some ad113) y115.length c0, .agg #[.int .u64 ((aW l0 x11_1).f0), .int .u64 ((aW l0 x11_1).f1), .slice A113_2 ((aW l0 x11_1).f2).length c113_2]] (by rfl) rfl rfl za ?_
         with_reducible refine(bf.calls k1 _ _ y115 ((aW l0 x11_1).f0) ((aW l0 x11_1).f1) _ _ ((aW l0 x11_1).f2) false _ ?side1 ?side2 ?side3 ?side4 A8.out).mono ?_
         (case side1=>exact cw (Kd.bu HR118.out HB.out))
         (case side2=>exact HC118.out)
         (case side3=>exact cw (Kd.bu HR113_2.out HB.out))
         (case side4=>exact HC113_2.out)
         rintro e w21 ⟨rfl,hb⟩
         refine⟨_,rfl,?_⟩
         have n0_:=aa.mk (aU BK114.out hb)
         have n1_:=aa.mk (ah ak hb)
         clear BK114
         clear HB
         have BK114:=n0_
         have HB:=n1_
         clear n0_ n1_
         (try clear hb)
         (try clear hb2)
         (try clear hk)
         (try clear hi)
         refine hK.out _ _ ⟨(aj BK114.out 0).trans rfl,(aj BK114.out 1).trans rfl,(aj BK114.out 2).trans rfl⟩ (fun hHeld=>?_)
         clear hK K
         refine qK ?_
         refine ph 5 21 (by kernel_rfl) rfl rfl ?_
         refine gQ (by kernel_rfl) ?_
         try go_wp2
         go_ret2
         exact⟨a8,ak⟩
       ·rw[if_neg c7] at H
        exact absurd H (by simp)
      ·rw[if_neg c5] at H
       exact absurd H (by simp)
     ·rw[if_neg c4] at H
      exact absurd H (by simp)
    ·rw[if_neg c3] at H
     have c3b0:=decide_eq_false c3
     clear c3
     simp only[Option.some.injEq,Prod.mk.injEq] at H
     obtain⟨rfl,rfl⟩:=H
     go_wp2
     go_ret2
     exact⟨a8,ak⟩
end Go.Proofs.YtndkmnjbjlfeaaaGreat.XT
end
section
namespace Go.Proofs.YtndkmnjbjlfeaaaGreat.XT
open Go.RowKit Go.Proofs.YtndkmnjbjlfeaaaGreat.Given Go.Proofs.YtndkmnjbjlfeaaaGreat.Given05 Go.Proofs.YtndkmnjbjlfeaaaGreat.XS Go.Proofs.YtndkmnjbjlfeaaaGreat.Given04 Go.Proofs.YtndkmnjbjlfeaaaGreat.Row05 Go.Proofs.YtndkmnjbjlfeaaaGreatW.PrintWords Go.Proofs.YtndkmnjbjlfeaaaGreatW.PrintLast Go.Proofs.YtndkmnjbjlfeaaaGreatW.PrintMore
attribute [local go_sem] bU bS ct cr bw bz bP bT
set_option linter.unusedVariables false
set_option linter.unusedSimpArgs false
def bF.l0:Nat→Int→List (dA)→Int→Int→Option (Int×Int×(List (bO))×Bool)
 |0,_,_,_,_=>none
 |k+1,x1,x18,x19,x20=>if x20<x19 then(if 0≤x20 then(if x20<(x18.length:Int) then(if((aW x18 x20).f0)=x1 then((fS.f ((aW x18 x20).f2)).bind fun t125=>(some ((aW x18 x20).f0,(aW x18 x20).f1,t125,true))) else(bF.l0 k x1 x18 x19 (wrap64 (x20+1)))) else(none)) else(none)) else(some (0,0,([]:List (bO)),false))
def bF.f(k:Nat)(l0:List (dA))(a1:Int):Option (Int×Int×(List (bO))×Bool):=(bD.f k l0).bind fun bt121=>(if bt121.2=0 then(bF.l0 k a1 l0 (l0.length:Int) 0) else(some (0,0,([]:List (bO)),false)))
def bF.T8:Bool×List (List Nat×List Nat):=(true,[([],[]),([0],[0]),([],[]),([2],[2]),([],[]),([4],[4]),([5],[5]),([1,3,6],[1,3,6]),([7,6,0,1,2,3,4,5,6,7],[7]),([8,0,1,2,3,4,5,6,7,8],[])])
def bF.B8:List Nat:=[0,1,0,4,0,16,48,127,255,511]
theorem bF.Bc:fX .any (opsOf Tryz.f94 8)=bF.T8:=by kernel_rfl
theorem bF.Ac:fC bF.T8.2 bF.B8=true:=by kernel_rfl
set_option maxHeartbeats 8000000 in
set_option maxRecDepth 100000 in
theorem bF.calls(k:Nat)(A0:Option Addr)(c0:Nat)(l0:List (dA))(a1:Int)(r1:Int)(r2:Int)(r3:List (bO))(r4:Bool)(w:World)(hr0:Kd.C kt w A0 l0.length l0)(hc0:l0.length≤c0)(h:bF.f k l0 a1=some (r1,r2,r3,r4)):
  Calls Tryz.prog 94 #[.slice A0 l0.length c0, .int .u64 a1] w fun e w'=> ∃v2_:Value,e= .returned (.tuple #[.agg #[.int .u64 r1, .int .u64 r2,v2_], .bool r4])∧Kd.R ei 147 w' w.heap.size (fun _=>True) v2_ r3∧Below w.heap.size w w':=by
 have hu94:=Tryz.underlying94
 have HR0:=aa.mk hr0
 have HC0:=aa.mk hc0
 clear hr0 hc0
 have HB:=aa.mk (Below.refl w.heap.size w)
 have H:=h;unfold bF.f at H
 clear h
 replace H:=Option.bind_eq_some_iff.mp H
 obtain⟨⟨t121,t122⟩,A30,H⟩:=H
 (try dsimp only at H)
 have A3:=aa.mk A30
 clear A30
 by_cases c4:t122=0
 ·rw[if_pos c4] at H
  have c4b0:=beq_iff_eq.mpr c4
  have c4b1:=bne_eq_false_iff_eq.mpr c4
  clear c4
  have H':=aa.mk H
  clear H
  go_enter Tryz.func94,Tryz.ntmps94
  go_wp2_with (first|((with_reducible refine bk (N:=4) rfl ?_);refine jg 4 #[.int .u64 0, .int .u64 0, .slice none 0 0] 94 ?_;intro gb120 hg w5 hbox hb;have n0_:=aa.mk (ah ak hb);have n1_:=aa.mk (hbox);have n2_:=aa.mk ((by rw[hg];exact(ai ak):w.heap.size≤gb120));have n3_:=aa.mk ((by rw[hg];exact(ai ak):w.heap.size≤gb120));clear HB;have HB:=n0_;have BK120:=n1_;have GW120:=n2_;have GE120:=n3_;clear n0_ n1_ n2_ n3_;clear hb hbox hg)|(refine fh 12 Tryz.func93 #[.slice A0 l0.length c0] rfl ?_;(with_reducible refine(bD.calls k _ _ l0 t121 t122 _ ?side1 ?side2 A3.out).mono ?_);(case side1=>exact cw (Kd.bu HR0.out HB.out));(case side2=>exact HC0.out);rintro e w6 ⟨rfl,hb⟩;refine⟨_,rfl,?_⟩;have n0_:=aa.mk (aU BK120.out hb);have n1_:=aa.mk (ah ak hb);clear BK120;clear HB;have BK120:=n0_;have HB:=n1_;clear n0_ n1_))
  go_loopg [20] k (fun kq v20 w'=> ∃(x20_1:Int) (x121000_1:Int) (x121001_1:Int),v20= .int .i64 x20_1∧aa (bF.l0 kq a1 l0 (l0.length:Int) x20_1=some (r1,r2,r3,r4))∧aa (kq≤k)∧aa (w'.heap[gb120]?=some (.cells #[.int .u64 x121000_1, .int .u64 x121001_1,(.slice none 0 0)] 94 (0,0)))∧aa (Below w.heap.size w w'))
  case atStart=>exact⟨(0),(0),(0),a8,H',⟨Nat.le_refl _⟩,⟨cP BK120.out⟩,⟨ak⟩⟩
  case round=>
   clear H'
   obtain⟨x20_1,x121000_1,x121001_1,rfl,HA,HK1,BK120,HB⟩:=hrel
   cases gk with
   |zero=>exact absurd HA.out (by simp[bF.l0])
   |succ k1=>
    have H:=HA.out
    clear HA
    simp only[bF.l0] at H
    by_cases c7:x20_1<(l0.length:Int)
    ·rw[if_pos c7] at H
     have c7b0:=decide_eq_true c7
     clear c7
     by_cases c8:0≤x20_1
     ·rw[if_pos c8] at H
      have c8b0:=decide_eq_true c8
      clear c8
      by_cases c9:x20_1<(l0.length:Int)
      ·rw[if_pos c9] at H
       have c9b0:=decide_eq_true c9
       clear c9
       by_cases ek:((aW l0 x20_1).f0)=a1
       ·rw[if_pos ek] at H
        have c10b0:=beq_iff_eq.mpr ek
        have c10b1:=bne_eq_false_iff_eq.mpr ek
        clear ek
        replace H:=Option.bind_eq_some_iff.mp H
        obtain⟨t125,A110,H⟩:=H
        (try dsimp only at H)
        have A11:=aa.mk A110
        clear A110
        simp only[Option.some.injEq,Prod.mk.injEq] at H
        obtain⟨rfl,rfl,rfl,rfl⟩:=H
        have p123:0≤(x20_1:Int):=of_decide_eq_true (by assumption)
        have q123:x20_1<(l0.length:Int):=of_decide_eq_true (by assumption)
        obtain⟨ad123,A123_2,c123_2,e123,hx123_0,hx123_1,hx123_2,hl123_2,hi123_2⟩:=lA HR0.out x20_1 p123 q123
        cases e123
        replace hx123_0:=dP HB.out hx123_0
        replace hx123_1:=dP HB.out hx123_1
        replace hx123_2:=dP HB.out hx123_2
        have HR123_2:=aa.mk hi123_2
        have HC123_2:=aa.mk hl123_2
        clear hi123_2 hl123_2
        replace p123:=eq_true p123
        replace q123:=eq_true q123
        try go_wp2_with (first|((with_reducible refine bk (N:=9) rfl ?_);refine jg 9 #[.int .u64 0, .int .u64 0, .slice none 0 0] 94 ?_;intro gb124 hg w12 hbox hb;have n0_:=aa.mk (aU BK120.out hb);have n1_:=aa.mk (ah ak hb);have n2_:=aa.mk (hbox);have n3_:=aa.mk ((by rw[hg];exact(ai ak):w.heap.size≤gb124));have n4_:=aa.mk ((by rw[hg];exact(ai ak):w.heap.size≤gb124));have n5_:=aa.mk ((by rw[hg];exact Nat.ne_of_lt (de BK120.out):gb120≠gb124));have n6_:=aa.mk ((by rw[hg];exact Nat.ne_of_gt (de BK120.out):gb124≠gb120));clear BK120;clear HB;have BK120:=n0_;have HB:=n1_;have BK124:=n2_;have GW124:=n3_;have GE124:=n4_;have NB120_124:=n5_;have NB124_120:=n6_;clear n0_ n1_ n2_ n3_ n4_ n5_ n6_;clear hb hbox hg;have hnb13:=NB124_120.out;have hnc13:=NB120_124.out;have hcz14_0:=bt BK124.out 0 rfl;have hcz14_1:=bt BK124.out 1 rfl;have hcz14_2:=bt BK124.out 2 rfl;have hfz14_0:=ab BK124.out 0;have hfz14_1:=ab BK124.out 1;have hfz14_2:=ab BK124.out 2))
        have n0_:aa ((((w12.setCell ⟨gb124,0,none⟩ (.int .u64 ((aW l0 x20_1).f0))).setCell ⟨gb124,1,none⟩ (.int .u64 ((aW l0 x20_1).f1))).setCell ⟨gb124,2,none⟩ (.slice A123_2 ((aW l0 x20_1).f2).length c123_2)).heap[gb120]?=some (.cells #[.int .u64 x121000_1, .int .u64 x121001_1, .slice none 0 0] 94 (0,0))):=⟨dx (dx (dx BK120.out NB120_124.out _) NB120_124.out _) NB120_124.out _⟩
        have n1_:aa ((((w12.setCell ⟨gb124,0,none⟩ (.int .u64 ((aW l0 x20_1).f0))).setCell ⟨gb124,1,none⟩ (.int .u64 ((aW l0 x20_1).f1))).setCell ⟨gb124,2,none⟩ (.slice A123_2 ((aW l0 x20_1).f2).length c123_2)).heap[gb124]?=some (.cells #[.int .u64 ((aW l0 x20_1).f0), .int .u64 ((aW l0 x20_1).f1), .slice A123_2 ((aW l0 x20_1).f2).length c123_2] 94 (0,0))):=⟨bC (bC (bC BK124.out 0 _ rfl) 1 _ rfl) 2 _ rfl⟩
        have n2_:aa (Below w.heap.size w (((w12.setCell ⟨gb124,0,none⟩ (.int .u64 ((aW l0 x20_1).f0))).setCell ⟨gb124,1,none⟩ (.int .u64 ((aW l0 x20_1).f1))).setCell ⟨gb124,2,none⟩ (.slice A123_2 ((aW l0 x20_1).f2).length c123_2))):=⟨ak⟩
        (try clear BK120)
        (try clear BK124)
        (try clear HB)
        generalize(((w12.setCell ⟨gb124,0,none⟩ (.int .u64 ((aW l0 x20_1).f0))).setCell ⟨gb124,1,none⟩ (.int .u64 ((aW l0 x20_1).f1))).setCell ⟨gb124,2,none⟩ (.slice A123_2 ((aW l0 x20_1).f2).length c123_2))=w15 at n0_ n1_ n2_ ⊢
        have BK120:=n0_
        have BK124:=n1_
        have HB:=n2_
        clear n0_ n1_ n2_
        have n0_:=aa.mk (bG BK120.out)
        have n1_:=aa.mk (bG BK124.out)
        have n2_:=aa.mk (bs HB.out)
        clear BK120
        clear BK124
        clear HB
        have BK120:=n0_
        have BK124:=n1_
        have HB:=n2_
        clear n0_ n1_ n2_
        refine fF (n:=10) (S:=fun w'=>w'.cell? ⟨gb124,0,none⟩=some (.int .u64 ((aW l0 x20_1).f0))∧w'.cell? ⟨gb124,1,none⟩=some (.int .u64 ((aW l0 x20_1).f1))∧w'.cell? ⟨gb124,2,none⟩=some (.slice A123_2 ((aW l0 x20_1).f2).length c123_2)) (ds:=[]) #[false,false,false,false,false,false,false,false,false,false] (by kernel_rfl) rfl rfl ⟨(aj BK124.out 0).trans rfl,(aj BK124.out 1).trans rfl,(aj BK124.out 2).trans rfl⟩ (fun hHeld=>?_);refine dV bF.Bc bF.Ac (fun HT_ HW_=>?_)
        generalize w15.drew=w16 at BK120 BK124 HB hHeld ⊢
        refine dd 0 28 HT_ rfl rfl ?_
        refine dd 2 30 HT_ rfl rfl ?_
        refine dd 4 32 HT_ rfl rfl ?_
        refine jk 1 29 (ch HT_.out HW_.out (by kernel_rfl)) hHeld (by rintro w' ⟨s0,s1,s2⟩;go_simp;with_reducible rfl) rfl rfl ?_
        refine jk 3 31 (ch HT_.out HW_.out (by kernel_rfl)) hHeld (by rintro w' ⟨s0,s1,s2⟩;go_simp;with_reducible rfl) rfl rfl ?_
        refine jk 5 33 (ch HT_.out HW_.out (by kernel_rfl)) hHeld (by rintro w' ⟨s0,s1,s2⟩;go_simp;with_reducible rfl) rfl rfl ?_
        refine jz (i:=6) (N:=some 34) #[true,true,true,true,true,true,true,false,false,false] rfl rfl (eT HT_.out (by kernel_rfl)) (by decide) (fun K hK=>?_)
        refine gB Tryz.func124 (by kernel_rfl) rfl #[.slice A123_2 ((aW l0 x20_1).f2).length c123_2] (by rfl) rfl rfl za ?_
        with_reducible refine(fS.calls _ _ ((aW l0 x20_1).f2) t125 _ ?side1 ?side2 A11.out).mono ?_
        (case side1=>exact cw (Kd.bu HR123_2.out HB.out))
        (case side2=>exact HC123_2.out)
        rintro e w17 ⟨v126,rfl,ho0,hb⟩
        refine⟨_,rfl,?_⟩
        have n0_:=aa.mk (Kd.bN ho0 (ai ak))
        have n1_:=aa.mk (aU BK120.out hb)
        have n2_:=aa.mk (aU BK124.out hb)
        have n3_:=aa.mk (ah ak hb)
        clear BK120
        clear BK124
        clear HB
        have HO127:=n0_
        have BK120:=n1_
        have BK124:=n2_
        have HB:=n3_
        clear n0_ n1_ n2_ n3_
        (try clear hb)
        (try clear hb2)
        (try clear hk)
        (try clear hi)
        (try clear ho0)
        obtain⟨Ao18,co18,eo18⟩:=Kd.cb HO127.out
        (first|subst eo18|(injection eo18 with f1_ f2_ f3_;have f4_:=f1_.symm;have f5_:=f3_.symm;clear f1_ f2_ f3_;subst f4_;subst f5_))
        refine hK.out _ _ ⟨(aj BK124.out 0).trans rfl,(aj BK124.out 1).trans rfl,(aj BK124.out 2).trans rfl⟩ (fun hHeld=>?_)
        clear hK K
        refine qK ?_
        refine dd 7 35 HT_ rfl rfl ?_
        refine jz (i:=8) (N:=none) #[true,true,true,true,true,true,true,true,true,false] rfl rfl (eT HT_.out (by kernel_rfl)) (by decide) (fun K hK=>?_)
        have hs19:w17.cell? ⟨gb120,0,none⟩=some (.int .u64 x121000_1):=(aj BK120.out 0).trans rfl
        have hfs19:=ab BK120.out 0
        have hns19_1:=NB124_120.out
        have hms19_1:=NB120_124.out
        have hs20:w17.cell? ⟨gb120,1,none⟩=some (.int .u64 x121001_1):=(aj BK120.out 1).trans rfl
        have hfs20:=ab BK120.out 1
        have hns20_1:=NB124_120.out
        have hms20_1:=NB120_124.out
        have hs21:w17.cell? ⟨gb120,2,none⟩=some (.slice none 0 0):=(aj BK120.out 2).trans rfl
        have hfs21:=ab BK120.out 2
        have hns21_1:=NB124_120.out
        have hms21_1:=NB120_124.out
        refine qD (w1:=?_) (by rfl) rfl ?_ ?_
        rotate_left
        ·go_simp
         rfl
        refine hK.out _ _ ⟨((cell_far (p:=⟨gb120,_,none⟩) NB124_120.out _).trans (((cell_far (p:=⟨gb120,_,none⟩) NB124_120.out _).trans (((cell_far (p:=⟨gb120,_,none⟩) NB124_120.out _).trans (hHeld.1)))))),((cell_far (p:=⟨gb120,_,none⟩) NB124_120.out _).trans (((cell_far (p:=⟨gb120,_,none⟩) NB124_120.out _).trans (((cell_far (p:=⟨gb120,_,none⟩) NB124_120.out _).trans (hHeld.2.1)))))),((cell_far (p:=⟨gb120,_,none⟩) NB124_120.out _).trans (((cell_far (p:=⟨gb120,_,none⟩) NB124_120.out _).trans (((cell_far (p:=⟨gb120,_,none⟩) NB124_120.out _).trans (hHeld.2.2))))))⟩ (fun hHeld=>?_)
        clear hK K
        refine dd 9 5 HT_ rfl rfl ?_
        refine gQ (fA HT_.out (by kernel_rfl)) ?_
        try go_wp2
        refine bodyPost_ret (kk rfl _ _ gb120 94 #[.int .u64 ((aW l0 x20_1).f0), .int .u64 ((aW l0 x20_1).f1), .slice Ao18 t125.length co18] (0,0) _ rfl (by(with_reducible repeat(first|refine cB ?_ _|refine bG ?_|refine cC ?_ _));refine bC (cs:= #[.int .u64 ((aW l0 x20_1).f0), .int .u64 ((aW l0 x20_1).f1), .slice none 0 0]) ?_ 2 _ rfl;(with_reducible repeat(first|refine cB ?_ _|refine bG ?_|refine cC ?_ _));refine bC (cs:= #[.int .u64 ((aW l0 x20_1).f0), .int .u64 x121001_1, .slice none 0 0]) ?_ 1 _ rfl;(with_reducible repeat(first|refine cB ?_ _|refine bG ?_|refine cC ?_ _));refine bC (cs:= #[.int .u64 x121000_1, .int .u64 x121001_1, .slice none 0 0]) ?_ 0 _ rfl;(with_reducible repeat(first|refine cB ?_ _|refine bG ?_|refine cC ?_ _));exact BK120.out) Tryz.underlying94 rfl (by kernel_rfl)) rfl ?_
        exact⟨_,a8,by(with_reducible repeat(first|apply Kd.bI|apply Kd.bL|apply Kd.bM));exact Kd.bE (Kd.mT (p:=⟨gb120,2,none⟩) (Kd.mT (p:=⟨gb120,1,none⟩) (Kd.mT (p:=⟨gb120,0,none⟩) (Kd.oS HO127.out BK120.out (by decide)) (fun _ hk=>hk.2) (.int .u64 ((aW l0 x20_1).f0))) (fun _ hk=>hk.2) (.int .u64 ((aW l0 x20_1).f1))) (fun _ hk=>hk.2) (.slice Ao18 t125.length co18)) (fun _ hk=>trivial),ak⟩
       ·rw[if_neg ek] at H
        have c10b0:=beq_eq_false_iff_ne.mpr ek
        have c10b1:=bne_iff_ne.mpr ek
        have H':=aa.mk H
        clear H
        have p123:0≤(x20_1:Int):=of_decide_eq_true (by assumption)
        have q123:x20_1<(l0.length:Int):=of_decide_eq_true (by assumption)
        obtain⟨ad123,A123_2,c123_2,e123,hx123_0,hx123_1,hx123_2,hl123_2,hi123_2⟩:=lA HR0.out x20_1 p123 q123
        cases e123
        replace hx123_0:=dP HB.out hx123_0
        replace hx123_1:=dP HB.out hx123_1
        replace hx123_2:=dP HB.out hx123_2
        have HR123_2:=aa.mk hi123_2
        have HC123_2:=aa.mk hl123_2
        clear hi123_2 hl123_2
        replace p123:=eq_true p123
        replace q123:=eq_true q123
        go_wp2_with (first|((with_reducible refine bk (N:=9) rfl ?_);refine jg 9 #[.int .u64 0, .int .u64 0, .slice none 0 0] 94 ?_;intro gb124 hg w22 hbox hb;have n0_:=aa.mk (aU BK120.out hb);have n1_:=aa.mk (ah ak hb);have n2_:=aa.mk (hbox);have n3_:=aa.mk ((by rw[hg];exact(ai ak):w.heap.size≤gb124));have n4_:=aa.mk ((by rw[hg];exact(ai ak):w.heap.size≤gb124));have n5_:=aa.mk ((by rw[hg];exact Nat.ne_of_lt (de BK120.out):gb120≠gb124));have n6_:=aa.mk ((by rw[hg];exact Nat.ne_of_gt (de BK120.out):gb124≠gb120));clear BK120;clear HB;have BK120:=n0_;have HB:=n1_;have BK124:=n2_;have GW124:=n3_;have GE124:=n4_;have NB120_124:=n5_;have NB124_120:=n6_;clear n0_ n1_ n2_ n3_ n4_ n5_ n6_;clear hb hbox hg;have hnb23:=NB124_120.out;have hnc23:=NB120_124.out;have hcz24_0:=bt BK124.out 0 rfl;have hcz24_1:=bt BK124.out 1 rfl;have hcz24_2:=bt BK124.out 2 rfl;have hfz24_0:=ab BK124.out 0;have hfz24_1:=ab BK124.out 1;have hfz24_2:=ab BK124.out 2))
        go_roundg k1
        case measure=>have:=HK1.out;omega
        case rel=>exact⟨(wrap64 (x20_1+1)),(x121000_1),(x121001_1),a8,H',⟨by have:=HK1.out;omega⟩,⟨dx (dx (dx BK120.out NB120_124.out _) NB120_124.out _) NB120_124.out _⟩,⟨ak⟩⟩
      ·rw[if_neg c9] at H
       exact absurd H (by simp)
     ·rw[if_neg c8] at H
      exact absurd H (by simp)
    ·rw[if_neg c7] at H
     have c7b0:=decide_eq_false c7
     clear c7
     simp only[Option.some.injEq,Prod.mk.injEq] at H
     obtain⟨rfl,rfl,rfl,rfl⟩:=H
     have hcz25_0:=bt BK120.out 0 rfl
     have hcz25_1:=bt BK120.out 1 rfl
     have hcz25_2:=bt BK120.out 2 rfl
     have hfz25_0:=ab BK120.out 0
     have hfz25_1:=ab BK120.out 1
     have hfz25_2:=ab BK120.out 2
     go_wp2
     refine bodyPost_ret (kk rfl _ _ gb120 94 #[.int .u64 0, .int .u64 0, .slice none 0 0] (0,0) _ rfl (by(with_reducible repeat(first|refine cB ?_ _|refine bG ?_|refine cC ?_ _));refine bC (cs:= #[.int .u64 0, .int .u64 0, .slice none 0 0]) ?_ 2 _ rfl;(with_reducible repeat(first|refine cB ?_ _|refine bG ?_|refine cC ?_ _));refine bC (cs:= #[.int .u64 0, .int .u64 x121001_1, .slice none 0 0]) ?_ 1 _ rfl;(with_reducible repeat(first|refine cB ?_ _|refine bG ?_|refine cC ?_ _));refine bC (cs:= #[.int .u64 x121000_1, .int .u64 x121001_1, .slice none 0 0]) ?_ 0 _ rfl;(with_reducible repeat(first|refine cB ?_ _|refine bG ?_|refine cC ?_ _));exact BK120.out) Tryz.underlying94 rfl (by kernel_rfl)) rfl ?_
     exact⟨_,a8,tO,ak⟩
 ·rw[if_neg c4] at H
  have c4b0:=beq_eq_false_iff_ne.mpr c4
  have c4b1:=bne_iff_ne.mpr c4
  simp only[Option.some.injEq,Prod.mk.injEq] at H
  obtain⟨rfl,rfl,rfl,rfl⟩:=H
  go_enter Tryz.func94,Tryz.ntmps94
  go_wp2_with (first|((with_reducible refine bk (N:=4) rfl ?_);refine jg 4 #[.int .u64 0, .int .u64 0, .slice none 0 0] 94 ?_;intro gb120 hg w26 hbox hb;have n0_:=aa.mk (ah ak hb);have n1_:=aa.mk (hbox);have n2_:=aa.mk ((by rw[hg];exact(ai ak):w.heap.size≤gb120));have n3_:=aa.mk ((by rw[hg];exact(ai ak):w.heap.size≤gb120));clear HB;have HB:=n0_;have BK120:=n1_;have GW120:=n2_;have GE120:=n3_;clear n0_ n1_ n2_ n3_;clear hb hbox hg)|(refine fh 12 Tryz.func93 #[.slice A0 l0.length c0] rfl ?_;(with_reducible refine(bD.calls k _ _ l0 t121 t122 _ ?side1 ?side2 A3.out).mono ?_);(case side1=>exact cw (Kd.bu HR0.out HB.out));(case side2=>exact HC0.out);rintro e w27 ⟨rfl,hb⟩;refine⟨_,rfl,?_⟩;have n0_:=aa.mk (aU BK120.out hb);have n1_:=aa.mk (ah ak hb);clear BK120;clear HB;have BK120:=n0_;have HB:=n1_;clear n0_ n1_;have hcz28_0:=bt BK120.out 0 rfl;have hcz28_1:=bt BK120.out 1 rfl;have hcz28_2:=bt BK120.out 2 rfl;have hfz28_0:=ab BK120.out 0;have hfz28_1:=ab BK120.out 1;have hfz28_2:=ab BK120.out 2))
  refine bodyPost_ret (kk rfl _ _ gb120 94 #[.int .u64 0, .int .u64 0, .slice none 0 0] (0,0) _ rfl (by(with_reducible repeat(first|refine cB ?_ _|refine bG ?_|refine cC ?_ _));refine bC (cs:= #[.int .u64 0, .int .u64 0, .slice none 0 0]) ?_ 2 _ rfl;(with_reducible repeat(first|refine cB ?_ _|refine bG ?_|refine cC ?_ _));refine bC (cs:= #[.int .u64 0, .int .u64 0, .slice none 0 0]) ?_ 1 _ rfl;(with_reducible repeat(first|refine cB ?_ _|refine bG ?_|refine cC ?_ _));refine bC (cs:= #[.int .u64 0, .int .u64 0, .slice none 0 0]) ?_ 0 _ rfl;(with_reducible repeat(first|refine cB ?_ _|refine bG ?_|refine cC ?_ _));exact BK120.out) Tryz.underlying94 rfl (by kernel_rfl)) rfl ?_
  exact⟨_,a8,tO,ak⟩
end Go.Proofs.YtndkmnjbjlfeaaaGreat.XT
end
section

end
section
namespace Go.Proofs.YtndkmnjbjlfeaaaGreat.F06
open Go Go.RowKit Go.Proofs.YtndkmnjbjlfeaaaGreatW.PrintWords Go.Proofs.YtndkmnjbjlfeaaaGreatW.PrintLast Go.Proofs.YtndkmnjbjlfeaaaGreatW.PrintMore Go.Proofs.YtndkmnjbjlfeaaaGreat.Given Go.Proofs.YtndkmnjbjlfeaaaGreat.M Go.Proofs.YtndkmnjbjlfeaaaGreat.Mont Go.Proofs.YtndkmnjbjlfeaaaGreat.XS Go.Proofs.YtndkmnjbjlfeaaaGreat.XT Go.Proofs.YtndkmnjbjlfeaaaGreat.Given04
instance (x:Int):Decidable (cy x):=by unfold cy;infer_instance
theorem pT{α:Type}{R:α→List Value→Prop}{size:Nat}{p:α}{c:List Value}(h:R p c)(hl:c.length=size):cI R size [p] c:=by
 have:=(cI.none R size).snoc h hl
 simpa using this
theorem xc{w:World}{base g gc:Nat}{t:Int}{v:Value}{ok:Nat→Prop}{F:cn}(hk:ok g)(hb:base≤g)
  (hh:w.heap[g]?=some (.cells #[.pointer (some ⟨gc,0,none⟩), .int .u64 F.p, .int .u64 F.g,v] 97 (0,0)))
  (h1:ok gc) (hne:gc≠g) (h2:base≤gc) (hc:fQ w gc F.p t) (hm:cy F.p) (ht:U t) (hd:(18446744073709551616:Int)∣F.p*t+1) (hg:U F.g)
  (hr:Kd.R ei 147 w base (fun k=>ok k∧k≠g) v F.l):
  Kd.R fB 97 w base ok (.slice (some ⟨g,0,none⟩) 1 1) [F]:=by
 refine⟨fun k e=>by simp[Value.ownBlock] at e;subst e;exact hk,_,⟨rfl, .inr ⟨g,1,_,rfl,hb,hh,Nat.le_refl _,by decide,rfl,rfl⟩⟩,?_⟩
 refine pT (size:=4) ?_ rfl
 refine⟨gc,t,v,rfl,⟨h1,by simp[Value.ownBlock];exact hne⟩,h2,hc,hm,ht,hd,hg,Kd.bE hr (fun k hk=>⟨hk.1,by simp[Value.ownBlock];exact hk.2⟩)⟩
def ew.f(k:Nat)(l0:List dA)(a1:Int):Option (List cn×Int):=
 (bD.f k l0).bind fun c=>if c.2=0 then((bF.f k l0 a1).bind fun q=>if q.2.2.2=true then(if q.1=a1∧cy a1∧U q.2.1 then some ([⟨q.1,q.2.1,q.2.2.1⟩],0) else none) else some ([],14)) else some ([],c.2)
section
variable {k:Nat} {A0:Option Addr} {c0:Nat} {l0:List dA} {a1:Int} {w:World}
theorem qf(hr0:Kd.C kt w A0 l0.length l0)(hc0:l0.length≤c0){c1 c2:Int}(h1:bD.f k l0=some (c1,c2))(hn: ¬c2=0):
  Calls Tryz.prog 51 #[.slice A0 l0.length c0, .int .u64 a1] w fun e w'=>e= .returned (.tuple #[.pointer none, .int .i64 c2])∧Below w.heap.size w w':=by
 have HR:=aa.mk hr0
 have HC:=aa.mk hc0
 have H1:=aa.mk h1
 have b1:(c2 !=0)=true:=bne_iff_ne.mpr hn
 clear hr0 hc0 h1 hn
 go_enter Tryz.func51,Tryz.ntmps51
 go_wp2_with (go_at_call 93;(with_reducible refine(bD.calls k A0 c0 l0 c1 c2 _ HR.out HC.out H1.out).mono ?_);rintro e w1 ⟨rfl,hb⟩;have HB1:=aa.mk hb;clear hb)
 go_ret2
 exact⟨by first|rfl|(simp;done),HB1.out⟩
theorem nS(hr0:Kd.C kt w A0 l0.length l0)(hc0:l0.length≤c0){c1 P G:Int}{Fs:List bO}(h1:bD.f k l0=some (c1,0))(h2:bF.f k l0 a1=some (P,G,Fs,false)):
  Calls Tryz.prog 51 #[.slice A0 l0.length c0, .int .u64 a1] w fun e w'=>e= .returned (.tuple #[.pointer none, .int .i64 14])∧Below w.heap.size w w':=by
 have HR:=aa.mk hr0
 have HC:=aa.mk hc0
 have H1:=aa.mk h1
 have H2:=aa.mk h2
 clear hr0 hc0 h1 h2
 go_enter Tryz.func51,Tryz.ntmps51
 go_wp2_with (first
  |(go_at_call 93;(with_reducible refine(bD.calls k A0 c0 l0 c1 0 _ HR.out HC.out H1.out).mono ?_);rintro e w1 ⟨rfl,hb⟩;have HB1:=aa.mk hb;clear hb)
  |(go_at_call 94;(with_reducible refine(bF.calls k A0 c0 l0 a1 P G Fs false _ (Kd.bu HR.out HB1.out) HC.out H2.out).mono ?_);rintro e w2 ⟨v2,rfl,ho,hb⟩;obtain⟨A2,c2,rfl⟩:=Kd.cb ho;have HO2:=aa.mk ho;(have HB2:aa (Below w.heap.size w w2):=⟨ah HB1.out hb⟩);clear hb ho)
  )
 go_ret2
 exact⟨by first|rfl|(simp;done),by repeat(first|exact HB2.out|apply aQ|apply ay)⟩
set_option maxHeartbeats 2000000 in
theorem wj(hr0:Kd.C kt w A0 l0.length l0)(hc0:l0.length≤c0){c1 G:Int}{Fs:List bO}(h1:bD.f k l0=some (c1,0))(h2:bF.f k l0 a1=some (a1,G,Fs,true))(hm:cy a1)(hg:U G):
  Calls Tryz.prog 51 #[.slice A0 l0.length c0, .int .u64 a1] w fun e w'=> ∃g:Nat,e= .returned (.tuple #[.pointer (some ⟨g,0,none⟩), .int .i64 0])∧Kd.R fB 97 w' w.heap.size (fun _=>True) (.slice (some ⟨g,0,none⟩) 1 1) [⟨a1,G,Fs⟩]∧Below w.heap.size w w':=by
 have HR:=aa.mk hr0
 have HC:=aa.mk hc0
 have H1:=aa.mk h1
 have H2:=aa.mk h2
 have HM:=aa.mk hm
 have HG:=aa.mk hg
 clear hr0 hc0 h1 h2 hm hg
 go_enter Tryz.func51,Tryz.ntmps51
 go_wp2_with (first
  |(go_at_call 93;(with_reducible refine(bD.calls k A0 c0 l0 c1 0 _ HR.out HC.out H1.out).mono ?_);rintro e w1 ⟨rfl,hb⟩;have HB1:=aa.mk hb;clear hb)
  |(go_at_call 94;(with_reducible refine(bF.calls k A0 c0 l0 a1 a1 G Fs true _ (Kd.bu HR.out HB1.out) HC.out H2.out).mono ?_);rintro e w2 ⟨v2,rfl,ho,hb⟩;obtain⟨A2,c2,rfl⟩:=Kd.cb ho;(have HO2:aa (Kd.R ei 147 w2 w.heap.size (fun _=>True) (.slice A2 Fs.length c2) Fs):=⟨Kd.bN ho HB1.out.size⟩);(have HB2:aa (Below w.heap.size w w2):=⟨ah HB1.out hb⟩);clear hb ho)
  |(go_at_call 95;(with_reducible refine(oo HM.out).mono ?_);rintro e w13 ⟨gc,t,rfl,hgc,hblk,ht,hd,hb⟩;have HGC:=aa.mk hgc;have HBLK:=aa.mk hblk;have HT:=aa.mk ht;have HD:=aa.mk hd;have HB13:=aa.mk hb;(have BK13:aa (w13.heap[w2.heap.size]?=some (.cells #[.int .u64 a1, .int .u64 G, .slice A2 Fs.length c2] 94 (0,0))):=⟨aU (gR w2 _) hb⟩);(have y0:w13.cell? ⟨w2.heap.size,0,none⟩=some (.int .u64 a1):=(aj BK13.out 0).trans rfl);(have y1:w13.cell? ⟨w2.heap.size,1,none⟩=some (.int .u64 G):=(aj BK13.out 1).trans rfl);(have y2:w13.cell? ⟨w2.heap.size,2,none⟩=some (.slice A2 Fs.length c2):=(aj BK13.out 2).trans rfl);clear hgc hblk ht hd hb))
 go_ret2
 have hs1:w.heap.size≤w2.heap.size:=HB2.out.size
 have hs3:(w2.alloc (.cells #[.int .u64 a1, .int .u64 G, .slice A2 Fs.length c2] 94 (0,0))).heap.size≤w13.heap.size:=HB13.out.size
 have hs2:(w2.alloc (.cells #[.int .u64 a1, .int .u64 G, .slice A2 Fs.length c2] 94 (0,0))).heap.size=w2.heap.size+1:=Array.size_push _
 have hgc:gc<w13.heap.size:=de HBLK.out
 have hge:=HGC.out
 have hB:Below w.heap.size w w13:=ah (aQ HB2.out _) HB13.out
 refine⟨w13.heap.size,by first|rfl|(simp;done),?_,aQ hB _⟩
 refine xc (F:=⟨a1,G,Fs⟩) (gc:=gc) (t:=t) (v:= .slice A2 Fs.length c2) trivial (by omega) (gR _ _) trivial (by omega) (by omega) (aU HBLK.out (aQ (Below.refl _ _) _)) HM.out HT.out HD.out HG.out ?_
 have h1:=Kd.dp (Kd.bI HO2.out _) HB13.out
 exact Kd.bI (Kd.bE (Kd.eB h1) (fun k hk=>⟨trivial,by have:=hk.2.2.1;omega⟩)) _
end
theorem ew.calls(k:Nat)(A0:Option Addr)(c0:Nat)(l0:List dA)(a1:Int)(r1:List cn)(r2:Int)(w:World)(hr0:Kd.C kt w A0 l0.length l0)(hc0:l0.length≤c0)(h:ew.f k l0 a1=some (r1,r2)):
  Calls Tryz.prog 51 #[.slice A0 l0.length c0, .int .u64 a1] w fun e w'=> ∃v0_:Value,e= .returned (.tuple #[bh v0_, .int .i64 r2])∧Kd.R fB 97 w' w.heap.size (fun _=>True) v0_ r1∧Below w.heap.size w w':=by
 unfold ew.f at h
 obtain⟨⟨c1,c2⟩,h1,h⟩:=Option.bind_eq_some_iff.1 h
 simp only at h
 split at h
 case isFalse hn=>
  obtain⟨rfl,rfl⟩:=Prod.mk.inj (Option.some.inj h)
  refine(qf hr0 hc0 h1 hn).mono ?_
  rintro e w' ⟨rfl,hb⟩
  exact⟨.slice none 0 0,rfl,Kd.fW _ _ _ _ _,hb⟩
 case isTrue hz=>
  subst hz
  obtain⟨⟨P,G,Fs,b⟩,h2,h⟩:=Option.bind_eq_some_iff.1 h
  simp only at h
  cases b with
  |false=>
   rw[if_neg Bool.false_ne_true] at h
   obtain⟨rfl,rfl⟩:=Prod.mk.inj (Option.some.inj h)
   refine(nS hr0 hc0 h1 h2).mono ?_
   rintro e w' ⟨rfl,hb⟩
   exact⟨.slice none 0 0,rfl,Kd.fW _ _ _ _ _,hb⟩
  |true=>
   rw[if_pos rfl] at h
   split at h
   case isFalse=>cases h
   rename_i hg
   obtain⟨rfl,rfl⟩:=Prod.mk.inj (Option.some.inj h)
   obtain⟨rfl,hm,hu⟩:=hg
   refine(wj hr0 hc0 h1 h2 hm hu).mono ?_
   rintro e w' ⟨g,rfl,ho,hb⟩
   exact⟨_,rfl,ho,hb⟩
end Go.Proofs.YtndkmnjbjlfeaaaGreat.F06
end
section
namespace Go.Proofs.YtndkmnjbjlfeaaaGreat.F06
open Go Go.RowKit Go.Proofs.YtndkmnjbjlfeaaaGreatW.PrintWords Go.Proofs.YtndkmnjbjlfeaaaGreatW.PrintLast Go.Proofs.YtndkmnjbjlfeaaaGreatW.PrintMore Go.Proofs.YtndkmnjbjlfeaaaGreat.Given Go.Proofs.YtndkmnjbjlfeaaaGreat.M Go.Proofs.YtndkmnjbjlfeaaaGreat.XS Go.Proofs.YtndkmnjbjlfeaaaGreat.XT Go.Proofs.YtndkmnjbjlfeaaaGreat.XR
def jo(i:Int):Int×Int×Int:=
 if i=0 then(4179340454199820289,3,0) else if i=1 then(1945555039024054273,5,0) else if i=2 then(180143985094819841,6,0) else if i=3 then(754974721,11,0) else if i=4 then(469762049,3,0) else(167772161,3,0)
def aq.f(k:Nat)(a0_0:Int)(a0_1:Int)(a0_2:Int)(l0_3:List dq):Option (Int×Int×Int):=
 if a0_0=1∧0≤a0_1∧a0_1≤5 then some (jo a0_1) else XO.aq.f k a0_0 a0_1 a0_2 l0_3
def qL(i:Int):Prop:= ∀(a:Int) (A:Option Addr) (n c:Nat) (w:World),Calls Tryz.prog 49 #[.agg #[.int .i64 1, .int .i64 i, .int .u64 a, .slice A n c]] w fun e w'=>e= .returned (.tuple #[.int .u64 (jo i).1, .int .u64 (jo i).2.1, .int .i64 (jo i).2.2])∧Below w.heap.size w w'
set_option maxHeartbeats 2000000 in
theorem AS:qL 0:=by
 intro a A n c w
 go_enter Tryz.func49,Tryz.ntmps49
 go_wp2
 go_quiet (fail)
 go_wp2
 go_ret3
 exact⟨by first|rfl|(simp;done),by repeat(first|exact Below.refl _ _|apply aQ|apply ay)⟩
set_option maxHeartbeats 2000000 in
theorem AJ:qL 1:=by
 intro a A n c w
 go_enter Tryz.func49,Tryz.ntmps49
 go_wp2
 go_quiet (fail)
 go_wp2
 go_ret3
 exact⟨by first|rfl|(simp;done),by repeat(first|exact Below.refl _ _|apply aQ|apply ay)⟩
set_option maxHeartbeats 2000000 in
theorem AL:qL 2:=by
 intro a A n c w
 go_enter Tryz.func49,Tryz.ntmps49
 go_wp2
 go_quiet (fail)
 go_wp2
 go_ret3
 exact⟨by first|rfl|(simp;done),by repeat(first|exact Below.refl _ _|apply aQ|apply ay)⟩
set_option maxHeartbeats 2000000 in
theorem AX:qL 3:=by
 intro a A n c w
 go_enter Tryz.func49,Tryz.ntmps49
 go_wp2
 go_quiet (fail)
 go_wp2
 go_ret3
 exact⟨by first|rfl|(simp;done),by repeat(first|exact Below.refl _ _|apply aQ|apply ay)⟩
set_option maxHeartbeats 2000000 in
theorem AK:qL 4:=by
 intro a A n c w
 go_enter Tryz.func49,Tryz.ntmps49
 go_wp2
 go_quiet (fail)
 go_wp2
 go_ret3
 exact⟨by first|rfl|(simp;done),by repeat(first|exact Below.refl _ _|apply aQ|apply ay)⟩
set_option maxHeartbeats 2000000 in
theorem AY:qL 5:=by
 intro a A n c w
 go_enter Tryz.func49,Tryz.ntmps49
 go_wp2
 go_quiet (fail)
 go_wp2
 go_ret3
 exact⟨by first|rfl|(simp;done),by repeat(first|exact Below.refl _ _|apply aQ|apply ay)⟩
theorem aq.calls(k:Nat)(a0_0:Int)(a0_1:Int)(a0_2:Int)(A0_3:Option Addr)(c0_3:Nat)(l0_3:List dq)(r1:Int)(r2:Int)(r3:Int)(w:World)(hr0_3:Kd.C ku w A0_3 l0_3.length l0_3)(hc0_3:l0_3.length≤c0_3)(h:aq.f k a0_0 a0_1 a0_2 l0_3=some (r1,r2,r3)):
  Calls Tryz.prog 49 #[.agg #[.int .i64 a0_0, .int .i64 a0_1, .int .u64 a0_2, .slice A0_3 l0_3.length c0_3]] w fun e w'=>e= .returned (.tuple #[.int .u64 r1, .int .u64 r2, .int .i64 r3])∧Below w.heap.size w w':=by
 unfold aq.f at h
 split at h
 case isFalse=>exact XO.aq.calls k a0_0 a0_1 a0_2 A0_3 c0_3 l0_3 r1 r2 r3 w hr0_3 hc0_3 h
 rename_i hk
 obtain⟨rfl,h0,h5⟩:=hk
 have hO:qL a0_1:=by
  rcases(show a0_1=0∨a0_1=1∨a0_1=2∨a0_1=3∨a0_1=4∨a0_1=5 by omega) with rfl|rfl|rfl|rfl|rfl|rfl
  ·exact AS
  ·exact AJ
  ·exact AL
  ·exact AX
  ·exact AK
  ·exact AY
 have:=hO a0_2 A0_3 l0_3.length c0_3 w
 rwa[Option.some.inj h] at this
end Go.Proofs.YtndkmnjbjlfeaaaGreat.F06
end
section
namespace Go.Proofs.YtndkmnjbjlfeaaaGreat.Row05
open Go Go.RowKit Go.Proofs.YtndkmnjbjlfeaaaGreatW.PrintWords Go.Proofs.YtndkmnjbjlfeaaaGreatW.PrintLast Go.Proofs.YtndkmnjbjlfeaaaGreatW.PrintMore Go.Proofs.YtndkmnjbjlfeaaaGreat.Given Go.Proofs.YtndkmnjbjlfeaaaGreat.M Go.Proofs.YtndkmnjbjlfeaaaGreat.XS Go.Proofs.YtndkmnjbjlfeaaaGreat.XT Go.Proofs.YtndkmnjbjlfeaaaGreat.Given05 Go.Proofs.YtndkmnjbjlfeaaaGreat.Num Go.Proofs.YtndkmnjbjlfeaaaGreat.Count05
def iA(p:Nat):Prop:=3≤p∧p≤65536∧cK p
theorem iA.int{p:Nat}(h:iA p):kM (p:Int):=⟨by have:=h.1;omega,by have:=h.2.1;omega,h.2.2⟩
theorem iA.of{p:Nat}(h:kM (p:Int)):iA p:=⟨by have:=h.1;omega,by have:=h.2.1;omega,h.2.2⟩
theorem iA.odd{p:Nat}(h:iA p):p%2=1:=by
 refine Classical.byContradiction fun c=>?_
 rcases h.2.2.2 2 (Nat.dvd_of_mod_eq_zero (by omega)) with e|e
 ·omega
 ·have:=h.1;omega
open Classical in
noncomputable def gen(p:Nat):Nat:=if h: ∃r,ov p r then h.choose else 0
open Classical in
noncomputable def fL(p:Nat):List (Nat×Nat):=if h: ∃l,nk 2 (p-1) l∧Ev (fun k=>av.f k ((p-1:Nat):Int)) (n5 l)∧True then h.choose else []
theorem gV{p:Nat}(h:iA p):ov p (gen p):=by
 have e:=XS.exists_least h.2.2 h.1
 unfold gen
 rw[dif_pos e]
 exact e.choose_spec
theorem ja{p:Nat}(h:iA p):nk 2 (p-1) (fL p)∧Ev (fun k=>av.f k ((p-1:Nat):Int)) (n5 (fL p))∧True:=by
 have e:=jG (p-1) (by have:=h.1;omega) (by have:=h.2.1;omega)
 unfold fL
 rw[dif_pos e]
 exact e.choose_spec
noncomputable def eJ(p:Nat):dA:=⟨(p:Int),(gen p:Int),n5 (fL p)⟩
structure Good (ps:List Nat) (n:Nat):Prop where
 odd: ∀q∈ps,iA q
 nodup:ps.Nodup
 closed: ∀q∈ps.drop n,∀x∈fL q,x.1=2∨x.1∈ps
theorem vD(ps:List Nat)(p:Nat):(ps.map eJ).any (fun e=>e.f0==(p:Int))=decide (p∈ps):=by
 rw[Bool.eq_iff_iff,List.any_eq_true,decide_eq_true_eq]
 constructor
 ·rintro⟨e,he,h⟩
  obtain⟨q,hq,rfl⟩:=List.mem_map.1 he
  have h:((q:Int)==(p:Int))=true:=h
  rw[beq_iff_eq] at h
  rw[show p=q by omega];exact hq
 ·intro h
  exact⟨eJ p,List.mem_map_of_mem h,by show((p:Int)==(p:Int))=true;exact beq_self_eq_true _⟩
theorem rP{all:List dA}:Ev (fun k=>eS k all 2) all:=by
 refine Ev.step (f:=fun _=>some all) (fun k=>?_) (Ev.now _)
 unfold eS
 rw[if_pos (by unfold U;omega)]
 split
 ·rfl
 ·rw[if_pos rfl]
theorem tS{ps:List Nat}{p:Nat}(h:p∈ps)(hp:iA p):Ev (fun k=>eS k (ps.map eJ) (p:Int)) (ps.map eJ):=by
 refine Ev.step (f:=fun _=>some (ps.map eJ)) (fun k=>?_) (Ev.now _)
 unfold eS
 have:=hp.2.1
 rw[if_pos (by unfold U;omega),if_pos (by rw[vD];exact decide_eq_true h)]
theorem re{ps:List Nat}{p:Nat}{R:List dA}(h:p∉ps)(hp:iA p)(hl:ps.length<1000)(E:Ev (fun k=>eF k ((ps++[p]).map eJ) (n5 (fL p))) R):Ev (fun k=>eS k (ps.map eJ) (p:Int)) R:=by
 have h1:=hp.1
 have h2:=hp.2.1
 have hw:IntKind.u64.wrap ((p:Int)-1)=((p-1:Nat):Int):=by rw[aX _ (by omega) (by omega)];omega
 refine Ev.step (f:=fun k=>(av.f k ((p-1:Nat):Int)).bind fun l=>(dM.f k (p:Int)).bind fun g=>if(ps.map eJ).length<1000 then eF k (ps.map eJ++[⟨(p:Int),g,l⟩]) l else none) (fun k=>?_) ?_
 ·unfold eS
  rw[if_pos (by unfold U;omega),if_neg (by rw[vD,decide_eq_true_eq];exact h),if_neg (by omega),hw]
 ·refine Ev.bind (ja hp).2.1 (Ev.bind (nI hp.int (gV hp)) (dG (by rw[List.length_map];exact hl) ?_))
  rw[List.map_append] at E
  exact E
theorem qI{all:List dA}:Ev (fun k=>eF k all []) all:=by
 refine Ev.step (f:=fun _=>some all) (fun k=>?_) (Ev.now _)
 unfold eF
 rfl
theorem oG{all a R:List dA}{x:Nat×Nat}{l:List (Nat×Nat)}(h1:Ev (fun k=>eS k all (x.1:Int)) a)(h2:Ev (fun k=>eF k a (n5 l)) R):Ev (fun k=>eF k all (n5 (x::l))) R:=by
 refine Ev.step (f:=fun k=>(eS k all (x.1:Int)).bind fun a=>eF k a (n5 l)) (fun k=>?_) (Ev.bind h1 h2)
 show eF (k+1) all ((⟨(x.1:Int),(x.2:Int)⟩:bO)::n5 l)=_
 simp only[eF]
theorem sT{p:Nat}(hp:iA p){x:Nat×Nat}(hx:x∈fL p):x.1<p∧(x.1=2∨iA x.1):=by
 have hf:=(ja hp).1
 have h1:=hp.1
 have h2:=hp.2.1
 have hd:=Nat.le_of_dvd (by omega) (hf.le (by omega) hx)
 have pr:=(hf.1 x hx).1
 refine⟨by omega,?_⟩
 have:=pr.1
 by_cases c:x.1=2
 ·exact .inl c
 ·exact .inr ⟨by omega,by omega,pr⟩
theorem uf(k:Nat): ∀(p:Nat) (ps:List Nat),(p=2∨iA p)→Good ps ps.length→ps.length+sz k p<1000→
  ∃xs,xs.length≤sz k p∧(∀q∈xs,q≤p)∧(p=2∨p∈ps++xs)∧Good (ps++xs) ps.length∧Ev (fun k=>eS k (ps.map eJ) (p:Int)) ((ps++xs).map eJ)∧(∀q∈xs,q=p∨ ∃s∈ps++xs,∃x∈fL s,x.1=q):=by
 induction k with
 |zero=>
  intro p ps _ _ h
  have:sz 0 p=1000:=rfl
  omega
 |succ k ih=>
  intro p ps hp hg hs
  rcases hp with rfl|hp
  ·refine⟨[],Nat.zero_le _,by simp, .inl rfl,by rw[List.append_nil];exact hg,?_,by simp⟩
   rw[List.append_nil];exact rP
  by_cases hin:p∈ps
  ·refine⟨[],Nat.zero_le _,by simp, .inr (by rw[List.append_nil];exact hin),by rw[List.append_nil];exact hg,?_,by simp⟩
   rw[List.append_nil];exact tS hin hp
  have hf:=(ja hp).1
  have hsf:=xH (k:=k) hp.1 hf (by omega)
  have key: ∀(l:List (Nat×Nat)),(∀x∈l,x∈fL p)→ ∀qs:List Nat,(∀q∈qs,iA q)→qs.Nodup→qs.length+lD (sz k) (l.map fun x=>x.1)<1000→
    ∃ys,ys.length≤lD (sz k) (l.map fun x=>x.1)∧(∀q∈ys,q<p)∧(∀x∈l,x.1=2∨x.1∈qs++ys)∧Good (qs++ys) qs.length∧Ev (fun k=>eF k (qs.map eJ) (n5 l)) ((qs++ys).map eJ)∧(∀q∈ys,(∃x∈l,x.1=q)∨ ∃s∈qs++ys,∃x∈fL s,x.1=q):=by
   intro l
   induction l with
   |nil=>
    intro _ qs ho hn _
    refine⟨[],Nat.zero_le _,by simp,by simp,by rw[List.append_nil];exact⟨ho,hn,by simp⟩,?_,by simp⟩
    rw[List.append_nil];exact qI
   |cons x l ihl=>
    intro hsub qs ho hn hlen
    rw[List.map_cons,gq] at hlen
    have hx:=sT hp (hsub x List.mem_cons_self)
    obtain⟨ys,l1,l2,l3,l4,l5,l6⟩:=ih x.1 qs hx.2 ⟨ho,hn,by simp⟩ (by omega)
    obtain⟨zs,m1,m2,m3,m4,m5,m6⟩:=ihl (fun y hy=>hsub y (List.mem_cons_of_mem _ hy)) (qs++ys) l4.odd l4.nodup (by rw[List.length_append];omega)
    refine⟨ys++zs,by rw[List.length_append,List.map_cons,gq];omega,fun q hq=>?_,fun y hy=>?_,?_,?_,fun q hq=>?_⟩
    ·rcases List.mem_append.1 hq with h|h
     ·have:=l2 q h;omega
     ·exact m2 q h
    ·rw[←List.append_assoc]
     rcases List.mem_cons.1 hy with rfl|hy
     ·rcases l3 with h|h
      ·exact .inl h
      ·exact .inr (List.mem_append_left _ h)
     ·exact m3 y hy
    ·rw[←List.append_assoc]
     refine⟨m4.odd,m4.nodup,fun q hq y hy=>?_⟩
     rw[List.append_assoc,List.drop_left] at hq
     rcases List.mem_append.1 hq with h|h
     ·rcases l4.closed q (by rw[List.drop_left];exact h) y hy with e|e
      ·exact .inl e
      ·exact .inr (List.mem_append_left _ e)
     ·exact m4.closed q (by rw[List.drop_left];exact h) y hy
    ·rw[←List.append_assoc]
     exact oG l5 m5
    ·rw[←List.append_assoc]
     rcases List.mem_append.1 hq with h|h
     ·rcases l6 q h with e|⟨s,hs,e⟩
      ·exact .inl ⟨x,List.mem_cons_self,e.symm⟩
      ·exact .inr ⟨s,List.mem_append_left _ hs,e⟩
     ·rcases m6 q h with⟨y,hy,e⟩|e
      ·exact .inl ⟨y,List.mem_cons_of_mem _ hy,e⟩
      ·exact .inr e
  obtain⟨ys,l1,l2,l3,l4,l5,l6⟩:=key (fL p) (fun x hx=>hx) (ps++[p]) (fun q hq=>by
   rcases List.mem_append.1 hq with h|h
   ·exact hg.odd q h
   ·have:q=p:=by simpa using h
    rw[this];exact hp) (List.nodup_append.2 ⟨hg.nodup,by simp,fun a ha b hb=>by
    have:b=p:=by simpa using hb
    rintro rfl
    exact hin (this▸ha)⟩) (by rw[List.length_append];show ps.length+1+_<1000;omega)
  refine⟨p::ys,by show ys.length+1≤_;omega,fun q hq=>?_, .inr (by simp),?_,?_,fun q hq=>?_⟩
  ·rcases List.mem_cons.1 hq with rfl|h
   ·omega
   ·have:=l2 q h;omega
  ·have e:ps++p::ys=ps++[p]++ys:=by simp
   refine⟨e▸l4.odd,e▸l4.nodup,fun q hq x hx=>?_⟩
   rw[List.drop_left] at hq
   rw[e]
   rcases List.mem_cons.1 hq with rfl|h
   ·exact l3 x hx
   ·exact l4.closed q (by rw[List.drop_left];exact h) x hx
  ·have e:ps++p::ys=ps++[p]++ys:=by simp
   rw[e]
   exact re hin hp (by omega) l5
  ·have e:ps++p::ys=ps++[p]++ys:=by simp
   rw[e]
   rcases List.mem_cons.1 hq with h|h
   ·exact .inl h
   ·rcases l6 q h with⟨x,hx,e'⟩|e'
    ·exact .inr ⟨p,by simp,x,hx,e'⟩
    ·exact .inr e'
end Go.Proofs.YtndkmnjbjlfeaaaGreat.Row05
end
section
namespace Go.Proofs.YtndkmnjbjlfeaaaGreat.XR
open Go.Proofs.YtndkmnjbjlfeaaaGreat.XS Go.Proofs.YtndkmnjbjlfeaaaGreat.XT
open Go Go.RowKit Go.Proofs.YtndkmnjbjlfeaaaGreatW.PrintWords Go.Proofs.YtndkmnjbjlfeaaaGreatW.PrintLast Go.Proofs.YtndkmnjbjlfeaaaGreatW.PrintMore Go.Proofs.YtndkmnjbjlfeaaaGreat.Given Go.Proofs.YtndkmnjbjlfeaaaGreat.Given04 Go.Proofs.YtndkmnjbjlfeaaaGreat.M Go.Proofs.YtndkmnjbjlfeaaaGreat.Mont
def fO(x:bO):Int×Int:=(x.f0,x.f1)
def AM(x:Int×Int):Prop:=U x.1∧ -9223372036854775808≤x.2∧x.2<9223372036854775808
def oU(l:List (Int×Int)):Prop:= ∀x∈l,AM x
def wr(A:Int→Bool)(m:Int):Int→List (Int×Int)→Int→Bool
 |_,[],n=>n==m
 |q,x::l,n=>(decide (1≤x.2)&&decide (x.2≤62))&&(decide (q<x.1)&&A x.1)&&wr A m x.1 l (n*x.1^x.2.toNat)
theorem fl{q:Int}(h:1≤q): ∀n:Nat,1≤q^n
 |0=>by simp
 |n+1=>by
  rw[Int.pow_succ]
  have:=Int.mul_le_mul (fl h n) h (by omega) (by have:=fl h n;omega)
  simpa using this
theorem fz{n a:Int}(hn:0≤n)(ha:1≤a):n≤n*a:=by
 have:=Int.mul_le_mul_of_nonneg_left ha hn
 simpa using this
theorem vS{A:Int→Bool}{m:Int}(hm:m<18446744073709551616): ∀(l:List (Int×Int)) (q n:Int),2≤q→18446744073709551616≤n→wr A m q l n=false
 |[],q,n,_,hn=>by unfold wr;exact beq_eq_false_iff_ne.mpr (by omega)
 |x::l,q,n,hq,hn=>by
  unfold wr
  by_cases h:q<x.1
  ·rw[vS hm l x.1 _ (by omega) (by have:=fz (n:=n) (by omega) (fl (q:=x.1) (by omega) x.2.toNat);omega),Bool.and_false]
  ·rw[decide_eq_false h];simp
theorem sN{x y:Int}(hx:U x)(hy:U y):bits_Mul64.f x y=some (x*y/18446744073709551616,x*y%18446744073709551616):=by
 unfold bits_Mul64.f
 rw[if_pos ⟨hx.1,hx.2,hy.1,hy.2⟩]
section
variable {ahead:List dA} {F:List bO} {P G len:Int}
theorem mM{i Q E:Int}{l:List (Int×Int)}(hm:P-1<18446744073709551616)(hQ:2≤Q)(uQ:U Q)(e1:1≤E)(e2:E≤62)
  (hT: ∀n,1≤n→U n→Ev (fun k=>al.l0 k ahead n F len (wrap64 (i+1)) P G F) (wr (ej ahead) (P-1) Q l n)):
  ∀(d:Nat) (c n:Int),0≤c→c+d=E→1≤n→U n→Ev (fun k=>al.l1 k ahead n F len i E c P G F Q E) (wr (ej ahead) (P-1) Q l (n*Q^d))
 |0,c,n,c0,cd,n1,un=>by
  rw[Int.pow_zero,Int.mul_one]
  refine Ev.step (fun k=>?_) (hT n n1 un)
  simp only[al.l1]
  rw[if_neg (by omega)]
 |d+1,c,n,c0,cd,n1,un=>by
  have hp:n≤n*Q:=fz (by omega) (by omega)
  have hw:wrap64 (c+1)=c+1:=cY _ (by omega) (by omega)
  have e:n*Q^(d+1)=n*Q*Q^d:=by rw[Int.pow_succ,Int.mul_comm (Q^d) Q,Int.mul_assoc]
  by_cases hb:n*Q/18446744073709551616>0
  ·have:wr (ej ahead) (P-1) Q l (n*Q^(d+1))=false:=by
    rw[e]
    refine vS hm _ _ _ hQ ?_
    have:=fz (n:=n*Q) (by omega) (fl (q:=Q) (by omega) d)
    omega
   rw[this]
   refine Ev.step (f:=fun _=>some false) (fun k=>?_) (Ev.now _)
   simp only[al.l1]
   rw[if_pos (by omega),sN un uQ,Option.bind_some,if_pos hb]
  ·have lt:n*Q<18446744073709551616:=by omega
   have IH:=mM hm hQ uQ e1 e2 hT d (c+1) (n*Q) (by omega) (by omega) (by omega) (by unfold U;omega)
   rw[e]
   refine Ev.step (fun k=>?_) IH
   simp only[al.l1]
   rw[if_pos (by omega),sN un uQ,Option.bind_some,if_neg hb,hw,Int.emod_eq_of_lt (by omega) lt]
theorem jW{n i len i2 Q E:Int}:Ev (fun k=>al.j2 k ahead n i F len i2 true P G F Q E) false:=
 Ev.step (f:=fun _=>some false) (fun k=>by simp[al.j2]) (Ev.now _)
theorem nX{n len i2 Q E:Int}:Ev (fun k=>al.j3 k ahead n F len i2 true P G F Q E) false:=
 Ev.step (f:=fun _=>some false) (fun k=>by simp[al.j3]) (Ev.now _)
theorem yf{F:List bO}{i:Nat}{x:bO}{l:List bO}(h:F.drop i=x::l):bg F (i:Int)=x∧i<F.length∧F.drop (i+1)=l:=by
 have hlt:i<F.length:=by
  refine Classical.byContradiction fun c=>?_
  rw[List.drop_of_length_le (by omega)] at h
  cases h
 rw[List.drop_eq_getElem_cons hlt] at h
 injection h with h1 h2
 refine⟨?_,hlt,h2⟩
 unfold bg
 simp[List.getD,List.getElem?_eq_getElem hlt,h1]
theorem qU(hF:F.length≤16)(hok:oU (F.map fO))(hlen:len=(F.length:Int))(hP:P-1<18446744073709551616)
  (x:bO) (l:List bO) (i:Nat) (q n:Int) (hx:bg F (i:Int)=x) (hi:i<F.length) (hxm:x∈F) (i1:1≤i) (hq:(bg F ((i-1:Nat):Int)).f0=q) (q2:2≤q) (n1:1≤n) (un:U n)
  (IH:2≤x.f0→ ∀n,1≤n→U n→Ev (fun k=>al.l0 k ahead n F len ((i+1:Nat):Int) P G F) (wr (ej ahead) (P-1) x.f0 (l.map fO) n)):
  Ev (fun k=>al.l0 k ahead n F len i P G F) (wr (ej ahead) (P-1) q ((x::l).map fO) n):=by
 have p0:(i:Int)>0:=by omega
 have p1:0≤((i-1:Nat):Int):=by omega
 have p2:((i-1:Nat):Int)<(F.length:Int):=by omega
 have p3:(i:Int)<len:=by omega
 have p4:0≤(i:Int):=by omega
 have p5:(i:Int)<(F.length:Int):=by omega
 have hxo:AM (fO x):=hok _ (List.mem_map_of_mem hxm)
 have ux:U x.f0:=hxo.1
 rw[List.map_cons]
 by_cases h1:x.f1<1
 ·have e:wr (ej ahead) (P-1) q (fO x::l.map fO) n=false:=by
   unfold wr fO;rw[decide_eq_false (show¬1≤x.f1 by omega)];simp
  rw[e]
  refine Ev.step (fun k=>?_) (jW (ahead:=ahead) (F:=F) (P:=P) (G:=G) (n:=n) (i:=i) (len:=len) (i2:=i) (Q:=x.f0) (E:=x.f1))
  simp only[al.l0]
  rw[if_pos p3,if_pos p4,if_pos p5,hx,if_pos h1]
 by_cases h2:x.f1>62
 ·have e:wr (ej ahead) (P-1) q (fO x::l.map fO) n=false:=by
   unfold wr fO;rw[decide_eq_false (show¬x.f1≤62 by omega)];simp
  rw[e]
  refine Ev.step (fun k=>?_) (jW (ahead:=ahead) (F:=F) (P:=P) (G:=G) (n:=n) (i:=i) (len:=len) (i2:=i) (Q:=x.f0) (E:=x.f1))
  simp only[al.l0]
  rw[if_pos p3,if_pos p4,if_pos p5,hx,if_neg h1,decide_eq_true h2]
 have w1:wrap64 ((i:Int)-1)=((i-1:Nat):Int):=by rw[cY _ (by omega) (by omega)];omega
 suffices hj:Ev (fun k=>al.j2 k ahead n i F len i false P G F x.f0 x.f1) (wr (ej ahead) (P-1) q (fO x::l.map fO) n) by
  refine Ev.step (fun k=>?_) hj
  simp only[al.l0]
  rw[if_pos p3,if_pos p4,if_pos p5,hx,if_neg h1,decide_eq_false h2]
 by_cases h3:x.f0≤q
 ·have e:wr (ej ahead) (P-1) q (fO x::l.map fO) n=false:=by
   unfold wr fO;rw[decide_eq_false (show¬q<x.f0 by omega)];simp
  rw[e]
  refine Ev.step (fun k=>?_) (nX (ahead:=ahead) (F:=F) (P:=P) (G:=G) (n:=n) (len:=len) (i2:=i) (Q:=x.f0) (E:=x.f1))
  simp only[al.j2]
  rw[if_neg (show¬(false=true) from Bool.false_ne_true),if_pos p0,w1,if_pos p1,if_pos p2,hq,if_pos h3]
 cases h4:ej ahead x.f0 with
 |false=>
  have e:wr (ej ahead) (P-1) q (fO x::l.map fO) n=false:=by
   unfold wr fO;simp only[h4];simp
  rw[e]
  refine Ev.step (fun k=>?_) (nX (ahead:=ahead) (F:=F) (P:=P) (G:=G) (n:=n) (len:=len) (i2:=i) (Q:=x.f0) (E:=x.f1))
  simp only[al.j2]
  rw[if_neg (show¬(false=true) from Bool.false_ne_true),if_pos p0,w1,if_pos p1,if_pos p2,hq,if_neg h3,e8.f,Option.bind_some,h4]
  rfl
 |true=>
  have w2:wrap64 ((i:Int)+1)=((i+1:Nat):Int):=by rw[cY _ (by omega) (by omega)];omega
  have L1:=mM (ahead:=ahead) (F:=F) (P:=P) (G:=G) (len:=len) (i:=i) (Q:=x.f0) (E:=x.f1) (l:=l.map fO) (by omega) (by omega) ux (by omega) (by omega)
   (fun n n1 un=>by rw[w2];exact IH (by omega) n n1 un) x.f1.toNat 0 n (by omega) (by omega) n1 un
  have e:wr (ej ahead) (P-1) q (fO x::l.map fO) n=wr (ej ahead) (P-1) x.f0 (l.map fO) (n*x.f0^x.f1.toNat):=by
   have a1:1≤x.f1:=by omega
   have a2:x.f1≤62:=by omega
   have a3:q<x.f0:=by omega
   rw[wr];simp[fO,h4,a1,a2,a3]
  rw[e]
  refine Ev.step (f:=fun k=>al.j3 k ahead n F len i false P G F x.f0 x.f1) (fun k=>?_) (Ev.step (fun k=>?_) L1)
  ·simp only[al.j2]
   rw[if_neg (show¬(false=true) from Bool.false_ne_true),if_pos p0,w1,if_pos p1,if_pos p2,hq,if_neg h3,e8.f,Option.bind_some,h4]
   rfl
  ·simp only[al.j3]
   rw[if_neg (show¬(false=true) from Bool.false_ne_true)]
theorem uH(hF:F.length≤16)(hok:oU (F.map fO))(hP:1≤P)(hP2:P<18446744073709551616)(hlen:len=(F.length:Int))(l:List bO):
  ∀(i:Nat) (q n:Int),F.drop i=l→1≤i→(bg F ((i-1:Nat):Int)).f0=q→2≤q→1≤n→U n→
   Ev (fun k=>al.l0 k ahead n F len i P G F) (wr (ej ahead) (P-1) q (l.map fO) n):=by
 induction l with
 |nil=>
  intro i q n hd i1 hq q2 n1 un
  have:F.length≤i:=by have:=congrArg List.length hd;simp at this;omega
  refine Ev.step (f:=fun _=>some (n==P-1)) (fun k=>?_) (Ev.now _)
  simp only[al.l0]
  rw[if_neg (by omega),aX _ (by omega) (by omega)]
 |cons x l ih=>
  intro i q n hd i1 hq q2 n1 un
  obtain⟨hx,hi,hd'⟩:=yf hd
  have hxm:x∈F:=List.mem_of_mem_drop (show x∈F.drop i by rw[hd];exact List.mem_cons_self)
  exact qU hF hok hlen (by omega) x l i q n hx hi hxm i1 hq q2 n1 un (fun h2 n n1 un=>ih (i+1) x.f0 n hd' (by omega) (by rw[show i+1-1=i from rfl,hx]) h2 n1 un)
end
end Go.Proofs.YtndkmnjbjlfeaaaGreat.XR
end
section
namespace Go.Proofs.YtndkmnjbjlfeaaaGreat.XR
open Go.Proofs.YtndkmnjbjlfeaaaGreat.XS Go.Proofs.YtndkmnjbjlfeaaaGreat.XT
open Go Go.RowKit Go.Proofs.YtndkmnjbjlfeaaaGreatW.PrintWords Go.Proofs.YtndkmnjbjlfeaaaGreatW.PrintLast Go.Proofs.YtndkmnjbjlfeaaaGreatW.PrintMore Go.Proofs.YtndkmnjbjlfeaaaGreat.Given Go.Proofs.YtndkmnjbjlfeaaaGreat.Given04 Go.Proofs.YtndkmnjbjlfeaaaGreat.M Go.Proofs.YtndkmnjbjlfeaaaGreat.Mont
def dY(A:Int→Bool)(P:Int):List (Int×Int)→Bool
 |[]=>false
 |x::t=>(decide ((x::t).length≤16)&&(x.1==2))&&(decide (1≤x.2)&&decide (x.2≤62))&&wr A (P-1) 2 t (2^x.2.toNat)
theorem eA{A:Int→Bool}{P:Int}{x:Int×Int}{t:List (Int×Int)}:dY A P (x::t)=((decide ((x::t).length≤16)&&(x.1==2))&&(decide (1≤x.2)&&decide (x.2≤62))&&wr A (P-1) 2 t (2^x.2.toNat)):=rfl
theorem ft: ¬(false=true):=Bool.false_ne_true
section
variable {ahead:List dA} {F:List bO} {P G:Int}
theorem lG:Ev (fun k=>al.j0 k ahead true P G F) false:=
 Ev.step (f:=fun _=>some false) (fun k=>by simp[al.j0]) (Ev.now _)
theorem vC(hok:oU (F.map fO))(hP:1≤P)(hP2:P<18446744073709551616):Ev (fun k=>al.f k ahead P G F) (dY (ej ahead) P (F.map fO)):=by
 match F,hok with
 |[],_=>
  refine Ev.congr (fun k=>?_) (lG (ahead:=ahead) (F:=[]) (P:=P) (G:=G))
  unfold al.f
  rw[if_pos (by simp)]
 |x::t,hok=>
  obtain⟨F,hF⟩: ∃F,F=x::t:=⟨_,rfl⟩
  have hlen:F.length=t.length+1:=by rw[hF];rfl
  by_cases h16:F.length>16
  ·have e:dY (ej ahead) P ((x::t).map fO)=false:=by
    have: ¬((x::t).map fO).length≤16:=by rw[←hF];simp;omega
    rw[List.map_cons] at this ⊢
    rw[eA,decide_eq_false this]
    simp
   rw[e,←hF]
   have p:(F.length:Int)>16:=by omega
   have p': ¬(F.length:Int)=0:=by omega
   refine Ev.congr (fun k=>?_) (lG (ahead:=ahead) (F:=F) (P:=P) (G:=G))
   unfold al.f
   rw[if_neg p',if_pos p]
  have p: ¬(F.length:Int)>16:=by omega
  have p': ¬(F.length:Int)=0:=by omega
  have p0:0<(F.length:Int):=by omega
  have p16:F.length≤16:=by omega
  have l16:((x::t).map fO).length≤16:=by rw[←hF];simpa using p16
  have h0:bg F 0=x:=by rw[hF];rfl
  have hxo:AM (fO x):=hok _ (by simp)
  have ux:U x.f0:=hxo.1
  have hok':oU (F.map fO):=by rw[hF];exact hok
  clear hlen
  by_cases h2:x.f0=2
  ·have L0:Ev (fun k=>al.l0 k ahead 1 F (F.length:Int) 0 P G F) (dY (ej ahead) P ((x::t).map fO)):=by
    by_cases h1:x.f1<1
    ·have e:dY (ej ahead) P ((x::t).map fO)=false:=by
      rw[List.map_cons,eA,decide_eq_false (show¬1≤(fO x).2 by show¬1≤x.f1;omega)];simp
     rw[e]
     refine Ev.step (fun k=>?_) (jW (ahead:=ahead) (F:=F) (P:=P) (G:=G) (n:=1) (i:=0) (len:=(F.length:Int)) (i2:=0) (Q:=x.f0) (E:=x.f1))
     simp only[al.l0]
     rw[if_pos p0,if_pos (Int.le_refl 0),if_pos p0,h0,if_pos h1]
    by_cases h3:x.f1>62
    ·have e:dY (ej ahead) P ((x::t).map fO)=false:=by
      rw[List.map_cons,eA,decide_eq_false (show¬(fO x).2≤62 by show¬x.f1≤62;omega)];simp
     rw[e]
     refine Ev.step (fun k=>?_) (jW (ahead:=ahead) (F:=F) (P:=P) (G:=G) (n:=1) (i:=0) (len:=(F.length:Int)) (i2:=0) (Q:=x.f0) (E:=x.f1))
     simp only[al.l0]
     rw[if_pos p0,if_pos (Int.le_refl 0),if_pos p0,h0,if_neg h1,decide_eq_true h3]
    have hm:P-1<18446744073709551616:=by omega
    have e1:1≤x.f1:=by omega
    have e2:x.f1≤62:=by omega
    have e3:(0:Int)+(x.f1.toNat:Nat)=x.f1:=by omega
    have q2:2≤x.f0:=by omega
    have w2:wrap64 ((0:Int)+1)=((1:Nat):Int):=by rw[cY _ (by omega) (by omega)];rfl
    have hd:F.drop 1=t:=by rw[hF];rfl
    have hr:(bg F ((1-1:Nat):Int)).f0=x.f0:=by rw[←h0];rfl
    have L1:=mM (ahead:=ahead) (F:=F) (P:=P) (G:=G) (len:=(F.length:Int)) (i:=0) (Q:=x.f0) (E:=x.f1) (l:=t.map fO) hm q2 ux e1 e2
     (fun n n1 un=>by rw[w2];exact uH p16 hok' hP hP2 rfl t 1 x.f0 n hd (Nat.le_refl 1) hr q2 n1 un) x.f1.toNat 0 1 (Int.le_refl 0) e3 (Int.le_refl 1) (by unfold U;omega)
    have e:dY (ej ahead) P ((x::t).map fO)=wr (ej ahead) (P-1) x.f0 (t.map fO) (1*x.f0^x.f1.toNat):=by
     rw[List.map_cons] at l16 ⊢
     rw[eA,decide_eq_true l16]
     simp[fO,h2,e1,e2]
    rw[e]
    refine Ev.step (f:=fun k=>al.j2 k ahead 1 0 F (F.length:Int) 0 false P G F x.f0 x.f1) (fun k=>?_) (Ev.step (f:=fun k=>al.j3 k ahead 1 F (F.length:Int) 0 false P G F x.f0 x.f1) (fun k=>?_) (Ev.step (fun k=>?_) L1))
    ·simp only[al.l0]
     rw[if_pos p0,if_pos (Int.le_refl 0),if_pos p0,h0,if_neg h1,decide_eq_false h3]
    ·simp only[al.j2]
     rw[if_neg ft,if_neg (Int.lt_irrefl 0)]
    ·simp only[al.j3]
     rw[if_neg ft]
   rw[hF] at L0 p p' p0 h0
   refine Ev.congr (fun k=>?_) (Ev.step (g:=fun k=>al.j0 k ahead false P G (x::t)) (fun k=>?_) L0)
   ·unfold al.f
    rw[if_neg p',if_neg p,if_pos p0,h0,h2]
    rfl
   ·simp only[al.j0]
    rw[if_neg ft]
  ·have e:dY (ej ahead) P ((x::t).map fO)=false:=by
    rw[List.map_cons,eA,show((fO x).1==2)=false from beq_eq_false_iff_ne.mpr h2];simp
   rw[e,←hF]
   refine Ev.congr (fun k=>?_) (lG (ahead:=ahead) (F:=F) (P:=P) (G:=G))
   unfold al.f
   rw[if_neg p',if_neg p,if_pos p0,h0,show(x.f0 !=2)=true by simp[bne,h2]]
def ix(P G:Int)(l:List (Int×Int)):Bool:=(G^(P-1).toNat%P==1)&& !(l.any fun x=>G^((P-1)/x.1).toNat%P==1)
def fits(P G:Int):Prop:=P%2=1∧3≤P∧P<9223372036854775808∧2≤G∧G<P
instance:Decidable (fits P G):=by unfold fits;infer_instance
def fb(A:Int→Bool)(prev:Option Int)(P G:Int)(l:List (Int×Int)):Bool:=
 (decide (fits P G)&&(match prev with|none=>true|some q=>decide (q<P)))&&(dY A P l&&ix P G l)
theorem vF{A:Int→Bool}{m:Int}: ∀(l:List (Int×Int)) (q n:Int),2≤q→wr A m q l n=true→ ∀x∈l,2≤x.1
 |[],_,_,_,_=>by simp
 |y::l,q,n,hq,h=>by
  unfold wr at h
  simp only[Bool.and_eq_true,decide_eq_true_eq] at h
  obtain⟨⟨_,h2,_⟩,h3⟩:=h
  intro x hx
  rcases List.mem_cons.1 hx with rfl|hx
  ·omega
  ·exact vF l y.1 _ (by omega) h3 x hx
theorem qW{A:Int→Bool}{P:Int}{l:List (Int×Int)}(h:dY A P l=true): ∀x∈l,2≤x.1:=by
 match l,h with
 |y::t,h=>
  unfold dY at h
  simp only[Bool.and_eq_true,decide_eq_true_eq,beq_iff_eq] at h
  obtain⟨⟨⟨_,h2⟩,_⟩,h3⟩:=h
  intro x hx
  rcases List.mem_cons.1 hx with rfl|hx
  ·omega
  ·exact vF t 2 _ (by omega) h3 x hx
theorem wW(hf:fits P G)(hw:dY (ej ahead) P (F.map fO)=true)(hok:oU (F.map fO)):eU.f P G F=some (ix P G (F.map fO)):=by
 unfold eU.f
 rw[if_pos]
 ·unfold ix
  rw[List.any_map]
  rfl
 ·unfold fits at hf
  refine⟨⟨hf.1,hf.2.1,hf.2.2.1⟩,by unfold U;omega,fun x hx=>?_⟩
  have h2:=qW hw (fO x) (List.mem_map_of_mem hx)
  have hx2:2≤x.f0:=h2
  exact⟨by omega,(hok (fO x) (List.mem_map_of_mem hx)).1⟩
theorem tA:Ev (fun k=>bf.j0 k ahead true P G F) false:=
 Ev.step (f:=fun _=>some false) (fun k=>by simp[bf.j0]) (Ev.now _)
theorem tE:Ev (fun k=>bf.j1 k ahead true P G F) false:=
 Ev.step (f:=fun _=>some false) (fun k=>by simp[bf.j1]) (Ev.now _)
def kJ(l:List dA):Option Int:=l.getLast?.map fun e=>e.f0
theorem yw{l:List dA}(h:l≠[]):kJ l=some (aW l ((l.length-1:Nat):Int)).f0:=by
 unfold kJ aW
 have hlt:l.length-1<l.length:=by have:=List.length_pos_iff.2 h;omega
 rw[List.getLast?_eq_getElem?,List.getElem?_eq_getElem hlt]
 simp[List.getD,List.getElem?_eq_getElem hlt]
theorem u5(hok:oU (F.map fO))(uP:U P)(hl:ahead.length≤1000):Ev (fun k=>bf.f k ahead P G F) (fb (ej ahead) (kJ ahead) P G (F.map fO)):=by
 by_cases hf:fits P G
 ·
  have hP1:1≤P:=by unfold fits at hf;omega
  have hb:Ev (fun k=>bf.j1 k ahead false P G F) (dY (ej ahead) P (F.map fO)&&ix P G (F.map fO)):=by
   have hw:=vC (ahead:=ahead) (F:=F) (P:=P) (G:=G) hok hP1 uP.2
   cases h:dY (ej ahead) P (F.map fO) with
   |false=>
    rw[h] at hw
    refine Ev.step (f:=fun k=>(al.f k ahead P G F).bind fun t111=>(if t111=true then((eU.f P G F).bind fun t112=>(some t112)) else(some false))) (fun k=>?_) (Ev.bind hw ?_)
    ·simp only[bf.j1];rw[if_neg ft]
    ·exact gy ft (Ev.now _)
   |true=>
    have e:=wW (ahead:=ahead) hf h hok
    rw[h] at hw
    rw[Bool.true_and]
    refine Ev.step (f:=fun k=>(al.f k ahead P G F).bind fun t111=>(if t111=true then((eU.f P G F).bind fun t112=>(some t112)) else(some false))) (fun k=>?_) (Ev.bind hw ?_)
    ·simp only[bf.j1];rw[if_neg ft]
    ·refine dG rfl ?_
     rw[e]
     exact Ev.now _
  have hj:Ev (fun k=>bf.j0 k ahead false P G F) (fb (ej ahead) (kJ ahead) P G (F.map fO)):=by
   unfold fb
   rw[decide_eq_true hf,Bool.true_and]
   by_cases hz:ahead=[]
   ·have hl0: ¬(ahead.length:Int)>0:=by rw[hz];simp
    have:kJ ahead=none:=by rw[hz];rfl
    rw[this,Bool.true_and]
    refine Ev.step (fun k=>?_) hb
    simp only[bf.j0]
    rw[if_neg ft,if_neg hl0]
   ·have hp:=List.length_pos_iff.2 hz
    have q0:(ahead.length:Int)>0:=by omega
    have w:wrap64 ((ahead.length:Int)-1)=((ahead.length-1:Nat):Int):=by rw[cY _ (by omega) (by omega)];omega
    have q1:0≤((ahead.length-1:Nat):Int):=by omega
    have q2:((ahead.length-1:Nat):Int)<(ahead.length:Int):=by omega
    rw[yw hz]
    by_cases c:(aW ahead ((ahead.length-1:Nat):Int)).f0≥P
    ·rw[show(match some (aW ahead ((ahead.length-1:Nat):Int)).f0 with|none=>true|some q=>decide (q<P))=false from decide_eq_false (by omega),Bool.false_and]
     refine Ev.step (fun k=>?_) (tE (ahead:=ahead) (F:=F) (P:=P) (G:=G))
     simp only[bf.j0]
     rw[if_neg ft,if_pos q0,w,if_pos q1,if_pos q2,decide_eq_true c]
    ·rw[show(match some (aW ahead ((ahead.length-1:Nat):Int)).f0 with|none=>true|some q=>decide (q<P))=true from decide_eq_true (by omega),Bool.true_and]
     refine Ev.step (fun k=>?_) hb
     simp only[bf.j0]
     rw[if_neg ft,if_pos q0,w,if_pos q1,if_pos q2,decide_eq_false c]
  refine Ev.congr (fun k=>?_) hj
  unfold fits at hf
  have c1: ¬P%2=0:=by omega
  have c2: ¬P<3:=by omega
  have c3: ¬P≥9223372036854775808:=by omega
  have c4: ¬G<2:=by omega
  have c5: ¬G≥P:=by omega
  unfold bf.f
  rw[r8 P uP,if_neg c1,if_neg c2,if_neg c3,if_neg c4,decide_eq_false c5]
 ·have e:fb (ej ahead) (kJ ahead) P G (F.map fO)=false:=by
   unfold fb;rw[decide_eq_false hf,Bool.false_and,Bool.false_and]
  rw[e]
  refine Ev.congr (fun k=>?_) (tA (ahead:=ahead) (F:=F) (P:=P) (G:=G))
  unfold bf.f
  rw[r8 P uP]
  by_cases c1:P%2=0
  ·rw[if_pos c1]
  by_cases c2:P<3
  ·rw[if_neg c1,if_pos c2]
  by_cases c3:P≥9223372036854775808
  ·rw[if_neg c1,if_neg c2,if_pos c3]
  by_cases c4:G<2
  ·rw[if_neg c1,if_neg c2,if_neg c3,if_pos c4]
  have c5:G≥P:=by unfold fits at hf;omega
  rw[if_neg c1,if_neg c2,if_neg c3,if_neg c4,decide_eq_true c5]
end
def eZ(r:Nat→Bool):Nat→Nat→Int×Int
 |0,_=>(0,0)
 |d+1,i=>if r i then eZ r d (i+1) else((i:Int),3)
def iy(e:dA):Int×Int×List (Int×Int):=(e.f0,e.f1,e.f2.map fO)
def sS(e:Int×Int×List (Int×Int)):Prop:=U e.1∧U e.2.1∧oU e.2.2
def eh(L:List (Int×Int×List (Int×Int)))(i:Nat):Bool:=
 match L[i]? with
 |none=>false
 |some e=>fb (fun q=>(L.take i).any fun a=>a.1==q) ((L.take i).getLast?.map fun a=>a.1) e.1 e.2.1 e.2.2
theorem uR(l:List dA):ej l=fun q=>(l.map iy).any fun a=>a.1==q:=by
 funext q
 unfold ej
 rw[List.any_map]
 rfl
theorem tu(l:List dA):kJ l=(l.map iy).getLast?.map fun a=>a.1:=by
 unfold kJ
 rw[List.getLast?_map,Option.map_map]
 rfl
theorem wg(L:List dA)(hok: ∀e∈L.map iy,sS e)(hl:L.length≤1000): ∀(d i:Nat),i+d=L.length→Ev (fun k=>bD.l0 k L L (L.length:Int) i) (eZ (eh (L.map iy)) d i):=by
 intro d
 induction d with
 |zero=>
  intro i hi
  refine Ev.step (f:=fun _=>some (0,0)) (fun k=>?_) (Ev.now _)
  simp only[bD.l0]
  rw[if_neg (by omega)]
 |succ d ih=>
  intro i hi
  have hlt:i<L.length:=by omega
  have q1:(i:Int)<(L.length:Int):=by omega
  have q2:0≤(i:Int):=by omega
  have q3:(i:Int)≤(L.length:Int):=by omega
  have w:wrap64 ((i:Int)+1)=((i+1:Nat):Int):=by rw[cY _ (by omega) (by omega)];omega
  have hrd:aW L (i:Int)=L[i]:=by unfold aW;simp[List.getD,List.getElem?_eq_getElem hlt]
  have hmem:iy L[i]∈L.map iy:=List.mem_map_of_mem (List.getElem_mem hlt)
  have ho:=hok _ hmem
  have E:=u5 (ahead:=L.take i) (F:=L[i].f2) (P:=L[i].f0) (G:=L[i].f1) ho.2.2 ho.1 (by simp;omega)
  have hr:fb (ej (L.take i)) (kJ (L.take i)) L[i].f0 L[i].f1 (L[i].f2.map fO)=eh (L.map iy) i:=by
   unfold eh
   rw[List.getElem?_map,List.getElem?_eq_getElem hlt,Option.map_some,uR,tu,List.map_take]
   rfl
  rw[hr] at E
  have IH:=ih (i+1) (by omega)
  refine Ev.step (f:=fun k=>(bf.f k (L.take i) L[i].f0 L[i].f1 L[i].f2).bind fun t119=>(if t119=true then(bD.l0 k L L (L.length:Int) ((i+1:Nat):Int)) else(some ((i:Int),3)))) (fun k=>?_) (Ev.bind E ?_)
  ·simp only[bD.l0]
   rw[if_pos q1,if_pos q2,if_pos q1,if_pos q3,hrd,w,Int.toNat_natCast]
  ·unfold eZ
   cases eh (L.map iy) i with
   |true=>exact dG rfl IH
   |false=>exact gy ft (Ev.now _)
def dL(L:List (Int×Int×List (Int×Int))):Int×Int:=if(L.length:Int)>32 then(0,13) else eZ (eh L) L.length 0
theorem nA(L:List dA)(hok: ∀e∈L.map iy,sS e):Ev (fun k=>bD.f k L) (dL (L.map iy)):=by
 unfold dL
 rw[List.length_map]
 by_cases h:(L.length:Int)>32
 ·rw[if_pos h]
  refine Ev.congr (fun k=>?_) (Ev.now _)
  unfold bD.f
  rw[if_pos h]
 ·rw[if_neg h]
  refine Ev.congr (fun k=>?_) (wg L hok (by omega) L.length 0 (by omega))
  unfold bD.f
  rw[if_neg h]
  rfl
end Go.Proofs.YtndkmnjbjlfeaaaGreat.XR
end
section
namespace Go.Proofs.YtndkmnjbjlfeaaaGreat.XR
open Go.Proofs.YtndkmnjbjlfeaaaGreat.XS Go.Proofs.YtndkmnjbjlfeaaaGreat.XT
open Go Go.RowKit Go.Proofs.YtndkmnjbjlfeaaaGreatW.PrintWords Go.Proofs.YtndkmnjbjlfeaaaGreatW.PrintLast Go.Proofs.YtndkmnjbjlfeaaaGreatW.PrintMore Go.Proofs.YtndkmnjbjlfeaaaGreat.Given Go.Proofs.YtndkmnjbjlfeaaaGreat.Given04 Go.Proofs.YtndkmnjbjlfeaaaGreat.M Go.Proofs.YtndkmnjbjlfeaaaGreat.Mont Go.Proofs.YtndkmnjbjlfeaaaGreat.Num
def wH(l:List (Int×Int)):List (Nat×Nat):=l.map fun x=>(x.1.toNat,x.2.toNat)
theorem si{A:Int→Bool}{m:Int}: ∀(l:List (Int×Int)) (q n:Int),2≤q→wr A m q l n=true→n*((prod (wH l):Nat):Int)=m∧ ∀x∈l,A x.1=true∧2≤x.1
 |[],q,n,_,h=>by
  unfold wr at h
  rw[beq_iff_eq] at h
  refine⟨?_,by simp⟩
  show n*((1:Nat):Int)=m
  rw[Int.natCast_one,Int.mul_one,h]
 |y::l,q,n,hq,h=>by
  unfold wr at h
  simp only[Bool.and_eq_true,decide_eq_true_eq] at h
  obtain⟨⟨_,h2,hA⟩,h3⟩:=h
  obtain⟨e,hall⟩:=si l y.1 _ (by omega) h3
  refine⟨?_,fun x hx=>?_⟩
  ·show n*((y.1.toNat^y.2.toNat*prod (wH l):Nat):Int)=m
   rw[Int.natCast_mul,Int.natCast_pow,Int.toNat_of_nonneg (by omega),←Int.mul_assoc]
   exact e
  ·rcases List.mem_cons.1 hx with rfl|hx
   ·exact⟨hA,by omega⟩
   ·exact hall x hx
theorem rG{A:Int→Bool}{P:Int}{l:List (Int×Int)}(h:dY A P l=true):((prod (wH l):Nat):Int)=P-1∧ ∀x∈l,(x.1=2∨A x.1=true)∧2≤x.1:=by
 match l,h with
 |y::t,h=>
  rw[eA] at h
  simp only[Bool.and_eq_true,decide_eq_true_eq,beq_iff_eq] at h
  obtain⟨⟨⟨_,h2⟩,_⟩,h3⟩:=h
  obtain⟨e,hall⟩:=si t 2 _ (by omega) h3
  refine⟨?_,fun x hx=>?_⟩
  ·show((y.1.toNat^y.2.toNat*prod (wH t):Nat):Int)=P-1
   rw[Int.natCast_mul,Int.natCast_pow,Int.toNat_of_nonneg (by omega),h2]
   exact e
  ·rcases List.mem_cons.1 hx with rfl|hx
   ·exact⟨.inl h2,by omega⟩
   ·exact⟨.inr (hall x hx).1,(hall x hx).2⟩
theorem jJ(g p n:Nat):((g:Int)^n% (p:Int)=1)↔g^n%p=1:=by
 rw[←Int.natCast_pow,←Int.natCast_emod]
 exact⟨fun h=>by exact_mod_cast h,fun h=>by rw[h];rfl⟩
def Ordered(P G:Int):Prop:=3≤P∧ ∀x:Nat,G.toNat^x%P.toNat=1↔P.toNat-1∣x
theorem Ordered.sM{P G:Int}(h:Ordered P G):cK P.toNat:=mY (by have:=h.1;omega) h.2
theorem nG{A:Int→Bool}{prev:Option Int}{P G:Int}{l:List (Int×Int)}(hA: ∀q,A q=true→cK q.toNat)(h:fb A prev P G l=true):Ordered P G:=by
 unfold fb at h
 simp only[Bool.and_eq_true,decide_eq_true_eq] at h
 obtain⟨⟨hf,_⟩,hw,hu⟩:=h
 unfold fits at hf
 obtain⟨hp,hall⟩:=rG hw
 unfold ix at hu
 simp only[Bool.and_eq_true,beq_iff_eq,Bool.not_eq_true',List.any_eq_false] at hu
 obtain⟨hu1,hu2⟩:=hu
 obtain⟨p,rfl⟩:=Int.eq_ofNat_of_zero_le (show 0≤P by omega)
 obtain⟨g,rfl⟩:=Int.eq_ofNat_of_zero_le (show 0≤G by omega)
 have hpn:((p:Int)-1).toNat=p-1:=by omega
 rw[hpn,jJ] at hu1
 refine⟨by omega,fun x=>?_⟩
 rw[Int.toNat_natCast,Int.toNat_natCast]
 refine Af (wH l) (by omega) hu1 (fun f hf'=>?_) (by omega) (fun f hf'=>?_) x
 ·obtain⟨y,hy,rfl⟩:=List.mem_map.1 hf'
  rcases(hall y hy).1 with e|e
  ·show cK y.1.toNat
   rw[e];exact cK.two
  ·exact hA _ e
 ·obtain⟨y,hy,rfl⟩:=List.mem_map.1 hf'
  intro e
  have y2:=(hall y hy).2
  refine hu2 y hy ?_
  obtain⟨q,hq⟩:=Int.eq_ofNat_of_zero_le (show 0≤y.1 by omega)
  have e:g^((p-1)/y.1.toNat)%p=1:=e
  rw[hq,Int.toNat_natCast] at e
  have hd:(((p:Int)-1)/y.1).toNat=(p-1)/q:=by
   rw[hq,show(p:Int)-1=((p-1:Nat):Int) by omega,←Int.natCast_ediv,Int.toNat_natCast]
  rw[hd,jJ]
  exact e
theorem pF{L:List (Int×Int×List (Int×Int))}(n:Nat): ∀i,i<n→(∀j,j≤i→eh L j=true)→ ∀e,L[i]?=some e→Ordered e.1 e.2.1:=by
 induction n with
 |zero=>intro i hi;omega
 |succ n ih=>
  intro i hi hr e he
  have h:=hr i (Nat.le_refl i)
  unfold eh at h
  rw[he] at h
  refine nG (fun q hq=>?_) h
  have hq:((L.take i).any fun a=>a.1==q)=true:=hq
  rw[List.any_eq_true] at hq
  obtain⟨a,ha,hb⟩:=hq
  rw[beq_iff_eq] at hb
  obtain⟨j,hj,e'⟩:=List.mem_iff_getElem.1 ha
  have hji:j<i:=by rw[List.length_take] at hj;omega
  have:=ih j (by omega) (fun k hk=>hr k (by omega)) a (by
   rw[List.getElem_take] at e'
   rw[←e']
   exact List.getElem?_eq_getElem _)
  rw[←hb]
  exact this.sM
theorem jr{r:Nat→Bool}: ∀(d i:Nat),(eZ r d i).2=0→ ∀j,i≤j→j<i+d→r j=true
 |0,i,_,j,h1,h2=>by omega
 |d+1,i,h,j,h1,h2=>by
  unfold eZ at h
  cases hr:r i with
  |false=>rw[hr,if_neg ft] at h;exact absurd h (show¬(3:Int)=0 by decide)
  |true=>
   rw[hr,if_pos rfl] at h
   rcases Nat.lt_or_ge i j with c|c
   ·exact jr d (i+1) h j (by omega) (by omega)
   ·have:j=i:=by omega
    rw[this];exact hr
theorem nC{L:List (Int×Int×List (Int×Int))}(h:(dL L).2=0){i:Nat}{e:Int×Int×List (Int×Int)}(he:L[i]?=some e):Ordered e.1 e.2.1:=by
 unfold dL at h
 split at h
 ·exact absurd h (by decide)
 have hi:=(List.getElem?_eq_some_iff.1 he).1
 exact pF (i+1) i (by omega) (fun j hj=>jr _ 0 h j (by omega) (by omega)) e he
end Go.Proofs.YtndkmnjbjlfeaaaGreat.XR
end
section
namespace Go.Proofs.YtndkmnjbjlfeaaaGreat.Row05
open Go Go.RowKit Go.Proofs.YtndkmnjbjlfeaaaGreat.XR Go.Proofs.YtndkmnjbjlfeaaaGreatW.PrintWords Go.Proofs.YtndkmnjbjlfeaaaGreatW.PrintLast Go.Proofs.YtndkmnjbjlfeaaaGreatW.PrintMore Go.Proofs.YtndkmnjbjlfeaaaGreat.Given Go.Proofs.YtndkmnjbjlfeaaaGreat.M Go.Proofs.YtndkmnjbjlfeaaaGreat.XS Go.Proofs.YtndkmnjbjlfeaaaGreat.XT Go.Proofs.YtndkmnjbjlfeaaaGreat.Given05 Go.Proofs.YtndkmnjbjlfeaaaGreat.Given04 Go.Proofs.YtndkmnjbjlfeaaaGreat.Num Go.Proofs.YtndkmnjbjlfeaaaGreat.Count05
structure Rows (p:Nat) (ss:List Nat):Prop where
 rising:ss.Pairwise (· < ·)
 odd: ∀q∈ss,iA q
 le: ∀q∈ss,q≤p
 mem:p∈ss
 closed: ∀q∈ss,∀x∈fL q,x.1=2∨x.1∈ss
 short:ss.length≤12
 needed: ∀q∈ss,q=p∨ ∃s∈ss,∃x∈fL s,x.1=q
open Classical in
theorem wy{p:Nat}(hp:iA p): ∃ss:List Nat,Rows p ss∧Ev (fun k=>eu.f k (p:Int)) (ss.map eJ,0):=by
 have hsz:=Ax hp.1 hp.2.1 hp.odd
 obtain⟨xs,l1,l2,l3,l4,l5,l6⟩:=uf 17 p [] (.inr hp) ⟨by simp,by simp,by simp⟩ (by show 0+_<1000;omega)
 rw[List.nil_append] at l3 l4 l5 l6
 have hpx:p∈xs:=l3.resolve_left (by have:=hp.1;omega)
 obtain⟨ss,hss⟩: ∃ss,ss=xs.mergeSort (fun a b=>decide (a≤b)):=⟨_,rfl⟩
 have hperm:ss.Perm xs:=hss▸List.mergeSort_perm _ _
 have hsorted:ss.Pairwise (· ≤ ·):=by
  have:=List.pairwise_mergeSort (le:=fun a b:Nat=>decide (a≤b)) (fun a b c h1 h2=>by simp only[decide_eq_true_eq] at*;omega) (fun a b=>by simp only[Bool.or_eq_true,decide_eq_true_eq];omega) xs
  rw[hss]
  exact this.imp fun h=>by simpa using h
 have hnd:ss.Nodup:=hperm.nodup_iff.2 l4.nodup
 have hk:hZ (xs.map eJ)=ss.map fun(q:Nat)=>(q:Int):=by
  refine om ((gn _).trans ?_) (kK _) ?_
  ·rw[List.map_map]
   exact(hperm.map _).symm
  ·rw[List.pairwise_map]
   exact hsorted.imp fun h=>by omega
 have hlook:(hZ (xs.map eJ)).map (look (xs.map eJ))=ss.map eJ:=by
  rw[hk,List.map_map]
  refine List.map_congr_left fun q hq=>?_
  have hq':(q:Int)∈(xs.map eJ).map fun e=>e.f0:=by
   rw[List.map_map]
   exact List.mem_map.2 ⟨q,hperm.mem_iff.1 hq,rfl⟩
  obtain⟨h1,h2⟩:=sV hq'
  obtain⟨q',_,h3⟩:=List.mem_map.1 h1
  show look (xs.map eJ) (q:Int)=eJ q
  rw[←h3] at h2 ⊢
  have h2:(q':Int)=(q:Int):=h2
  rw[show q'=q by omega]
 have hok:iw (xs.map eJ):=by
  refine⟨by rw[List.length_map];omega,?_,fun e he=>?_⟩
  ·rw[List.map_map,List.nodup_iff_pairwise_ne,List.pairwise_map]
   refine(List.nodup_iff_pairwise_ne.1 l4.nodup).imp ?_
   intro a b h h'
   have h':(a:Int)=(b:Int):=h'
   omega
  ·obtain⟨q,hq,rfl⟩:=List.mem_map.1 he
   have:=(l4.odd q hq).2.1
   show U (q:Int)
   unfold U;omega
 refine⟨ss,⟨hsorted.imp₂ (fun a b h h'=>Nat.lt_of_le_of_ne h h') (List.nodup_iff_pairwise_ne.1 hnd),fun q hq=>l4.odd q (hperm.mem_iff.1 hq),fun q hq=>l2 q (hperm.mem_iff.1 hq),hperm.mem_iff.2 hpx,fun q hq x hx=>?_,by rw[hperm.length_eq];omega,fun q hq=>?_⟩,?_⟩
 ·rcases l4.closed q (hperm.mem_iff.1 hq) x hx with e|e
  ·exact .inl e
  ·exact .inr (hperm.mem_iff.2 e)
 ·rcases l6 q (hperm.mem_iff.1 hq) with e|⟨s,hs,e⟩
  ·exact .inl e
  ·exact .inr ⟨s,hperm.mem_iff.2 hs,e⟩
 ·have O:=qQ (p:Int)
  rw[decide_eq_true hp.int] at O
  refine Ev.congr (fun k=>rfl) (Ev.bind O (dG rfl (Ev.bind l5 ?_)))
  rw[hlook]
  exact dG hok (Ev.now _)
open Classical in
theorem so{x:Int}(h: ¬kM x):Ev (fun k=>eu.f k x) ([],1):=by
 have O:=qQ x
 rw[decide_eq_false h] at O
 exact Ev.congr (fun k=>rfl) (Ev.bind O (gy (by decide) (Ev.now _)))
def i2(x:Nat×Nat):Int×Int:=((x.1:Int),(x.2:Int))
theorem sP(q:Nat):iy (eJ q)=((q:Int),(gen q:Int),(fL q).map i2):=by
 show((q:Int),(gen q:Int),(n5 (fL q)).map fO)=_
 unfold n5
 rw[List.map_map]
 rfl
theorem ym{l:List (Nat×Nat)}(h: ∀x∈l,2≤x.1∧1≤x.2):2^l.length≤prod l:=by
 induction l with
 |nil=>exact Nat.le_refl 1
 |cons x l ih=>
  have a:=ih fun y hy=>h y (List.mem_cons_of_mem _ hy)
  obtain⟨b,c⟩:=h x List.mem_cons_self
  have:2≤x.1^x.2:=by
   have h1:=Nat.pow_le_pow_right (show 0<x.1 by omega) c
   rw[Nat.pow_one] at h1
   omega
  show 2^(l.length+1)≤x.1^x.2*prod l
  rw[Nat.pow_succ,Nat.mul_comm]
  exact Nat.mul_le_mul this a
theorem lV{l:List (Nat×Nat)}(h: ∀x∈l,2≤x.1){x:Nat×Nat}(hx:x∈l):2^x.2≤prod l:=by
 have pos: ∀l:List (Nat×Nat),(∀x∈l,2≤x.1)→1≤prod l:=by
  intro l
  induction l with
  |nil=>intro _;exact Nat.le_refl 1
  |cons y l ih=>intro h;exact Nat.mul_pos (Nat.pow_pos (by have:=h y List.mem_cons_self;omega)) (ih fun z hz=>h z (List.mem_cons_of_mem _ hz))
 induction l with
 |nil=>cases hx
 |cons y l ih=>
  show 2^x.2≤y.1^y.2*prod l
  have hl: ∀z∈l,2≤z.1:=fun z hz=>h z (List.mem_cons_of_mem _ hz)
  rcases List.mem_cons.1 hx with rfl|hx
  ·have:=Nat.pow_le_pow_left (h x List.mem_cons_self) x.2
   exact Nat.le_trans this (Nat.le_mul_of_pos_right _ (pos l hl))
  ·have:=ih hl hx
   exact Nat.le_trans this (Nat.le_mul_of_pos_left _ (Nat.pow_pos (by have:=h y List.mem_cons_self;omega)))
theorem nY{e:Nat}(h:2^e<65536):e≤62:=by
 refine Nat.le_of_not_lt fun c=>?_
 have:=Nat.pow_le_pow_right (show 0<2 by decide) (show 16≤e by omega)
 rw[show 2^16=65536 by decide] at this
 omega
theorem sk{A:Int→Bool}(m:Nat): ∀(l:List (Nat×Nat)) (q n:Nat),(∀x∈l,1≤x.2∧x.2≤62∧A (x.1:Int)=true∧q<x.1)→l.Pairwise (fun x y=>x.1<y.1)→n*prod l=m→wr A (m:Int) (q:Int) (l.map i2) (n:Int)=true
 |[],q,n,_,_,h=>by
  have:n=m:=by rw[←h];exact(Nat.mul_one n).symm
  subst this
  exact beq_self_eq_true _
 |x::l,q,n,hx,hp,h=>by
  obtain⟨h1,h2,h3,h4⟩:=hx x List.mem_cons_self
  obtain⟨hp1,hp2⟩:=List.pairwise_cons.1 hp
  have IH:=sk (A:=A) m l x.1 (n*x.1^x.2) (fun y hy=>⟨(hx y (List.mem_cons_of_mem _ hy)).1,(hx y (List.mem_cons_of_mem _ hy)).2.1,(hx y (List.mem_cons_of_mem _ hy)).2.2.1,hp1 y hy⟩) hp2 (by rw[Nat.mul_assoc];exact h)
  show(((decide ((1:Int)≤(x.2:Int))&&decide ((x.2:Int)≤62))&&(decide ((q:Int)<(x.1:Int))&&A (x.1:Int)))&&wr A (m:Int) (x.1:Int) (l.map i2) ((n:Int)*(x.1:Int)^((x.2:Int)).toNat))=true
  rw[Int.toNat_natCast,←Int.natCast_pow,←Int.natCast_mul,IH,h3,decide_eq_true (by omega),decide_eq_true (by omega),decide_eq_true (by omega)]
  rfl
theorem rD{A:Int→Bool}{p:Nat}(hp:iA p)(hA: ∀x∈fL p,x.1=2∨A (x.1:Int)=true):dY A (p:Int) ((fL p).map i2)=true:=by
 have h3:=hp.1
 have h6:=hp.2.1
 obtain⟨f1,f2,f3⟩:=(ja hp).1
 have two:2∣prod (fL p):=by rw[f3];have:=hp.odd;exact Nat.dvd_of_mod_eq_zero (by omega)
 obtain⟨y,hy,hd⟩:=cK.two.kL _ two
 have y2:y.1=2:=by
  rcases(f1 y hy).1.2 2 hd with e|e
  ·omega
  ·exact e.symm
 have hlen:=ym (l:=fL p) fun x hx=>⟨(f1 x hx).1.1,(f1 x hx).2.2⟩
 have hexp: ∀x∈fL p,x.2≤62:=fun x hx=>nY (by
  have:=lV (l:=fL p) (fun z hz=>(f1 z hz).1.1) hx
  omega)
 have hl16:(fL p).length≤16:=by
  refine Nat.le_of_not_lt fun c=>?_
  have:=Nat.pow_le_pow_right (show 0<2 by decide) (show 16≤(fL p).length by omega)
  rw[show 2^16=65536 by decide] at this
  omega
 have hpI:(p:Int)-1=((p-1:Nat):Int):=by omega
 cases hf:fL p with
 |nil=>rw[hf] at hy;cases hy
 |cons x t=>
  rw[hf] at f1 f2 f3 hy hexp hl16 hA
  obtain⟨g1,g2⟩:=List.pairwise_cons.1 f2
  have x2:x.1=2:=by
   rcases List.mem_cons.1 hy with e|e
   ·rw[←e];exact y2
   ·have:=g1 y e
    have:=(f1 x List.mem_cons_self).1.1
    omega
  have hx:=f1 x List.mem_cons_self
  have W:=sk (A:=A) (p-1) t 2 (2^x.2) (fun z hz=>⟨(f1 z (List.mem_cons_of_mem _ hz)).2.2,hexp z (List.mem_cons_of_mem _ hz),(hA z (List.mem_cons_of_mem _ hz)).resolve_left (by have:=g1 z hz;omega),by have:=g1 z hz;omega⟩) g2 (by rw[←f3,←x2];rfl)
  rw[List.map_cons,eA]
  show((decide ((i2 x::t.map i2).length≤16)&&((x.1:Int)==2))&&(decide ((1:Int)≤(x.2:Int))&&decide ((x.2:Int)≤62))&&wr A ((p:Int)-1) 2 (t.map i2) (2^((x.2:Int)).toNat))=true
  have e1:((x.1:Int)==2)=true:=by rw[x2];rfl
  have e2:=hexp x List.mem_cons_self
  have W':wr A ((p:Int)-1) 2 (t.map i2) (2^((x.2:Int)).toNat)=true:=by
   rw[hpI,Int.toNat_natCast]
   have:((2^x.2:Nat):Int)=(2:Int)^x.2:=Int.natCast_pow 2 x.2
   rw[←this]
   exact W
  rw[W',e1,decide_eq_true (by rw[List.length_cons,List.length_map];exact hl16),decide_eq_true (by omega),decide_eq_true (by omega)]
  rfl
theorem tp{p:Nat}(hp:iA p):ix (p:Int) (gen p:Int) ((fL p).map i2)=true:=by
 have h3:=hp.1
 obtain⟨r2,rp,hfull,_⟩:=gV hp
 obtain⟨f1,_,_⟩:=(ja hp).1
 unfold ix
 rw[Bool.and_eq_true,beq_iff_eq,Bool.not_eq_true',List.any_eq_false]
 have e1:((p:Int)-1).toNat=p-1:=by omega
 refine⟨by rw[e1,jJ];exact(hfull _).2 (Nat.dvd_refl _),fun x hx=>?_⟩
 obtain⟨y,hy,rfl⟩:=List.mem_map.1 hx
 have y2:=(f1 y hy).1.1
 have e2:(((p:Int)-1)/(i2 y).1).toNat=(p-1)/y.1:=by
  show(((p:Int)-1)/(y.1:Int)).toNat=_
  rw[show(p:Int)-1=((p-1:Nat):Int) by omega,←Int.natCast_ediv,Int.toNat_natCast]
 rw[beq_iff_eq,e2,jJ,hfull]
 intro h
 have dv:=(ja hp).1.le (by omega) hy
 have a:=Nat.div_lt_self (show 0<p-1 by omega) (show 1<y.1 by omega)
 have b:=Nat.div_pos (Nat.le_of_dvd (by omega) dv) (show 0<y.1 by omega)
 have:=Nat.le_of_dvd b h
 omega
theorem tD{p:Nat}{ss:List Nat}(h:Rows p ss): ∀i,i<ss.length→eh ((ss.map eJ).map iy) i=true:=by
 intro i hi
 have e0:(ss.map eJ).map iy=ss.map fun(q:Nat)=>((q:Int),(gen q:Int),(fL q).map i2):=by
  rw[List.map_map];exact List.map_congr_left fun q _=>sP q
 have hget:((ss.map eJ).map iy)[i]?=some ((ss[i]:Int),(gen ss[i]:Int),(fL ss[i]).map i2):=by
  rw[e0,List.getElem?_map,List.getElem?_eq_getElem hi];rfl
 unfold eh
 rw[hget]
 have hq:=h.odd ss[i] (List.getElem_mem hi)
 obtain⟨r2,rp,_,_⟩:=gV hq
 have hlt: ∀j (hj:j<i),ss[j]'(by omega)<ss[i]:=fun j hj=>List.pairwise_iff_getElem.1 h.rising j i (by omega) hi hj
 have hA: ∀x∈fL ss[i],x.1=2∨(((ss.map eJ).map iy).take i).any (fun a=>a.1==(x.1:Int))=true:=fun x hx=>by
  rcases h.closed _ (List.getElem_mem hi) x hx with e|e
  ·exact .inl e
  ·refine .inr ?_
   have hxp:=(sT hq hx).1
   obtain⟨j,hj,hje⟩:=List.mem_iff_getElem.1 e
   have hji:j<i:=by
    refine Nat.lt_of_not_le fun c=>?_
    rcases Nat.lt_or_ge i j with d|d
    ·have:=List.pairwise_iff_getElem.1 h.rising i j hi hj d;omega
    ·have:i=j:=by omega
     subst this;omega
   rw[e0,←List.map_take,List.any_map,List.any_eq_true]
   refine⟨x.1,?_,beq_self_eq_true _⟩
   rw[←hje]
   exact List.mem_take_iff_getElem.2 ⟨j,by omega,rfl⟩
 have hw:=rD (A:=fun q=>(((ss.map eJ).map iy).take i).any (fun a=>a.1==q)) hq hA
 have hf:=tp hq
 show fb _ _ (ss[i]:Int) (gen ss[i]:Int) ((fL ss[i]).map i2)=true
 unfold fb
 have hfit:fits (ss[i]:Int) (gen ss[i]:Int):=⟨by have:=hq.odd;omega,by have:=hq.1;omega,by have:=hq.2.1;omega,by omega,by omega⟩
 rw[hw,hf,decide_eq_true hfit]
 cases i with
 |zero=>rfl
 |succ i=>
  have hl:=hlt i (by omega)
  have:((((ss.map eJ).map iy).take (i+1)).getLast?.map fun a=>a.1)=some (ss[i]:Int):=by
   rw[e0,←List.map_take,List.take_succ_eq_append_getElem (by omega),List.map_append]
   simp
  rw[this]
  simp only[Bool.true_and,Bool.and_true,Bool.and_self]
  exact decide_eq_true (by omega)
theorem nW{r:Nat→Bool}(d:Nat): ∀i,(∀j,i≤j→j<i+d→r j=true)→eZ r d i=(0,0):=by
 induction d with
 |zero=>intro i _;rfl
 |succ d ih=>
  intro i h
  unfold eZ
  rw[if_pos (h i (Nat.le_refl _) (by omega))]
  exact ih (i+1) fun j a b=>h j (by omega) (by omega)
theorem kP{p:Nat}{ss:List Nat}(h:Rows p ss): ∀e∈(ss.map eJ).map iy,sS e:=by
 intro e he
 rw[List.map_map] at he
 obtain⟨q,hq,rfl⟩:=List.mem_map.1 he
 have ho:=h.odd q hq
 obtain⟨r2,rp,_,_⟩:=gV ho
 have h6:=ho.2.1
 show sS (iy (eJ q))
 rw[sP]
 refine⟨⟨by show(0:Int)≤(q:Int);omega,by show(q:Int)<_;omega⟩,⟨by show(0:Int)≤(gen q:Int);omega,by show(gen q:Int)<_;omega⟩,fun x hx=>?_⟩
 obtain⟨y,hy,rfl⟩:=List.mem_map.1 hx
 have hf:=(ja ho).1
 have:=Nat.le_of_dvd (by have:=ho.1;omega) (hf.le (by have:=ho.1;omega) hy)
 have e2:=nY (e:=y.2) (by
  have:=lV (l:=fL q) (fun z hz=>(hf.1 z hz).1.1) hy
  rw[hf.2.2] at this
  have:=ho.1
  omega)
 exact⟨⟨by show(0:Int)≤(y.1:Int);omega,by show(y.1:Int)<_;omega⟩,by show _≤(y.2:Int);omega,by show(y.2:Int)<_;omega⟩
theorem ox{p:Nat}{ss:List Nat}(h:Rows p ss):Ev (fun k=>bD.f k (ss.map eJ)) (0,0):=by
 have C:=nA (ss.map eJ) (kP h)
 have:dL ((ss.map eJ).map iy)=(0,0):=by
  unfold dL
  have hs:=h.short
  have e:((ss.map eJ).map iy).length=ss.length:=by rw[List.length_map,List.length_map]
  rw[e,if_neg (by omega)]
  exact nW _ 0 fun j _ hj=>tD h j (by omega)
 rw[this] at C
 exact C
end Go.Proofs.YtndkmnjbjlfeaaaGreat.Row05
end
section
namespace Go.Proofs.YtndkmnjbjlfeaaaGreat.XR
open Go.Proofs.YtndkmnjbjlfeaaaGreat.XS Go.Proofs.YtndkmnjbjlfeaaaGreat.XT
open Go Go.RowKit Go.Proofs.YtndkmnjbjlfeaaaGreatW.PrintWords Go.Proofs.YtndkmnjbjlfeaaaGreatW.PrintLast Go.Proofs.YtndkmnjbjlfeaaaGreatW.PrintMore Go.Proofs.YtndkmnjbjlfeaaaGreat.Given Go.Proofs.YtndkmnjbjlfeaaaGreat.Given04 Go.Proofs.YtndkmnjbjlfeaaaGreat.M Go.Proofs.YtndkmnjbjlfeaaaGreat.Mont
def cF(x:eL):bO:=⟨x.f0,x.f1⟩
def cE(e:dq):dA:=⟨e.f0,e.f1,e.f2.map cF⟩
def ig(x:eL):Int×Int:=(x.f0,x.f1)
def fU(e:dq):Int×Int×List (Int×Int):=(e.f0,e.f1,e.f2.map ig)
theorem yR(e:dq):iy (cE e)=fU e:=by
 unfold iy cE fU
 rw[List.map_map]
 rfl
theorem sn(l:List dq):(l.map cE).map iy=l.map fU:=by
 rw[List.map_map]
 exact List.map_congr_left fun e _=>yR e
theorem j6{F:List eL}{i:Nat}{x:eL}{l:List eL}(h:F.drop i=x::l):aD F (i:Int)=x∧i<F.length∧F.drop (i+1)=l:=by
 have hlt:i<F.length:=by
  refine Classical.byContradiction fun c=>?_
  rw[List.drop_of_length_le (by omega)] at h
  cases h
 rw[List.drop_eq_getElem_cons hlt] at h
 injection h with h1 h2
 refine⟨?_,hlt,h2⟩
 unfold aD
 simp[List.getD,List.getElem?_eq_getElem hlt,h1]
theorem jN{F:List dq}{i:Nat}{x:dq}{l:List dq}(h:F.drop i=x::l):ag F (i:Int)=x∧i<F.length∧F.drop (i+1)=l:=by
 have hlt:i<F.length:=by
  refine Classical.byContradiction fun c=>?_
  rw[List.drop_of_length_le (by omega)] at h
  cases h
 rw[List.drop_eq_getElem_cons hlt] at h
 injection h with h1 h2
 refine⟨?_,hlt,h2⟩
 unfold ag
 simp[List.getD,List.getElem?_eq_getElem hlt,h1]
def uV(L:List dq):Prop:=L.length<3518437208883∧ ∀e∈L,e.f2.length<8796093022208
def iw(L:List dq):Prop:=uV L∧ ∀e∈L.map fU,sS e
end Go.Proofs.YtndkmnjbjlfeaaaGreat.XR
end
section
namespace Go.Proofs.YtndkmnjbjlfeaaaGreat.XR
open Go.Proofs.YtndkmnjbjlfeaaaGreat.XS Go.Proofs.YtndkmnjbjlfeaaaGreat.XT
open Go Go.RowKit Go.Proofs.YtndkmnjbjlfeaaaGreatW.PrintWords Go.Proofs.YtndkmnjbjlfeaaaGreatW.PrintLast Go.Proofs.YtndkmnjbjlfeaaaGreatW.PrintMore Go.Proofs.YtndkmnjbjlfeaaaGreat.Given Go.Proofs.YtndkmnjbjlfeaaaGreat.Given04 Go.Proofs.YtndkmnjbjlfeaaaGreat.M Go.Proofs.YtndkmnjbjlfeaaaGreat.Mont
def gi(L:List dq)(q:Int):Bool:=L.any fun e=>e.f0==q
theorem rJ{L:List dq}{q:Int}(hL:L.length≤1000)(l:List dq): ∀i:Nat,L.drop i=l→Ev (fun k=>a7.l0 k q L (L.length:Int) i) (gi l q):=by
 induction l with
 |nil=>
  intro i hd
  have:L.length≤i:=by have:=congrArg List.length hd;simp at this;omega
  have c: ¬(i:Int)<(L.length:Int):=by omega
  refine Ev.step (f:=fun _=>some false) (fun k=>?_) (Ev.now _)
  simp only[a7.l0]
  rw[if_neg c]
 |cons x l ih=>
  intro i hd
  obtain⟨hx,hlt,hd'⟩:=jN hd
  have c:(i:Int)<(L.length:Int):=by omega
  have c0:0≤(i:Int):=by omega
  have w:wrap64 ((i:Int)+1)=((i+1:Nat):Int):=by rw[cY _ (by omega) (by omega)];omega
  have IH:=ih (i+1) hd'
  by_cases h:x.f0=q
  ·have e:gi (x::l) q=true:=by unfold gi;rw[List.any_cons,beq_iff_eq.2 h,Bool.true_or]
   rw[e]
   refine Ev.step (f:=fun _=>some true) (fun k=>?_) (Ev.now _)
   simp only[a7.l0]
   rw[if_pos c,if_pos c0,if_pos c,hx,if_pos h]
  ·have e:gi (x::l) q=gi l q:=by unfold gi;rw[List.any_cons,beq_eq_false_iff_ne.2 h,Bool.false_or]
   rw[e]
   refine Ev.step (fun k=>?_) IH
   simp only[a7.l0]
   rw[if_pos c,if_pos c0,if_pos c,hx,if_neg h,w]
theorem rj{L:List dq}(q:Int)(hL:L.length≤1000):Ev (fun k=>a7.f k L q) (gi L q):=by
 refine Ev.congr (fun k=>?_) (rJ hL L 0 rfl)
 unfold a7.f
 rfl
def gP(m:Int):List (Int×Int)→Int→Int×Bool
 |[],n=>(n,true)
 |x::l,n=>if x.2<1∨x.2>62∨x.1<2 then(0,false) else if n*x.1^x.2.toNat>m then(0,false) else gP m l (n*x.1^x.2.toNat)
theorem sD{m i Q E len:Int}{L:List eL}{T:Int→Int×Bool}(um:U m)(hQ:2≤Q)(e2:E≤62)
  (hT: ∀n,1≤n→n≤m→Ev (fun k=>an.l0 k m n L len (wrap64 (i+1))) (T n)):
  ∀(d:Nat) (c n:Int),0≤c→c+d=E→1≤n→n≤m→Ev (fun k=>an.l1 k m n c L len i Q E) (if n*Q^d>m then(0,false) else T (n*Q^d))
 |0,c,n,c0,cd,n1,nm=>by
  have q: ¬n>m:=by omega
  have q2: ¬c<E:=by omega
  rw[Int.pow_zero,Int.mul_one,if_neg q]
  refine Ev.step (fun k=>?_) (hT n n1 nm)
  simp only[an.l1]
  rw[if_neg q2]
 |d+1,c,n,c0,cd,n1,nm=>by
  have hQ0: ¬Q=0:=by omega
  have q2:c<E:=by omega
  have hw:wrap64 (c+1)=c+1:=cY _ (by omega) (by omega)
  have e:n*Q^(d+1)=n*Q*Q^d:=by rw[Int.pow_succ,Int.mul_comm (Q^d) Q,Int.mul_assoc]
  have hp:n≤n*Q:=fz (by omega) (by omega)
  have hdv:IntKind.u64.wrap (Int.tdiv m Q)=m/Q:=by
   have h0:0≤m/Q:=Int.ediv_nonneg um.1 (by omega)
   have h1:m/Q≤m:=Int.ediv_le_self _ um.1
   have h2:=um.2
   rw[dr um.1,aX _ h0 (by omega)]
  have hcmp:n>m/Q↔n*Q>m:=by
   have:=Int.le_ediv_iff_mul_le (a:=n) (b:=m) (c:=Q) (by omega)
   omega
  by_cases hb:n>m/Q
  ·have hb':n*Q>m:=hcmp.1 hb
   have:n*Q^(d+1)>m:=by
    rw[e]
    have:=fz (n:=n*Q) (by omega) (fl (q:=Q) (by omega) d)
    omega
   rw[if_pos this]
   refine Ev.step (f:=fun _=>some (0,false)) (fun k=>?_) (Ev.now _)
   simp only[an.l1]
   rw[if_pos q2,if_neg hQ0,hdv,if_pos hb]
  ·have hb':n*Q≤m:=by have:=fun h=>hb (hcmp.2 h);omega
   have hwn:IntKind.u64.wrap (n*Q)=n*Q:=aX _ (by omega) (by have:=um.2;omega)
   have IH:=sD um hQ e2 hT d (c+1) (n*Q) (by omega) (by omega) (by omega) hb'
   rw[e]
   refine Ev.step (fun k=>?_) IH
   simp only[an.l1]
   rw[if_pos q2,if_neg hQ0,hdv,if_neg hb,hwn,hw]
theorem u7{m n len i Q E:Int}{L:List eL}:Ev (fun k=>an.j1 k m n L len i true Q E) (0,false):=
 Ev.step (f:=fun _=>some (0,false)) (fun k=>by simp[an.j1]) (Ev.now _)
theorem yy{m:Int}{L:List eL}(um:U m)(hL:L.length≤1000)(l:List eL): ∀(i:Nat) (n:Int),L.drop i=l→1≤n→n≤m→
  Ev (fun k=>an.l0 k m n L (L.length:Int) i) (gP m (l.map ig) n):=by
 induction l with
 |nil=>
  intro i n hd _ _
  have:L.length≤i:=by have:=congrArg List.length hd;simp at this;omega
  have c: ¬(i:Int)<(L.length:Int):=by omega
  refine Ev.step (f:=fun _=>some (n,true)) (fun k=>?_) (Ev.now _)
  simp only[an.l0]
  rw[if_neg c]
 |cons x l ih=>
  intro i n hd n1 nm
  obtain⟨hx,hlt,hd'⟩:=j6 hd
  have c:(i:Int)<(L.length:Int):=by omega
  have c0:0≤(i:Int):=by omega
  have w:wrap64 ((i:Int)+1)=((i+1:Nat):Int):=by rw[cY _ (by omega) (by omega)];omega
  rw[List.map_cons]
  have hs:gP m (ig x::l.map ig) n=if x.f1<1∨x.f1>62∨x.f0<2 then(0,false) else if n*x.f0^x.f1.toNat>m then(0,false) else gP m (l.map ig) (n*x.f0^x.f1.toNat):=rfl
  rw[hs]
  have jT:=u7 (m:=m) (n:=n) (len:=(L.length:Int)) (i:=i) (Q:=x.f0) (E:=x.f1) (L:=L)
  by_cases h1:x.f1<1
  ·rw[if_pos (.inl h1)]
   refine Ev.step (fun k=>?_) jT
   simp only[an.l0]
   rw[if_pos c,if_pos c0,if_pos c,hx,if_pos h1]
  by_cases h2:x.f1>62
  ·rw[if_pos (.inr (.inl h2))]
   refine Ev.step (fun k=>?_) jT
   simp only[an.l0]
   rw[if_pos c,if_pos c0,if_pos c,hx,if_neg h1,if_pos h2]
  by_cases h3:x.f0<2
  ·rw[if_pos (.inr (.inr h3))]
   refine Ev.step (fun k=>?_) jT
   simp only[an.l0]
   rw[if_pos c,if_pos c0,if_pos c,hx,if_neg h1,if_neg h2,decide_eq_true h3]
  have hno: ¬(x.f1<1∨x.f1>62∨x.f0<2):=by omega
  have q2:2≤x.f0:=by omega
  have e2:x.f1≤62:=by omega
  have e3:(0:Int)+(x.f1.toNat:Nat)=x.f1:=by omega
  rw[if_neg hno]
  have L1:=sD (m:=m) (i:=i) (Q:=x.f0) (E:=x.f1) (len:=(L.length:Int)) (L:=L) (T:=gP m (l.map ig)) um q2 e2 (fun n n1 nm=>by rw[w];exact ih (i+1) n hd' n1 nm) x.f1.toNat 0 n (Int.le_refl 0) e3 n1 nm
  refine Ev.step (f:=fun k=>an.j1 k m n L (L.length:Int) i false x.f0 x.f1) (fun k=>?_) (Ev.step (fun k=>?_) L1)
  ·simp only[an.l0]
   rw[if_pos c,if_pos c0,if_pos c,hx,if_neg h1,if_neg h2,decide_eq_false h3]
  ·simp only[an.j1]
   rw[if_neg ft]
theorem xw{m:Int}{L:List eL}(um:U m)(h1:1≤m)(hL:L.length≤1000):Ev (fun k=>an.f k L m) (gP m (L.map ig) 1):=by
 refine Ev.congr (fun k=>?_) (yy um hL L 0 1 rfl (Int.le_refl 1) h1)
 unfold an.f
 rfl
def iB(A:Int→Bool):Int→List (Int×Int)→Bool
 |_,[]=>true
 |q,x::l=>(decide (q<x.1)&&A x.1)&&iB A x.1 l
theorem vz{A:Int→Bool}{m:Int}: ∀(l:List (Int×Int)) (q n:Int),2≤q→m<n→0≤n→wr A m q l n=false
 |[],q,n,_,hn,_=>by unfold wr;exact beq_eq_false_iff_ne.mpr (by omega)
 |x::l,q,n,hq,hn,h0=>by
  unfold wr
  by_cases h:q<x.1
  ·have:=fz (n:=n) h0 (fl (q:=x.1) (by omega) x.2.toNat)
   rw[vz l x.1 _ (by omega) (by omega) (by omega),Bool.and_false]
  ·rw[decide_eq_false h];simp
theorem pt{A:Int→Bool}{m:Int}: ∀(l:List (Int×Int)) (q n:Int),2≤q→0≤n→wr A m q l n=(iB A q l&&(gP m l n==(m,true)))
 |[],q,n,_,_=>by
  unfold wr iB gP
  rw[Bool.true_and]
  by_cases h:n=m
  ·rw[h];simp
  ·rw[beq_eq_false_iff_ne.mpr h,beq_eq_false_iff_ne.mpr (fun e=>h (congrArg Prod.fst e))]
 |x::l,q,n,hq,h0=>by
  unfold wr iB gP
  by_cases h:q<x.1
  ·rw[decide_eq_true h]
   cases hA:A x.1 with
   |false=>simp
   |true=>
    by_cases h1:x.2<1
    ·have c1: ¬1≤x.2:=by omega
     rw[if_pos (.inl h1),decide_eq_false c1];simp
    by_cases h2:x.2>62
    ·have c2: ¬x.2≤62:=by omega
     rw[if_pos (.inr (.inl h2)),decide_eq_false c2];simp
    have c1:1≤x.2:=by omega
    have c2:x.2≤62:=by omega
    have c3: ¬(x.2<1∨x.2>62∨x.1<2):=by omega
    have hge:=fz (n:=n) h0 (fl (q:=x.1) (by omega) x.2.toNat)
    rw[if_neg c3,decide_eq_true c1,decide_eq_true c2]
    by_cases h4:n*x.1^x.2.toNat>m
    ·rw[if_pos h4,vz l x.1 _ (by omega) h4 (by omega)];simp
    ·rw[if_neg h4,pt l x.1 _ (by omega) (by omega)];simp
  ·rw[decide_eq_false h];simp
theorem pY{A:Int→Bool}{P:Int}{x:Int×Int}{t:List (Int×Int)}:dY A P (x::t)=((decide ((x::t).length≤16)&&(x.1==2))&&(iB A x.1 t&&(gP (P-1) (x::t) 1==(P-1,true)))):=by
 rw[eA]
 unfold gP
 by_cases h:x.1=2
 ·rw[h]
  by_cases h1:x.2<1
  ·have c1: ¬1≤x.2:=by omega
   rw[if_pos (.inl h1),decide_eq_false c1];simp
  by_cases h2:x.2>62
  ·have c2: ¬x.2≤62:=by omega
   rw[if_pos (.inr (.inl h2)),decide_eq_false c2];simp
  have c1:1≤x.2:=by omega
  have c2:x.2≤62:=by omega
  have c3: ¬(x.2<1∨x.2>62∨(2:Int)<2):=by omega
  have hge:1≤(2:Int)^x.2.toNat:=fl (by omega) _
  rw[if_neg c3,decide_eq_true c1,decide_eq_true c2,Int.one_mul]
  by_cases h4:(2:Int)^x.2.toNat>P-1
  ·rw[if_pos h4,vz t 2 _ (Int.le_refl 2) h4 (by omega)];simp
  ·rw[if_neg h4,pt t 2 _ (Int.le_refl 2) (by omega)];simp
 ·rw[show(x.1==2)=false from beq_eq_false_iff_ne.mpr h];simp
end Go.Proofs.YtndkmnjbjlfeaaaGreat.XR
end
section
namespace Go.Proofs.YtndkmnjbjlfeaaaGreat.XR
open Go.Proofs.YtndkmnjbjlfeaaaGreat.XS Go.Proofs.YtndkmnjbjlfeaaaGreat.XT
open Go Go.RowKit Go.Proofs.YtndkmnjbjlfeaaaGreatW.PrintWords Go.Proofs.YtndkmnjbjlfeaaaGreatW.PrintLast Go.Proofs.YtndkmnjbjlfeaaaGreatW.PrintMore Go.Proofs.YtndkmnjbjlfeaaaGreat.Given Go.Proofs.YtndkmnjbjlfeaaaGreat.Given04 Go.Proofs.YtndkmnjbjlfeaaaGreat.M Go.Proofs.YtndkmnjbjlfeaaaGreat.Mont
section
variable {L:List dq} {a:Nat} {P G:Int} {F:List eL}
theorem rS{x1:Int}:Ev (fun k=>ae.j1 k L x1 true P G F) false:=
 Ev.step (f:=fun _=>some false) (fun k=>by simp[ae.j1]) (Ev.now _)
theorem vY{x1 x6:Int}:Ev (fun k=>ae.j3 k L x1 x6 true P G F) false:=
 Ev.step (f:=fun _=>some false) (fun k=>by simp[ae.j3]) (Ev.now _)
theorem mS:Ev (fun k=>ae.j4 k true P G F) false:=
 Ev.step (f:=fun _=>some false) (fun k=>by simp[ae.j4]) (Ev.now _)
theorem zF{x1:Int}:Ev (fun k=>ae.j0 k L x1 true P G F) false:=
 Ev.step (f:=fun _=>some false) (fun k=>by simp[ae.j0]) (Ev.now _)
theorem Al(uP:U P)(uG:U G)(hP:3≤P)(h16:F.length≤16)(hok:oU (F.map ig))(h2: ∀x∈F.map ig,2≤x.1)(l:List eL): ∀i:Nat,F.drop i=l→
  Ev (fun k=>ae.l1 k F (F.length:Int) i P G F) (!((l.map ig).any fun x=>G^((P-1)/x.1).toNat%P==1)):=by
 induction l with
 |nil=>
  intro i hd
  have:F.length≤i:=by have:=congrArg List.length hd;simp at this;omega
  have c: ¬(i:Int)<(F.length:Int):=by omega
  refine Ev.step (f:=fun _=>some true) (fun k=>?_) (Ev.now _)
  simp only[ae.l1]
  rw[if_neg c]
 |cons x l ih=>
  intro i hd
  obtain⟨hx,hlt,hd'⟩:=j6 hd
  have hxm:ig x∈F.map ig:=List.mem_map_of_mem (List.mem_of_mem_drop (show x∈F.drop i by rw[hd];exact List.mem_cons_self))
  have hx2:2≤x.f0:=h2 _ hxm
  have ux:U x.f0:=(hok _ hxm).1
  have c:(i:Int)<(F.length:Int):=by omega
  have c0:0≤(i:Int):=by omega
  have cz: ¬x.f0=0:=by omega
  have w:wrap64 ((i:Int)+1)=((i+1:Nat):Int):=by rw[cY _ (by omega) (by omega)];omega
  have wp:IntKind.u64.wrap (P-1)=P-1:=aX _ (by omega) (by have:=uP.2;omega)
  have hq0:0≤(P-1)/x.f0:=Int.ediv_nonneg (by omega) (by omega)
  have hq1:(P-1)/x.f0≤P-1:=Int.ediv_le_self _ (by omega)
  have hq2:(P-1)/x.f0<18446744073709551616:=by have:=uP.2;omega
  have wd:IntKind.u64.wrap (Int.tdiv (P-1) x.f0)=(P-1)/x.f0:=by rw[dr (by omega),aX _ hq0 hq2]
  have hp:=ky uG ⟨hq0,hq2⟩ uP (show P≠0 by omega)
  have IH:=ih (i+1) hd'
  rw[List.map_cons,List.any_cons]
  have hg:G^((P-1)/(ig x).1).toNat%P=G^((P-1)/x.f0).toNat%P:=rfl
  rw[hg]
  by_cases h:G^((P-1)/x.f0).toNat%P=1
  ·rw[h,show((1:Int)==1)=true from rfl,Bool.true_or]
   rw[h] at hp
   refine Ev.step (f:=fun k=>(br.f k G ((P-1)/x.f0) P).bind fun t177=>(if t177=1 then(some false) else(ae.l1 k F (F.length:Int) ((i+1:Nat):Int) P G F))) (fun k=>?_) (Ev.bind hp ?_)
   ·simp only[ae.l1]
    rw[if_pos c,if_pos c0,if_pos c,hx,if_neg cz,wp,wd,w]
   ·exact dG rfl (Ev.now _)
  ·rw[beq_eq_false_iff_ne.mpr h,Bool.false_or]
   refine Ev.step (f:=fun k=>(br.f k G ((P-1)/x.f0) P).bind fun t177=>(if t177=1 then(some false) else(ae.l1 k F (F.length:Int) ((i+1:Nat):Int) P G F))) (fun k=>?_) (Ev.bind hp ?_)
   ·simp only[ae.l1]
    rw[if_pos c,if_pos c0,if_pos c,hx,if_neg cz,wp,wd,w]
   ·exact gy h IH
theorem oh{m:Int}: ∀(l:List (Int×Int)) (n:Int),(gP m l n).2=true→ ∀x∈l,2≤x.1
 |[],_,_=>by simp
 |y::l,n,h=>by
  unfold gP at h
  by_cases c:y.2<1∨y.2>62∨y.1<2
  ·rw[if_pos c] at h;exact absurd h ft
  rw[if_neg c] at h
  by_cases c2:n*y.1^y.2.toNat>m
  ·rw[if_pos c2] at h;exact absurd h ft
  rw[if_neg c2] at h
  intro x hx
  rcases List.mem_cons.1 hx with rfl|hx
  ·omega
  ·exact oh l _ h x hx
def qa(P G:Int)(l:List (Int×Int)):Bool:=(gP (P-1) l 1==(P-1,true))&&(decide (2≤G∧G<P)&&ix P G l)
theorem xl{x1:Int}(uP:U P)(uG:U G)(hP:3≤P)(h16:F.length≤16)(hok:oU (F.map ig)):Ev (fun k=>ae.l0 k L x1 (F.length:Int) P G F) (qa P G (F.map ig)):=by
 have wp:IntKind.u64.wrap (P-1)=P-1:=aX _ (by omega) (by have:=uP.2;omega)
 have um:U (P-1):=by unfold U at*;omega
 have m1:1≤P-1:=by omega
 have hpr:=xw (L:=F) um m1 (by omega)
 have hz:P≠0:=by omega
 have hpw:=ky uG um uP hz
 refine Ev.step (f:=fun k=>(an.f k F (P-1)).bind fun bt172=>(if bt172.2=true then(if bt172.1=P-1 then(if G<2 then(ae.j4 k true P G F) else(if G≥P then(ae.j4 k true P G F) else((br.f k G (P-1) P).bind fun t174=>(ae.j4 k (t174 !=1) P G F)))) else(ae.j4 k true P G F)) else(ae.j4 k true P G F))) (fun k=>?_) (Ev.bind hpr ?_)
 ·simp only[ae.l0]
  rw[if_neg (Int.lt_irrefl _),wp]
 unfold qa
 have h2:=oh (m:=P-1) (F.map ig) 1
 generalize gP (P-1) (F.map ig) 1=R at*
 obtain⟨n,b⟩:=R
 cases b with
 |false=>
  have e:((n,false)==(P-1,true))=false:=beq_eq_false_iff_ne.mpr (fun e=>ft (congrArg Prod.snd e))
  rw[e,Bool.false_and]
  exact gy ft mS
 |true=>
  refine dG rfl ?_
  by_cases hn:n=P-1
  ·subst hn
   rw[show((P-1,true)==(P-1,true))=true from beq_self_eq_true _,Bool.true_and]
   refine dG rfl ?_
   by_cases c1:G<2
   ·have: ¬(2≤G∧G<P):=by omega
    rw[decide_eq_false this,Bool.false_and]
    exact dG c1 mS
   refine gy c1 ?_
   by_cases c2:G≥P
   ·have: ¬(2≤G∧G<P):=by omega
    rw[decide_eq_false this,Bool.false_and]
    exact dG c2 mS
   have c3:2≤G∧G<P:=by omega
   refine gy c2 ?_
   rw[decide_eq_true c3,Bool.true_and]
   refine Ev.bind hpw ?_
   unfold ix
   by_cases c4:G^(P-1).toNat%P=1
   ·rw[c4,show((1:Int)==1)=true from rfl,Bool.true_and]
    refine Ev.step (f:=fun k=>ae.l1 k F (F.length:Int) 0 P G F) (fun k=>?_) (Al uP uG hP h16 hok (h2 rfl) F 0 rfl)
    simp only[ae.j4]
    rw[if_neg (show¬((1:Int) !=1)=true by decide)]
   ·rw[beq_eq_false_iff_ne.mpr c4,Bool.false_and,show(G^(P-1).toNat%P !=1)=true by rw[bne,beq_eq_false_iff_ne.mpr c4];rfl]
    exact mS
  ·have e:((n,true)==(P-1,true))=false:=beq_eq_false_iff_ne.mpr (fun e=>hn (congrArg Prod.fst e))
   rw[e,Bool.false_and]
   exact gy hn mS
theorem Ap(ha:a≤L.length)(hL:L.length≤1000)(uP:U P)(uG:U G)(hP:3≤P)(h16:F.length≤16)(hok:oU (F.map ig))(l:List eL): ∀(i:Nat) (q:Int),F.drop i=l→1≤i→i≤F.length→(aD F ((i-1:Nat):Int)).f0=q→
  Ev (fun k=>ae.l0 k L (a:Int) i P G F) (iB (gi (L.take a)) q (l.map ig)&&qa P G (F.map ig)):=by
 induction l with
 |nil=>
  intro i q hd i1 il hq
  have:F.length≤i:=by have:=congrArg List.length hd;simp at this;omega
  have e:i=F.length:=by omega
  subst e
  rw[List.map_nil,iB,Bool.true_and]
  exact xl uP uG hP h16 hok
 |cons x l ih=>
  intro i q hd i1 il hq
  obtain⟨hx,hlt,hd'⟩:=j6 hd
  have c:(i:Int)<(F.length:Int):=by omega
  have c0:0≤(i:Int):=by omega
  have w1:wrap64 ((i:Int)-1)=((i-1:Nat):Int):=by rw[cY _ (by omega) (by omega)];omega
  have p1:0≤((i-1:Nat):Int):=by omega
  have p2:((i-1:Nat):Int)<(F.length:Int):=by omega
  have w:wrap64 ((i:Int)+1)=((i+1:Nat):Int):=by rw[cY _ (by omega) (by omega)];omega
  have a0:0≤(a:Int):=by omega
  have a1:(a:Int)≤(L.length:Int):=by omega
  have lt:(L.take a).length≤1000:=by simp;omega
  rw[List.map_cons,iB]
  by_cases h3:x.f0≤q
  ·have n3: ¬q<(ig x).1:=by show¬q<x.f0;omega
   rw[decide_eq_false n3,Bool.false_and,Bool.false_and,Bool.false_and]
   refine Ev.step (fun k=>?_) (vY (L:=L) (x1:=(a:Int)) (x6:=(i:Int)) (P:=P) (G:=G) (F:=F))
   simp only[ae.l0]
   rw[if_pos c,if_pos c0,w1,if_pos p1,if_pos p2,hx,hq,if_pos h3]
  have n3:q<(ig x).1:=by show q<x.f0;omega
  have hc:=rj (L:=L.take a) x.f0 lt
  have E: ∀k,ae.l0 (k+1) L (a:Int) i P G F=(a7.f k (L.take a) x.f0).bind fun t171=>(ae.j3 k L (a:Int) i (!t171) P G F):=fun k=>by
   simp only[ae.l0]
   rw[if_pos c,if_pos c0,w1,if_pos p1,if_pos p2,hx,hq,if_neg h3,if_pos a0,if_pos a1,Int.toNat_natCast]
  refine Ev.step E (Ev.bind hc ?_)
  rw[decide_eq_true n3,Bool.true_and]
  have hA:gi (L.take a) (ig x).1=gi (L.take a) x.f0:=rfl
  rw[hA]
  cases gi (L.take a) x.f0 with
  |false=>
   rw[Bool.false_and,Bool.false_and]
   exact vY
  |true=>
   rw[Bool.true_and]
   have hq':(aD F ((i+1-1:Nat):Int)).f0=(ig x).1:=by rw[show i+1-1=i from rfl,hx];rfl
   have IH:=ih (i+1) (ig x).1 hd' (by omega) (by omega) hq'
   refine Ev.step (fun k=>?_) IH
   simp only[ae.j3]
   rw[if_neg (show¬(!true)=true by decide),w]
theorem z7(ha:a≤L.length)(hL:L.length≤1000)(uP:U P)(uG:U G)(hP:3≤P)(hok:oU (F.map ig)):
  Ev (fun k=>ae.j0 k L (a:Int) false P G F) (dY (gi (L.take a)) P (F.map ig)&&(decide (2≤G∧G<P)&&ix P G (F.map ig))):=by
 match F,hok with
 |[],_=>
  rw[List.map_nil,dY,Bool.false_and]
  refine Ev.step (fun k=>?_) (rS (L:=L) (x1:=(a:Int)) (P:=P) (G:=G) (F:=[]))
  simp only[ae.j0]
  rw[if_neg ft,if_pos (by simp)]
 |x::t,hok=>
  obtain⟨F,hF⟩: ∃F,F=x::t:=⟨_,rfl⟩
  have hlen:F.length=t.length+1:=by rw[hF];rfl
  have h0:aD F 0=x:=by rw[hF];rfl
  have hd1:F.drop 1=t:=by rw[hF];rfl
  have hok':oU (F.map ig):=by rw[hF];exact hok
  clear hok
  rw[List.map_cons,pY,←List.map_cons (f:=ig) (a:=x),←hF]
  have n1: ¬(F.length:Int)<1:=by omega
  have p0:0<(F.length:Int):=by omega
  by_cases h16:(F.length:Int)>16
  ·have c: ¬(F.map ig).length≤16:=by simp;omega
   rw[decide_eq_false c,Bool.false_and,Bool.false_and,Bool.false_and]
   refine Ev.step (fun k=>?_) (rS (L:=L) (x1:=(a:Int)) (P:=P) (G:=G) (F:=F))
   simp only[ae.j0]
   rw[if_neg ft,if_neg n1,if_pos h16]
  have c:(F.map ig).length≤16:=by simp;omega
  rw[decide_eq_true c,Bool.true_and]
  have hE: ∀k,ae.j0 (k+1) L (a:Int) false P G F=ae.j1 k L (a:Int) (x.f0 !=2) P G F:=fun k=>by
   simp only[ae.j0]
   rw[if_neg ft,if_neg n1,if_neg h16,if_pos p0,h0]
  refine Ev.step hE ?_
  have hb:((ig x).1==2)=(x.f0==2):=rfl
  rw[hb]
  by_cases h2:x.f0=2
  ·rw[h2,show((2:Int)==2)=true from rfl,Bool.true_and,show((2:Int) !=2)=false from rfl]
   have hq:(aD F ((1-1:Nat):Int)).f0=(ig x).1:=by rw[show((1-1:Nat):Int)=0 from rfl,h0];rfl
   have h:=Ap (a:=a) (L:=L) (F:=F) (P:=P) (G:=G) ha hL uP uG hP (by omega) hok' t 1 (ig x).1 hd1 (Nat.le_refl 1) (by omega) hq
   have e:(iB (gi (L.take a)) (ig x).1 (t.map ig)&&qa P G (F.map ig))=(iB (gi (L.take a)) (ig x).1 (t.map ig)&&(gP (P-1) (F.map ig) 1==(P-1,true))&&(decide (2≤G∧G<P)&&ix P G (F.map ig))):=by
    unfold qa;rw[Bool.and_assoc]
   rw[e] at h
   refine Ev.step (fun k=>?_) h
   simp only[ae.j1]
   rw[if_neg ft]
   rfl
  ·rw[show(x.f0==2)=false from beq_eq_false_iff_ne.mpr h2,Bool.false_and,Bool.false_and,show(x.f0 !=2)=true by simp[bne,h2]]
   exact rS
end
theorem tZ(l:List dq):gi l=fun q=>(l.map fU).any fun a=>a.1==q:=by
 funext q
 unfold gi
 rw[List.any_map]
 rfl
theorem Aw{L:List dq}(hok: ∀e∈L.map fU,sS e)(hL:L.length≤1000){i:Nat}(hi:i<L.length):Ev (fun k=>ae.f k L (i:Int)) (eh (L.map fU) i):=by
 have hrd:ag L (i:Int)=L[i]:=by unfold ag;simp[List.getD,List.getElem?_eq_getElem hi]
 have ho:=hok (fU L[i]) (List.mem_map_of_mem (List.getElem_mem hi))
 have uP:U L[i].f0:=ho.1
 have uG:U L[i].f1:=ho.2.1
 have hF:oU (L[i].f2.map ig):=ho.2.2
 clear ho
 have q0:0≤(i:Int):=by omega
 have q1:(i:Int)<(L.length:Int):=by omega
 have w1:wrap64 ((i:Int)-1)=(i:Int)-1:=cY _ (by omega) (by omega)
 have hr:eh (L.map fU) i=fb (gi (L.take i)) ((L.take i).getLast?.map fun e=>e.f0) L[i].f0 L[i].f1 (L[i].f2.map ig):=by
  unfold eh
  rw[List.getElem?_map,List.getElem?_eq_getElem hi,Option.map_some,tZ,←List.map_take,List.getLast?_map,Option.map_map]
  rfl
 rw[hr]
 generalize hP:L[i].f0=P at*
 generalize hG:L[i].f1=G at*
 generalize hFF:L[i].f2=F at*
 have jT:=zF (L:=L) (x1:=(i:Int)) (P:=P) (G:=G) (F:=F)
 unfold fb
 by_cases c1:P%2=0
 ·have: ¬fits P G:=by unfold fits;omega
  rw[decide_eq_false this,Bool.false_and,Bool.false_and]
  refine Ev.congr (fun k=>?_) jT
  unfold ae.f
  rw[if_pos q0,if_pos q1,hrd,hP,hG,hFF,bH uP.1,if_pos c1]
 by_cases c2:P<3
 ·have: ¬fits P G:=by unfold fits;omega
  rw[decide_eq_false this,Bool.false_and,Bool.false_and]
  refine Ev.congr (fun k=>?_) jT
  unfold ae.f
  rw[if_pos q0,if_pos q1,hrd,hP,hG,hFF,bH uP.1,if_neg c1,if_pos c2]
 by_cases c3:P>9223372036854775807
 ·have: ¬fits P G:=by unfold fits;omega
  rw[decide_eq_false this,Bool.false_and,Bool.false_and]
  refine Ev.congr (fun k=>?_) jT
  unfold ae.f
  rw[if_pos q0,if_pos q1,hrd,hP,hG,hFF,bH uP.1,if_neg c1,if_neg c2,if_pos c3]
 have hj:=z7 (L:=L) (a:=i) (P:=P) (G:=G) (F:=F) (by omega) hL uP uG (by omega) hF
 have hfit:decide (fits P G)=decide (2≤G∧G<P):=by
  apply decide_eq_decide.2
  unfold fits;omega
 have hcomm: ∀b c d:Bool,(d&&(b&&c))=((b&&true)&&(d&&c)):=fun b c d=>by cases b<;>cases c<;>cases d<;>rfl
 rw[hfit]
 by_cases z:i=0
 ·subst z
  have:(L.take 0).getLast?.map (fun e=>e.f0)=none:=by simp
  rw[this]
  rw[hcomm] at hj
  refine Ev.congr (fun k=>?_) hj
  unfold ae.f
  rw[if_pos q0,if_pos q1,hrd,hP,hG,hFF,bH uP.1,if_neg c1,if_neg c2,if_neg c3,if_neg (show¬((0:Nat):Int)>0 by decide)]
 ·have hi1:i-1<L.length:=by omega
  have hlast:(L.take i).getLast?.map (fun e=>e.f0)=some L[i-1].f0:=by
   have hlen:(L.take i).length=i:=by simp;omega
   rw[List.getLast?_eq_getElem?,hlen,List.getElem?_take_of_lt (by omega),List.getElem?_eq_getElem hi1]
   rfl
  have hrd1:ag L ((i:Int)-1)=L[i-1]:=by
   rw[show(i:Int)-1=((i-1:Nat):Int) by omega]
   unfold ag;simp[List.getD,List.getElem?_eq_getElem hi1]
  have r0:(i:Int)>0:=by omega
  have r1:0≤(i:Int)-1:=by omega
  have r2:(i:Int)-1<(L.length:Int):=by omega
  rw[hlast]
  show Ev (fun k=>ae.f k L (i:Int)) ((decide (2≤G∧G<P)&&decide (L[i-1].f0<P))&&(dY (gi (L.take i)) P (F.map ig)&&ix P G (F.map ig)))
  by_cases c4:L[i-1].f0≥P
  ·have n4: ¬L[i-1].f0<P:=by omega
   rw[decide_eq_false n4,Bool.and_false,Bool.false_and]
   refine Ev.congr (fun k=>?_) jT
   unfold ae.f
   rw[if_pos q0,if_pos q1,hrd,hP,hG,hFF,bH uP.1,if_neg c1,if_neg c2,if_neg c3,if_pos r0,w1,if_pos r1,if_pos r2,hrd1,decide_eq_true c4]
  ·have n4:L[i-1].f0<P:=by omega
   rw[decide_eq_true n4]
   rw[hcomm] at hj
   refine Ev.congr (fun k=>?_) hj
   unfold ae.f
   rw[if_pos q0,if_pos q1,hrd,hP,hG,hFF,bH uP.1,if_neg c1,if_neg c2,if_neg c3,if_pos r0,w1,if_pos r1,if_pos r2,hrd1,decide_eq_false c4]
theorem qG{L:List dq}(hok: ∀e∈L.map fU,sS e)(hL:L.length≤1000): ∀(d i:Nat),i+d=L.length→Ev (fun k=>bc.l0 k L (L.length:Int) i) (eZ (eh (L.map fU)) d i):=by
 intro d
 induction d with
 |zero=>
  intro i hi
  have c: ¬(i:Int)<(L.length:Int):=by omega
  refine Ev.step (f:=fun _=>some (0,0)) (fun k=>?_) (Ev.now _)
  simp only[bc.l0]
  rw[if_neg c]
 |succ d ih=>
  intro i hi
  have q1:(i:Int)<(L.length:Int):=by omega
  have w:wrap64 ((i:Int)+1)=((i+1:Nat):Int):=by rw[cY _ (by omega) (by omega)];omega
  have E:=Aw hok hL (i:=i) (by omega)
  have IH:=ih (i+1) (by omega)
  refine Ev.step (f:=fun k=>(ae.f k L (i:Int)).bind fun t178=>(if t178=true then(bc.l0 k L (L.length:Int) ((i+1:Nat):Int)) else(some ((i:Int),3)))) (fun k=>?_) (Ev.bind E ?_)
  ·simp only[bc.l0]
   rw[if_pos q1,w]
  ·unfold eZ
   cases eh (L.map fU) i with
   |true=>exact dG rfl IH
   |false=>exact gy ft (Ev.now _)
theorem qe{L:List dq}(hok: ∀e∈L.map fU,sS e):Ev (fun k=>bc.f k L) (dL (L.map fU)):=by
 unfold dL
 rw[List.length_map]
 by_cases h:(L.length:Int)>32
 ·rw[if_pos h]
  refine Ev.congr (fun k=>?_) (Ev.now _)
  unfold bc.f
  rw[if_pos h]
 ·rw[if_neg h]
  refine Ev.congr (fun k=>?_) (qG hok (by omega) L.length 0 (by omega))
  unfold bc.f
  rw[if_neg h]
  rfl
end Go.Proofs.YtndkmnjbjlfeaaaGreat.XR
end
section
namespace Go.Proofs.YtndkmnjbjlfeaaaGreat.XK
open Go.RowKit Go.Proofs.YtndkmnjbjlfeaaaGreat.Given Go.Proofs.YtndkmnjbjlfeaaaGreat.Row05 Go.Proofs.YtndkmnjbjlfeaaaGreat.XS Go.Proofs.YtndkmnjbjlfeaaaGreat.XT Go.Proofs.YtndkmnjbjlfeaaaGreat.XR Go.Proofs.YtndkmnjbjlfeaaaGreat.F06 Go.Proofs.YtndkmnjbjlfeaaaGreatW.PrintWords Go.Proofs.YtndkmnjbjlfeaaaGreatW.PrintLast Go.Proofs.YtndkmnjbjlfeaaaGreatW.PrintMore
attribute [local go_sem] bU bS ct cr bw bz bP bT
set_option linter.unusedVariables false
set_option linter.unusedSimpArgs false
noncomputable def fm.f(k:Nat)(a0:Int):Option ((List (cn))×Int):=(eu.f k a0).bind fun bt101=>(if bt101.2=0 then((ew.f k bt101.1 a0).bind fun bt105=>(some (bt105.1,bt105.2))) else(some (([]:List (cn)),bt101.2)))
set_option maxHeartbeats 8000000 in
set_option maxRecDepth 100000 in
theorem fm.calls(k:Nat)(a0:Int)(r1:List (cn))(r2:Int)(w:World)(h:fm.f k a0=some (r1,r2)):
  Calls Tryz.prog 48 #[.int .u64 a0] w fun e w'=> ∃v0_:Value,e= .returned (.tuple #[bh v0_, .int .i64 r2])∧Kd.R fB 97 w' w.heap.size (fun _=>True) v0_ r1∧Below w.heap.size w w':=by
 have HB:=aa.mk (Below.refl w.heap.size w)
 have H:=h;unfold fm.f at H
 clear h
 replace H:=Option.bind_eq_some_iff.mp H
 obtain⟨⟨t101,t102⟩,A20,H⟩:=H
 (try dsimp only at H)
 have A2:=aa.mk A20
 clear A20
 by_cases c3:t102=0
 ·rw[if_pos c3] at H
  have c3b0:=beq_iff_eq.mpr c3
  have c3b1:=bne_eq_false_iff_eq.mpr c3
  clear c3
  replace H:=Option.bind_eq_some_iff.mp H
  obtain⟨⟨t105,t106⟩,A40,H⟩:=H
  (try dsimp only at H)
  have A4:=aa.mk A40
  clear A40
  simp only[Option.some.injEq,Prod.mk.injEq] at H
  obtain⟨rfl,rfl⟩:=H
  go_enter Tryz.func48,Tryz.ntmps48
  go_wp2_with (first|(refine fh 8 Tryz.func88 #[.int .u64 a0] rfl ?_;(with_reducible refine(eu.calls k a0 t101 t102 _ A2.out).mono ?_);rintro e w5 ⟨v103,rfl,ho0,hb⟩;refine⟨_,rfl,?_⟩;have n0_:=aa.mk (Kd.kT ho0 (ai ak));have n1_:=aa.mk (ah ak hb);clear HB;have HO104:=n0_;have HB:=n1_;clear n0_ n1_;(try clear ho0);obtain⟨Ao6,co6,eo6⟩:=Kd.oQ HO104.out;subst eo6)|(refine fh 16 Tryz.func51 #[.slice Ao6 t101.length co6, .int .u64 a0] rfl ?_;(with_reducible refine(ew.calls k _ _ t101 a0 t105 t106 _ ?side1 ?side2 A4.out).mono ?_);(case side1=>repeat(first|exact(Kd.iS HO104.out).2.2|(with_reducible refine Kd.dB ?_ _)|(with_reducible refine Kd.dQ ?_ _)|(with_reducible refine Kd.eX ?_)));(case side2=>exact(Kd.iS HO104.out).2.1);rintro e w7 ⟨v107,rfl,ho0,hb⟩;refine⟨_,rfl,?_⟩;have n0_:=aa.mk (Kd.ir (by(with_reducible repeat(first|apply Kd.gh|apply Kd.gg|apply Kd.ib));exact HO104.out) hb);have n1_:=aa.mk (Kd.bN ho0 (ai ak));have n2_:=aa.mk (ah ak hb);clear HO104;clear HB;have HO104:=n0_;have HO108:=n1_;have HB:=n2_;clear n0_ n1_ n2_;(try clear ho0)))
  go_ret2
  exact⟨_,a8,bK HO108.out,ak⟩
 ·rw[if_neg c3] at H
  have c3b0:=beq_eq_false_iff_ne.mpr c3
  have c3b1:=bne_iff_ne.mpr c3
  simp only[Option.some.injEq,Prod.mk.injEq] at H
  obtain⟨rfl,rfl⟩:=H
  go_enter Tryz.func48,Tryz.ntmps48
  go_wp2_with (first|(refine fh 8 Tryz.func88 #[.int .u64 a0] rfl ?_;(with_reducible refine(eu.calls k a0 t101 t102 _ A2.out).mono ?_);rintro e w8 ⟨v103,rfl,ho0,hb⟩;refine⟨_,rfl,?_⟩;have n0_:=aa.mk (Kd.kT ho0 (ai ak));have n1_:=aa.mk (ah ak hb);clear HB;have HO104:=n0_;have HB:=n1_;clear n0_ n1_;(try clear ho0)))
  go_ret2
  exact⟨(.slice none 0 0),a8,tO,ak⟩
noncomputable def dT.f(k:Nat)(a0:Int):Option ((List (cn))×Int):=(eM.f a0).bind fun bt109=>(if bt109.2=0 then(some (([]:List (cn)),1)) else((ew.f k bt109.1 bt109.2).bind fun bt113=>(some (bt113.1,bt113.2))))
set_option maxHeartbeats 8000000 in
set_option maxRecDepth 100000 in
theorem dT.calls(k:Nat)(a0:Int)(r1:List (cn))(r2:Int)(w:World)(h:dT.f k a0=some (r1,r2)):
  Calls Tryz.prog 50 #[.int .i64 a0] w fun e w'=> ∃v0_:Value,e= .returned (.tuple #[bh v0_, .int .i64 r2])∧Kd.R fB 97 w' w.heap.size (fun _=>True) v0_ r1∧Below w.heap.size w w':=by
 have HB:=aa.mk (Below.refl w.heap.size w)
 have H:=h;unfold dT.f at H
 clear h
 replace H:=Option.bind_eq_some_iff.mp H
 obtain⟨⟨t109,t110⟩,A20,H⟩:=H
 (try dsimp only at H)
 have A2:=aa.mk A20
 clear A20
 by_cases c3:t110=0
 ·rw[if_pos c3] at H
  have c3b0:=beq_iff_eq.mpr c3
  have c3b1:=bne_eq_false_iff_eq.mpr c3
  clear c3
  simp only[Option.some.injEq,Prod.mk.injEq] at H
  obtain⟨rfl,rfl⟩:=H
  go_enter Tryz.func50,Tryz.ntmps50
  go_wp2_with (first|(refine fh 8 Tryz.func92 #[.int .i64 a0] rfl ?_;(with_reducible refine(eM.calls a0 t109 t110 _ A2.out).mono ?_);rintro e w4 ⟨v111,rfl,ho0,hb⟩;refine⟨_,rfl,?_⟩;have n0_:=aa.mk (Kd.kT ho0 (ai ak));have n1_:=aa.mk (ah ak hb);clear HB;have HO112:=n0_;have HB:=n1_;clear n0_ n1_;(try clear ho0)))
  go_ret2
  exact⟨(.slice none 0 0),a8,tO,ak⟩
 ·rw[if_neg c3] at H
  have c3b0:=beq_eq_false_iff_ne.mpr c3
  have c3b1:=bne_iff_ne.mpr c3
  replace H:=Option.bind_eq_some_iff.mp H
  obtain⟨⟨t113,t114⟩,A50,H⟩:=H
  (try dsimp only at H)
  have A5:=aa.mk A50
  clear A50
  simp only[Option.some.injEq,Prod.mk.injEq] at H
  obtain⟨rfl,rfl⟩:=H
  go_enter Tryz.func50,Tryz.ntmps50
  go_wp2_with (first|(refine fh 8 Tryz.func92 #[.int .i64 a0] rfl ?_;(with_reducible refine(eM.calls a0 t109 t110 _ A2.out).mono ?_);rintro e w6 ⟨v111,rfl,ho0,hb⟩;refine⟨_,rfl,?_⟩;have n0_:=aa.mk (Kd.kT ho0 (ai ak));have n1_:=aa.mk (ah ak hb);clear HB;have HO112:=n0_;have HB:=n1_;clear n0_ n1_;(try clear ho0);obtain⟨Ao7,co7,eo7⟩:=Kd.oQ HO112.out;subst eo7)|(refine fh 15 Tryz.func51 #[.slice Ao7 t109.length co7, .int .u64 t110] rfl ?_;(with_reducible refine(ew.calls k _ _ t109 t110 t113 t114 _ ?side1 ?side2 A5.out).mono ?_);(case side1=>repeat(first|exact(Kd.iS HO112.out).2.2|(with_reducible refine Kd.dB ?_ _)|(with_reducible refine Kd.dQ ?_ _)|(with_reducible refine Kd.eX ?_)));(case side2=>exact(Kd.iS HO112.out).2.1);rintro e w8 ⟨v115,rfl,ho0,hb⟩;refine⟨_,rfl,?_⟩;have n0_:=aa.mk (Kd.ir (by(with_reducible repeat(first|apply Kd.gh|apply Kd.gg|apply Kd.ib));exact HO112.out) hb);have n1_:=aa.mk (Kd.bN ho0 (ai ak));have n2_:=aa.mk (ah ak hb);clear HO112;clear HB;have HO112:=n0_;have HO116:=n1_;have HB:=n2_;clear n0_ n1_ n2_;(try clear ho0)))
  go_ret2
  exact⟨_,a8,bK HO116.out,ak⟩
end Go.Proofs.YtndkmnjbjlfeaaaGreat.XK
end
section
namespace Go.Proofs.YtndkmnjbjlfeaaaGreat.F06
open Go Go.RowKit Go.Proofs.YtndkmnjbjlfeaaaGreatW.PrintWords Go.Proofs.YtndkmnjbjlfeaaaGreatW.PrintLast Go.Proofs.YtndkmnjbjlfeaaaGreatW.PrintMore Go.Proofs.YtndkmnjbjlfeaaaGreat.Given Go.Proofs.YtndkmnjbjlfeaaaGreat.M Go.Proofs.YtndkmnjbjlfeaaaGreat.Mont Go.Proofs.YtndkmnjbjlfeaaaGreat.XS Go.Proofs.YtndkmnjbjlfeaaaGreat.XT Go.Proofs.YtndkmnjbjlfeaaaGreat.XR Go.Proofs.YtndkmnjbjlfeaaaGreat.Given04 Go.Proofs.YtndkmnjbjlfeaaaGreat.Given05 Go.Proofs.YtndkmnjbjlfeaaaGreat.Num
open Go.Proofs.YtndkmnjbjlfeaaaGreat.XK
open Go.Proofs.YtndkmnjbjlfeaaaGreat.Row05 (iA gen fL eJ wy so ox kP gV)
abbrev PE:=dA
abbrev RE:=dq
def aJ(F:cn):Prop:= ∃(A:Int→Bool) (prev:Option Int),fb A prev F.p F.g (F.l.map fO)=true∧Ordered F.p F.g∧sS (F.p,F.g,F.l.map fO)
theorem Ev.unique{α:Type}{g:Nat→Option α}{r s:α}(h:Ev g r)(h':Ev g s):r=s:=by
 obtain⟨K,h⟩:=h
 obtain⟨K',h'⟩:=h'
 have h1:=h (max K K') (Nat.le_max_left _ _)
 have h2:=h' (max K K') (Nat.le_max_right _ _)
 rw[h1] at h2
 exact Option.some.inj h2
theorem vX{R:List PE}{i:Nat}{x:PE}{l:List PE}(h:R.drop i=x::l):aW R (i:Int)=x∧i<R.length∧R.drop (i+1)=l:=by
 have hlt:i<R.length:=by
  refine Classical.byContradiction fun c=>?_
  rw[List.drop_of_length_le (by omega)] at h
  cases h
 rw[List.drop_eq_getElem_cons hlt] at h
 injection h with h1 h2
 refine⟨?_,hlt,h2⟩
 unfold aW
 simp[List.getD,List.getElem?_eq_getElem hlt,h1]
def kn(R:List PE)(p:Int):Int×Int×List bO×Bool:=
 match R.find? (fun e=>e.f0==p) with
 |some e=>(e.f0,e.f1,e.f2,true)
 |none=>(0,0,[],false)
theorem tI{R:List PE}{p:Int}(hL:R.length≤1000)(hs: ∀e∈R,e.f2.length≤1000000)(l:List PE): ∀i:Nat,R.drop i=l→
  Ev (fun k=>bF.l0 k p R (R.length:Int) i) (kn l p):=by
 induction l with
 |nil=>
  intro i hd
  have:R.length≤i:=by have:=congrArg List.length hd;simp at this;omega
  have c: ¬(i:Int)<(R.length:Int):=by omega
  refine Ev.step (f:=fun _=>some (0,0,[],false)) (fun k=>?_) (Ev.now _)
  simp only[bF.l0]
  rw[if_neg c]
 |cons x l ih=>
  intro i hd
  obtain⟨hx,hlt,hd'⟩:=vX hd
  have hxm:x∈R:=List.mem_of_mem_drop (show x∈R.drop i by rw[hd];exact List.mem_cons_self)
  have c:(i:Int)<(R.length:Int):=by omega
  have c0:0≤(i:Int):=by omega
  have w:wrap64 ((i:Int)+1)=((i+1:Nat):Int):=by rw[cY _ (by omega) (by omega)];omega
  have hcl:=hs x hxm
  by_cases h:x.f0=p
  ·have e:kn (x::l) p=(x.f0,x.f1,x.f2,true):=by unfold kn;rw[List.find?_cons,beq_iff_eq.2 h]
   rw[e]
   refine Ev.step (f:=fun _=>some (x.f0,x.f1,x.f2,true)) (fun k=>?_) (Ev.now _)
   simp only[bF.l0]
   rw[if_pos c,if_pos c0,if_pos c,hx,if_pos h,fS.f,if_pos hcl,Option.bind_some]
  ·have e:kn (x::l) p=kn l p:=by unfold kn;rw[List.find?_cons,beq_eq_false_iff_ne.2 h]
   rw[e]
   refine Ev.step (fun k=>?_) (ih (i+1) hd')
   simp only[bF.l0]
   rw[if_pos c,if_pos c0,if_pos c,hx,if_neg h,w]
theorem jI{R:List PE}(h:(dL (R.map iy)).2=0):(∀j,j<R.length→eh (R.map iy) j=true)∧R.length≤32:=by
 unfold dL at h
 rw[List.length_map] at h
 split at h
 ·exact absurd h (by decide)
 ·exact⟨fun j hj=>jr _ 0 h j (by omega) (by omega),by omega⟩
theorem pn{A:Int→Bool}{P:Int}{l:List (Int×Int)}(h:dY A P l=true):l.length≤16:=by
 cases l with
 |nil=>simp
 |cons x t=>
  rw[eA] at h
  simp only[Bool.and_eq_true,decide_eq_true_eq] at h
  exact h.1.1.1
theorem gw{R:List PE}(hok: ∀e∈R.map iy,sS e)(h:(dL (R.map iy)).2=0){e:PE}(he:e∈R):aJ ⟨e.f0,e.f1,e.f2⟩:=by
 obtain⟨i,hi,rfl⟩:=List.mem_iff_getElem.1 he
 have hr:=(jI h).1 i hi
 have hg:(R.map iy)[i]?=some (iy R[i]):=by rw[List.getElem?_map,List.getElem?_eq_getElem hi];rfl
 unfold eh at hr
 rw[hg] at hr
 exact⟨_,_,hr,nC h hg,hok _ (List.mem_map_of_mem (List.getElem_mem hi))⟩
theorem aJ.fits{F:cn}(h:aJ F):fits F.p F.g:=by
 obtain⟨A,prev,h,_⟩:=h
 unfold fb at h
 simp only[Bool.and_eq_true,decide_eq_true_eq] at h
 exact h.1.1
theorem aJ.m{F:cn}(h:aJ F):cy F.p:=⟨h.fits.1,h.fits.2.1,h.fits.2.2.1⟩
theorem aJ.ord{F:cn}(h:aJ F):Ordered F.p F.g:=by
 obtain⟨A,prev,_,h,_⟩:=h
 exact h
theorem aJ.whole{F:cn}(h:aJ F): ∃A,dY A F.p (F.l.map fO)=true:=by
 obtain⟨A,prev,h,_⟩:=h
 unfold fb at h
 simp only[Bool.and_eq_true] at h
 exact⟨A,h.2.1⟩
theorem aJ.short{F:cn}(h:aJ F):F.l.length≤16:=by
 obtain⟨A,h⟩:=h.whole
 have:=pn h
 rwa[List.length_map] at this
theorem aJ.uG{F:cn}(h:aJ F):U F.g:=by
 obtain⟨_,_,_,_,_,h,_⟩:=h
 exact h
def lf(R:List PE)(p:Int):List cn×Int:=
 if(dL (R.map iy)).2=0 then(match R.find? (fun e=>e.f0==p) with|some e=>([⟨e.f0,e.f1,e.f2⟩],0)|none=>([],14)) else([],(dL (R.map iy)).2)
theorem sc{R:List PE}(hok: ∀e∈R.map iy,sS e)(p:Int):Ev (fun k=>ew.f k R p) (lf R p):=by
 have C:=nA R hok
 refine Ev.congr (fun k=>rfl) (Ev.bind C ?_)
 unfold lf
 by_cases hz:(dL (R.map iy)).2=0
 ·rw[if_pos hz]
  refine dG hz ?_
  obtain⟨hr,hl⟩:=jI hz
  have hs: ∀e∈R,e.f2.length≤1000000:=fun e he=>by
   have:=(gw hok hz he).short
   have:e.f2.length≤16:=this
   omega
  refine Ev.bind (Ev.congr (f:=fun k=>(bD.f k R).bind fun c=>if c.2=0 then bF.l0 k p R (R.length:Int) 0 else some (0,0,[],false)) (fun k=>rfl) (Ev.bind C (dG hz (tI (by omega) hs R 0 rfl)))) ?_
  unfold kn
  cases hf:R.find? (fun e=>e.f0==p) with
  |none=>exact gy (by simp) (Ev.now _)
  |some e=>
   have he:=List.mem_of_find?_eq_some hf
   have hp:e.f0=p:=by have:=List.find?_some hf;simpa using this
   have hg:=gw hok hz he
   refine dG rfl (dG ⟨hp,?_,?_⟩ (Ev.now _))
   ·rw[←hp];exact hg.m
   ·exact hg.uG
 ·rw[if_neg hz]
  exact gy hz (Ev.now _)
theorem qS{R:List PE}(hok: ∀e∈R.map iy,sS e)(p:Int):(∃e,e≠0∧lf R p=([],e))∨ ∃F,lf R p=([F],0)∧aJ F∧F.p=p:=by
 unfold lf
 by_cases hz:(dL (R.map iy)).2=0
 ·rw[if_pos hz]
  cases hf:R.find? (fun e=>e.f0==p) with
  |none=>exact .inl ⟨14,by decide,rfl⟩
  |some e=>
   have he:=List.mem_of_find?_eq_some hf
   have hp:e.f0=p:=by have:=List.find?_some hf;simpa using this
   exact .inr ⟨_,rfl,gw hok hz he,hp⟩
 ·rw[if_neg hz]
  exact .inl ⟨_,hz,rfl⟩
theorem rV{p:Nat}{ss:List Nat}(h:Row05.Rows p ss):dL ((ss.map eJ).map iy)=(0,0):=
 Ev.unique (nA (ss.map eJ) (kP h)) (ox h)
theorem tX{p:Nat}{ss:List Nat}(h:Row05.Rows p ss):lf (ss.map eJ) (p:Int)=([⟨(p:Int),(gen p:Int),n5 (fL p)⟩],0):=by
 unfold lf
 rw[rV h,if_pos rfl]
 cases hf:(ss.map eJ).find? (fun e=>e.f0==(p:Int)) with
 |none=>
  have:=List.find?_eq_none.1 hf (eJ p) (List.mem_map_of_mem h.mem)
  exact absurd (beq_self_eq_true ((p:Int))) this
 |some e=>
  have he:=List.mem_of_find?_eq_some hf
  have hp:=List.find?_some hf
  obtain⟨q,hq,rfl⟩:=List.mem_map.1 he
  have hp:((q:Int)==(p:Int))=true:=hp
  rw[beq_iff_eq] at hp
  obtain rfl:q=p:=by omega
  rfl
open Classical in
theorem tC{x:Int}(h:kM x): ∃F,Ev (fun k=>fm.f k x) ([F],0)∧Ev (fun k=>aA.f k x) F.g∧F.p=x∧aJ F:=by
 obtain⟨p,rfl⟩: ∃p:Nat,x=p:=⟨x.toNat,by have:=h.1;omega⟩
 have hn:=iA.of h
 obtain⟨ss,hr,R⟩:=wy hn
 have hnew:=tX hr
 have E:=sc (kP hr) (p:Int)
 rcases qS (kP hr) (p:Int) with⟨e,he,h1⟩|⟨F,h1,hg,hp⟩
 ·rw[hnew] at h1;injection h1 with h1 _;cases h1
 ·rw[h1] at hnew E
  injection hnew with h2 _
  injection h2 with h2 _
  refine⟨F,Ev.congr (fun k=>rfl) (Ev.bind R (dG rfl (Ev.bind E (Ev.now _)))),?_,hp,hg⟩
  rw[h2]
  exact nh h (gV hn)
theorem td{x:Int}(h: ¬kM x):Ev (fun k=>fm.f k x) ([],1):=
 Ev.congr (fun k=>rfl) (Ev.bind (so h) (gy (by decide) (Ev.now _)))
def rr(P:Nat):Nat→Nat→Nat→Nat
 |0,_,_=>1%P
 |n+1,g,e=>if e=0 then 1%P else if e%2=1 then g*rr P n (g*g%P) (e/2)%P else rr P n (g*g%P) (e/2)
theorem sy {P : Nat} (n : Nat) : ∀ g e, e < 2 ^ n → rr P n g e = g ^ e % P := by
  induction n with
  | zero => intro g e h; have : e = 0 := by simpa using h
            subst this; rfl
  | succ n ih =>
    intro g e h
    unfold rr
    have hq : e / 2 < 2 ^ n := by rw [Nat.pow_succ] at h; omega
    have hs : (g * g % P) ^ (e / 2) % P = g ^ (2 * (e / 2)) % P := by rw [← Nat.pow_mod, ← Nat.pow_two, ← Nat.pow_mul]
    split
    · next h0 => subst h0; rfl
    · split
      · next h1 =>
        rw [ih _ _ hq, hs, Nat.mul_mod, Nat.mod_mod, ← Nat.mul_mod, ← Nat.pow_succ', show (2 * (e / 2)).succ = e by omega]
      · next h1 => rw [ih _ _ hq, hs, show 2 * (e / 2) = e by omega]
def vx(P G:Nat)(l:List Nat):Bool:=(rr P 64 G (P-1)==1)&& !(l.any fun x=>rr P 64 G ((P-1)/x)==1)
theorem oB{G P n:Nat}:(((G:Int)^n% (P:Int))==1)=(G^n%P==1):=by
 rw[Bool.eq_iff_iff,beq_iff_eq,beq_iff_eq]
 exact jJ G P n
theorem xk{P G:Nat}{l:List (Nat×Nat)}(h1:1≤P)(hP:P<9223372036854775808)(h:vx P G (l.map (·.1))=true):ix (P:Int) (G:Int) (l.map fun x=>((x.1:Int),(x.2:Int)))=true:=by
 unfold vx at h
 unfold ix
 have e1:((P:Int)-1).toNat=P-1:=by omega
 have c:(fun x:Nat×Nat=>rr P 64 G ((P-1)/x.1)==1)=fun x:Nat×Nat=>((G:Int)^(((P:Int)-1)/(x.1:Int)).toNat% (P:Int)==1):=by
  funext x
  have:((P:Int)-1)/(x.1:Int)=(((P-1)/x.1:Nat):Int):=by rw[Int.natCast_ediv];congr 1;omega
  rw[this,Int.toNat_natCast,oB,sy 64 _ _ (Nat.lt_of_le_of_lt (Nat.div_le_self _ _) (by omega))]
 rw[List.any_map] at h
 rw[e1,oB,List.any_map,←sy 64 _ _ (by omega)]
 simp only[Function.comp_def] at h ⊢
 rw[←c]
 exact h
def o9(L:List PE)(i:Nat):Bool:=
 match L[i]? with
 |none=>false
 |some e=>(decide (fits e.f0 e.f1)&&(match((L.map iy).take i).getLast?.map fun a=>a.1 with|none=>true|some q=>decide (q<e.f0)))&&(dY (fun q=>((L.map iy).take i).any fun a=>a.1==q) e.f0 (e.f2.map fO)&&(vx e.f0.toNat e.f1.toNat (e.f2.map fun x=>x.f0.toNat)&&decide (∀x∈e.f2,0≤x.f0∧0≤x.f1)))
theorem vU{L:List PE}{i:Nat}(h:o9 L i=true):eh (L.map iy) i=true:=by
 unfold o9 at h
 unfold eh
 rw[List.getElem?_map]
 cases he:L[i]? with
 |none=>rw[he] at h;cases h
 |some e=>
  rw[he] at h
  simp only[Bool.and_eq_true] at h
  obtain⟨⟨h1,h2⟩,h3,h4,h5⟩:=h
  have hf:fits e.f0 e.f1:=of_decide_eq_true h1
  unfold fits at hf
  have h5:=of_decide_eq_true h5
  show fb _ _ e.f0 e.f1 (e.f2.map fO)=true
  unfold fb
  rw[h1,h3,Bool.true_and,Bool.true_and]
  refine Bool.and_eq_true_iff.2 ⟨h2,?_⟩
  have:=xk (P:=e.f0.toNat) (G:=e.f1.toNat) (l:=e.f2.map fun x=>(x.f0.toNat,x.f1.toNat)) (by omega) (by omega) (by rw[List.map_map];exact h4)
  rw[Int.toNat_of_nonneg (by omega),Int.toNat_of_nonneg (by omega),List.map_map] at this
  rw[←this]
  congr 1
  refine List.map_congr_left fun x hx=>?_
  obtain⟨a,b⟩:=h5 x hx
  show(x.f0,x.f1)=(((x.f0.toNat:Nat):Int),((x.f1.toNat:Nat):Int))
  rw[Int.toNat_of_nonneg a,Int.toNat_of_nonneg b]
theorem kz{r:Nat→Bool}: ∀(d i:Nat),(∀j,i≤j→j<i+d→r j=true)→eZ r d i=(0,0)
 |0,_,_=>rfl
 |d+1,i,h=>by
  unfold eZ
  rw[h i (by omega) (by omega),if_pos rfl]
  exact kz d (i+1) fun j h1 h2=>h j (by omega) (by omega)
def AB(e:PE):Bool:=decide (U e.f0)&&(decide (U e.f1)&&decide (∀x∈e.f2,U x.f0∧ -9223372036854775808≤x.f1∧x.f1<9223372036854775808))
theorem yM{L:List PE}(h:L.all AB=true): ∀e∈L.map iy,sS e:=by
 intro e he
 obtain⟨x,hx,rfl⟩:=List.mem_map.1 he
 have:=List.all_eq_true.1 h x hx
 unfold AB at this
 simp only[Bool.and_eq_true,decide_eq_true_eq] at this
 refine⟨this.1,this.2.1,fun y hy=>?_⟩
 obtain⟨z,hz,rfl⟩:=List.mem_map.1 hy
 exact this.2.2 z hz
theorem wB{L:List PE}{p g:Int}{l:List bO}(hn:L.length≤32)(hr:(List.range L.length).all (o9 L)=true)(hok:L.all AB=true)(hf:L.find? (fun e=>e.f0==p)=some ⟨p,g,l⟩):
  Ev (fun k=>ew.f k L p) ([⟨p,g,l⟩],0)∧aJ ⟨p,g,l⟩:=by
 have hz:dL (L.map iy)=(0,0):=by
  unfold dL
  rw[List.length_map,if_neg (by omega)]
  refine kz _ _ fun j _ hj=>vU ?_
  exact List.all_eq_true.1 hr j (List.mem_range.2 (by omega))
 have e:lf L p=([⟨p,g,l⟩],0):=by
  unfold lf
  rw[hz,if_pos rfl,hf]
 have E:=sc (yM hok) p
 rw[e] at E
 exact⟨E,gw (yM hok) (by rw[hz]) (List.mem_of_find?_eq_some hf)⟩
theorem u0{i:Int}(h0:0≤i)(h5:i≤5): ∃F,Ev (fun k=>dT.f k i) ([F],0)∧jo i=(F.p,F.g,0)∧aJ F:=by
 have go: ∀{L:List PE} {p g:Int} {l:List bO},eM.f i=some (L,p)→ ¬p=0→jo i=(p,g,0)→L.length≤32→(List.range L.length).all (o9 L)=true→L.all AB=true→L.find? (fun e=>e.f0==p)=some ⟨p,g,l⟩→ ∃F,Ev (fun k=>dT.f k i) ([F],0)∧jo i=(F.p,F.g,0)∧aJ F:=by
  intro L p g l hk hp hT hn hr hok hf
  obtain⟨E,hg⟩:=wB hn hr hok hf
  refine⟨⟨p,g,l⟩,?_,hT,hg⟩
  refine Ev.congr (f:=fun k=>(ew.f k L p).bind fun r=>some (r.1,r.2)) (fun k=>?_) (Ev.bind E (Ev.now _))
  unfold dT.f
  rw[hk]
  simp only[Option.bind_some]
  rw[if_neg hp]
 rcases(show i=0∨i=1∨i=2∨i=3∨i=4∨i=5 by omega) with rfl|rfl|rfl|rfl|rfl|rfl
 ·exact go (L:=rf) (p:=4179340454199820289) (g:=3) (l:=[⟨2,57⟩,⟨29,1⟩]) rfl (by decide) rfl (by decide) (by decide+kernel) (by decide+kernel) rfl
 ·exact go (L:=rB) (p:=1945555039024054273) (g:=5) (l:=[⟨2,56⟩,⟨3,3⟩]) rfl (by decide) rfl (by decide) (by decide+kernel) (by decide+kernel) rfl
 ·exact go (L:=qV) (p:=180143985094819841) (g:=6) (l:=[⟨2,55⟩,⟨5,1⟩]) rfl (by decide) rfl (by decide) (by decide+kernel) (by decide+kernel) rfl
 ·exact go (L:=rC) (p:=754974721) (g:=11) (l:=[⟨2,24⟩,⟨3,2⟩,⟨5,1⟩]) rfl (by decide) rfl (by decide) (by decide+kernel) (by decide+kernel) rfl
 ·exact go (L:=qO) (p:=469762049) (g:=3) (l:=[⟨2,26⟩,⟨7,1⟩]) rfl (by decide) rfl (by decide) (by decide+kernel) (by decide+kernel) rfl
 ·exact go (L:=qT) (p:=167772161) (g:=3) (l:=[⟨2,25⟩,⟨5,1⟩]) rfl (by decide) rfl (by decide) (by decide+kernel) (by decide+kernel) rfl
theorem tG{i:Int}(h: ¬(0≤i∧i≤5)):Ev (fun k=>dT.f k i) ([],1):=by
 have hk:eM.f i=some ([],0):=by
  unfold eM.f
  rw[if_neg (by omega),if_neg (by omega),if_neg (by omega),if_neg (by omega),if_neg (by omega),if_neg (by omega)]
 refine Ev.congr (f:=fun _=>some ([],1)) (fun k=>?_) (Ev.now _)
 unfold dT.f
 rw[hk]
 rfl
def mV(L:List RE)(p:Int):Int×Int×Int:=
 if(L.length:Int)>40 then(0,0,13) else if(L.any fun e=>decide ((e.f2.length:Int)>20))=true then(0,0,3) else
  if(dL (L.map fU)).2=0 then(match L.find? (fun e=>e.f0==p) with|some e=>(e.f0,e.f1,0)|none=>(0,0,14)) else(0,0,(dL (L.map fU)).2)
theorem Ar{L M:List RE}{p a b:Int}(hL:L.length≤1000)(l:List RE): ∀i:Nat,L.drop i=l→
  Ev (fun k=>XO.aq.l1 k L (L.length:Int) i a b p M) (match l.find? (fun e=>e.f0==p) with|some e=>(e.f0,e.f1,0)|none=>(0,0,14)):=by
 induction l with
 |nil=>
  intro i hd
  have:L.length≤i:=by have:=congrArg List.length hd;simp at this;omega
  have c: ¬(i:Int)<(L.length:Int):=by omega
  refine Ev.step (f:=fun _=>some (0,0,14)) (fun k=>?_) (Ev.now _)
  simp only[XO.aq.l1]
  rw[if_neg c]
 |cons x l ih=>
  intro i hd
  obtain⟨hx,hlt,hd'⟩:=jN hd
  have c:(i:Int)<(L.length:Int):=by omega
  have c0:0≤(i:Int):=by omega
  have w:wrap64 ((i:Int)+1)=((i+1:Nat):Int):=by rw[cY _ (by omega) (by omega)];omega
  by_cases h:x.f0=p
  ·rw[List.find?_cons,beq_iff_eq.2 h]
   refine Ev.step (f:=fun _=>some (x.f0,x.f1,0)) (fun k=>?_) (Ev.now _)
   simp only[XO.aq.l1]
   rw[if_pos c,if_pos c0,if_pos c,hx,if_pos h]
  ·rw[List.find?_cons,beq_eq_false_iff_ne.2 h]
   refine Ev.step (fun k=>?_) (ih (i+1) hd')
   simp only[XO.aq.l1]
   rw[if_pos c,if_pos c0,if_pos c,hx,if_neg h,w]
theorem Ay{L M:List RE}{p a b:Int}{r:Int×Int×Int}(hL:L.length≤1000)(E:Ev (fun k=>(bc.f k M).bind fun c=>if c.2=0 then XO.aq.l1 k M (M.length:Int) 0 a b p M else some (0,0,c.2)) r)(l:List RE): ∀i:Nat,L.drop i=l→
  Ev (fun k=>XO.aq.l0 k L (L.length:Int) i a b p M) (if(l.any fun e=>decide ((e.f2.length:Int)>20))=true then(0,0,3) else r):=by
 induction l with
 |nil=>
  intro i hd
  have:L.length≤i:=by have:=congrArg List.length hd;simp at this;omega
  have c: ¬(i:Int)<(L.length:Int):=by omega
  rw[if_neg (by simp)]
  refine Ev.step (fun k=>?_) E
  simp only[XO.aq.l0]
  rw[if_neg c]
 |cons x l ih=>
  intro i hd
  obtain⟨hx,hlt,hd'⟩:=jN hd
  have c:(i:Int)<(L.length:Int):=by omega
  have c0:0≤(i:Int):=by omega
  have w:wrap64 ((i:Int)+1)=((i+1:Nat):Int):=by rw[cY _ (by omega) (by omega)];omega
  by_cases h:(x.f2.length:Int)>20
  ·rw[List.any_cons,decide_eq_true h,Bool.true_or,if_pos rfl]
   refine Ev.step (f:=fun _=>some (0,0,3)) (fun k=>?_) (Ev.now _)
   simp only[XO.aq.l0]
   rw[if_pos c,if_pos c0,if_pos c,hx,if_pos h]
  ·rw[List.any_cons,decide_eq_false h,Bool.false_or]
   refine Ev.step (fun k=>?_) (ih (i+1) hd')
   simp only[XO.aq.l0]
   rw[if_pos c,if_pos c0,if_pos c,hx,if_neg h,w]
theorem wF{L:List RE}(hL:iw L){kind K p:Int}(h0: ¬kind=0)(h1: ¬kind=1):Ev (fun k=>aq.f k kind K p L) (mV L p):=by
 have c: ¬(kind=1∧0≤K∧K≤5):=fun h=>h1 h.1
 refine Ev.congr (f:=fun k=>if(L.length:Int)>40 then some (0,0,13) else XO.aq.l0 k L (L.length:Int) 0 kind K p L) (fun k=>?_) ?_
 ·unfold aq.f XO.aq.f
  rw[if_neg c,if_neg h0,if_neg h1]
 unfold mV
 by_cases h:(L.length:Int)>40
 ·rw[if_pos h];exact dG h (Ev.now _)
 ·rw[if_neg h]
  refine gy h (Ay (by omega) ?_ L 0 rfl)
  refine Ev.bind (qe hL.2) ?_
  by_cases hz:(dL (L.map fU)).2=0
  ·rw[if_pos hz];exact dG hz (Ar (by omega) L 0 rfl)
  ·rw[if_neg hz];exact gy hz (Ev.now _)
theorem zn{L:List RE}(hL:iw L)(p:Int):(∃e,e≠0∧lf (L.map cE) p=([],e)∧ ∃e',e'≠0∧mV L p=(0,0,e')∧((L.length:Int)≤40→(∀x∈L,(x.f2.length:Int)≤20)→e'=e))∨ ∃F,lf (L.map cE) p=([F],0)∧mV L p=(F.p,F.g,0)∧aJ F∧(L.length:Int)≤40:=by
 have hm:=sn L
 have hok: ∀e∈(L.map cE).map iy,sS e:=by rw[hm];exact hL.2
 have key:lf (L.map cE) p=if(dL (L.map fU)).2=0 then(match L.find? (fun e=>e.f0==p) with|some e=>([⟨e.f0,e.f1,e.f2.map cF⟩],0)|none=>([],14)) else([],(dL (L.map fU)).2):=by
  unfold lf
  rw[hm,List.find?_map]
  have:((fun e:PE=>e.f0==p)∘cE)=fun e:RE=>e.f0==p:=rfl
  rw[this]
  cases L.find? (fun e=>e.f0==p)<;>rfl
 by_cases hz:(dL (L.map fU)).2=0
 ·have hz':(dL ((L.map cE).map iy)).2=0:=by rw[hm];exact hz
  have hl:=(jI hz').2
  rw[List.length_map] at hl
  have hs: ∀e∈L,(e.f2.length:Int)≤20:=fun e he=>by
   have:=(gw hok hz' (List.mem_map_of_mem he)).short
   have:(e.f2.map cF).length≤16:=this
   rw[List.length_map] at this
   omega
  have ho:mV L p=(match L.find? (fun e=>e.f0==p) with|some e=>(e.f0,e.f1,0)|none=>(0,0,14)):=by
   unfold mV
   rw[if_neg (by omega),if_neg,if_pos hz]
   rw[Bool.not_eq_true,List.any_eq_false]
   intro e he
   have:=hs e he
   simp only[decide_eq_true_eq];omega
  rw[if_pos hz] at key
  cases hf:L.find? (fun e=>e.f0==p) with
  |none=>
   rw[hf] at ho key
   exact .inl ⟨14,by decide,key,14,by decide,ho,fun _ _=>rfl⟩
  |some e=>
   rw[hf] at ho key
   exact .inr ⟨_,key,ho,gw hok hz' (List.mem_map_of_mem (List.mem_of_find?_eq_some hf)),by omega⟩
 ·rw[if_neg hz] at key
  refine .inl ⟨_,hz,key,?_⟩
  unfold mV
  split
  ·next h=>exact⟨13,by decide,rfl,fun h'=>absurd h' (by omega)⟩
  ·split
   ·next h=>
    refine⟨3,by decide,rfl,fun _ h'=>?_⟩
    rw[List.any_eq_true] at h
    obtain⟨x,hx,h⟩:=h
    have:=h' x hx
    simp only[decide_eq_true_eq] at h
    omega
   ·exact⟨_,hz,rfl,fun _ _=>rfl⟩
open Classical in
theorem qw{L:List RE}{K p:Int}:(kM p→ ∀g,Ev (fun k=>aA.f k p) g→Ev (fun k=>aq.f k 0 K p L) (p,g,0))∧(¬kM p→Ev (fun k=>aq.f k 0 K p L) (0,0,1)):=by
 have O:=sq p
 have e: ∀k,aq.f k 0 K p L=((cf.f k p).bind fun t102=>(if t102=true then((aA.f k p).bind fun t103=>(some (p,t103,0))) else(some (0,0,1)))):=fun k=>by
  unfold aq.f XO.aq.f
  rw[if_neg (by omega),if_pos rfl]
 refine⟨fun h g G=>?_,fun h=>?_⟩
 ·rw[decide_eq_true h] at O
  exact Ev.congr e (Ev.bind O (dG rfl (Ev.bind G (Ev.now _))))
 ·rw[decide_eq_false h] at O
  exact Ev.congr e (Ev.bind O (gy (by decide) (Ev.now _)))
theorem pP{L:List RE}{K p:Int}:((0≤K∧K≤5)→Ev (fun k=>aq.f k 1 K p L) (jo K))∧(¬(0≤K∧K≤5)→Ev (fun k=>aq.f k 1 K p L) (0,0,1)):=by
 refine⟨fun h=>Ev.congr (fun k=>by unfold aq.f;rw[if_pos ⟨rfl,h⟩]) (Ev.now _),fun h=>?_⟩
 refine Ev.congr (f:=fun k=>XO.aq.j0 k true) (fun k=>?_) (Ev.step (f:=fun _=>some (0,0,1)) (fun k=>?_) (Ev.now _))
 ·unfold aq.f XO.aq.f
  rw[if_neg (fun c=>h c.2),if_neg (by decide),if_pos rfl]
  by_cases c:K<0
  ·rw[if_pos c]
  ·rw[if_neg c,decide_eq_true (by omega)]
 ·simp only[XO.aq.j0]
  rw[if_pos trivial]
end Go.Proofs.YtndkmnjbjlfeaaaGreat.F06
end
section
namespace Go.Proofs.YtndkmnjbjlfeaaaGreat.F06
open Go Go.RowKit Go.Proofs.YtndkmnjbjlfeaaaGreatW.PrintWords Go.Proofs.YtndkmnjbjlfeaaaGreatW.PrintLast Go.Proofs.YtndkmnjbjlfeaaaGreatW.PrintMore Go.Proofs.YtndkmnjbjlfeaaaGreat.Given Go.Proofs.YtndkmnjbjlfeaaaGreat.M Go.Proofs.YtndkmnjbjlfeaaaGreat.Mont Go.Proofs.YtndkmnjbjlfeaaaGreat.XS Go.Proofs.YtndkmnjbjlfeaaaGreat.XT Go.Proofs.YtndkmnjbjlfeaaaGreat.XR Go.Proofs.YtndkmnjbjlfeaaaGreat.Num Go.Proofs.YtndkmnjbjlfeaaaGreat.XK
theorem Bp{α:Type}{o:Option α}{r:α}(h:o=some r):Ev (fun _=>o) r:=⟨0,fun _ _=>h⟩
theorem kx{α β:Type}{o:Option α}{f:Nat→α→Option β}{a:α}{r:β}(h:o=some a)(k:Ev (fun n=>f n a) r):Ev (fun n=>o.bind (f n)) r:=Ev.bind (Bp h) k
variable {F:cn}
theorem aJ.nat(h:aJ F): ∃P G:Nat,F.p=P∧F.g=G∧3≤P∧P<9223372036854775808∧P%2=1∧cK P∧ ∀x,G^x%P=1↔P-1∣x:=by
 have hf:=h.fits
 unfold XR.fits at hf
 have ho:=h.ord
 refine⟨F.p.toNat,F.g.toNat,by omega,by omega,by omega,by omega,by omega,ho.sM,ho.2⟩
theorem aJ.lo(h:aJ F):3≤F.p:=h.m.2.1
theorem aJ.hi(h:aJ F):F.p<9223372036854775808:=h.m.2.2
theorem aJ.uP(h:aJ F):U F.p:=⟨by have:=h.lo;omega,by have:=h.hi;omega⟩
theorem aJ.ne(h:aJ F):F.p≠0:=by have:=h.lo;omega
theorem aJ.uE(h:aJ F)(x:Int):U (x%F.p):=fu x h.uP h.ne
theorem aJ.one(h:aJ F):(1:Int)%F.p=1:=Int.emod_eq_of_lt (by omega) (by have:=h.lo;omega)
theorem ka(G P n:Nat):(G:Int)^n% (P:Int)=((G^n%P:Nat):Int):=by
 rw[Int.natCast_emod,Int.natCast_pow]
theorem aJ.AP(h:aJ F)(x:Nat):F.g^x%F.p=1↔(F.p-1).toNat∣x:=by
 obtain⟨P,G,e1,e2,h3,_,_,_,ho⟩:=h.nat
 rw[e1,e2,ka,show((P:Int)-1).toNat=P-1 by omega,←ho x]
 omega
theorem aJ.iY(h:aJ F){a b:Int}(e:a*b%F.p=0):a%F.p=0∨b%F.p=0:=by
 obtain⟨P,G,e1,_,_,_,_,hp,_⟩:=h.nat
 rw[e1] at e ⊢
 rcases hp.int (Int.dvd_of_emod_eq_zero e) with d|d
 ·exact .inl (Int.emod_eq_zero_of_dvd d)
 ·exact .inr (Int.emod_eq_zero_of_dvd d)
theorem aJ.lh(h:aJ F){a:Int}(ha:a%F.p≠0):a^(F.p-1).toNat%F.p=1:=by
 obtain⟨P,G,e1,_,h3,_,_,hp,_⟩:=h.nat
 have hlo:=h.lo
 rw[←dC]
 obtain⟨A,hA⟩: ∃A:Nat,a%F.p=A:=⟨(a%F.p).toNat,by have:=Int.emod_nonneg a h.ne;omega⟩
 have hlt:=Int.emod_lt_of_pos a (show 0<F.p by omega)
 rw[hA] at ha hlt ⊢
 rw[e1] at hlt ⊢
 rw[show((P:Int)-1).toNat=P-1 by omega,ka,hp.lh (by rw[Nat.mod_eq_of_lt (by omega)];omega)]
 rfl
theorem aJ.inv(h:aJ F){a:Int}(ha:a%F.p≠0):fo F.p a=a^(F.p-2).toNat%F.p∧fo F.p a*a%F.p=1∧fo F.p a%F.p≠0∧0≤fo F.p a∧fo F.p a<F.p:=by
 have hlo:=h.lo
 have e:(F.p-1).toNat=(F.p-2).toNat+1:=by omega
 have hf:=h.lh ha
 rw[e,Int.pow_succ] at hf
 have h0:=Int.emod_nonneg (a^(F.p-2).toNat) h.ne
 have h1:=Int.emod_lt_of_pos (a^(F.p-2).toNat) (show 0<F.p by omega)
 have h2:a^(F.p-2).toNat%F.p*a%F.p=1:=by rw[bl];exact hf
 have e1:=sU (by omega) h0 h1 h2
 rw[e1]
 refine⟨rfl,h2,fun c=>?_,h0,h1⟩
 rw[Int.emod_emod] at c
 rw[c,Int.zero_mul,Int.zero_emod] at h2
 omega
theorem aJ.zX(h:aJ F){a:Int}(ha:a%F.p=0):fo F.p a=0:=by
 have hlo:=h.lo
 refine lK fun⟨t,_,_,e⟩=>?_
 rw[Int.mul_emod,ha,Int.mul_zero,Int.zero_emod] at e
 omega
theorem aJ.cancel(h:aJ F){a b c:Int}(hc:c%F.p≠0)(e:a*c%F.p=b*c%F.p):a%F.p=b%F.p:=by
 have:(a-b)*c%F.p=0:=by rw[Int.sub_mul];exact Int.emod_eq_zero_of_dvd (M.gL e)
 rcases h.iY this with d|d
 ·exact M.fN (Int.dvd_of_emod_eq_zero d)
 ·exact absurd d hc
theorem aJ.AR(h:aJ F)(a:Int):U (fo F.p a):=by
 have hlo:=h.lo
 have hhi:=h.hi
 by_cases ha:a%F.p=0
 ·rw[h.zX ha];unfold U;omega
 ·obtain⟨_,_,_,h0,h1⟩:=h.inv ha
  unfold U;omega
def fy(F:cn)(n:Int):Int:=F.g^((F.p-1)/n).toNat%F.p
theorem oy(F:cn)(n:Int)(k:Nat):fy F n^k%F.p=F.g^(((F.p-1)/n).toNat*k)%F.p:=by
 unfold fy
 rw[dC,←Int.pow_mul]
theorem oa{p n:Int}(hp:3≤p)(hn:0<n)(hd:(p-1)%n=0):(p-1).toNat=((p-1)/n).toNat*n.toNat∧0<((p-1)/n).toNat∧0<n.toNat:=by
 have e:=Int.mul_ediv_add_emod (p-1) n
 rw[hd,Int.add_zero] at e
 have hq:0<(p-1)/n:=by
  refine Classical.byContradiction fun c=>?_
  have:=Int.mul_nonpos_of_nonneg_of_nonpos (show 0≤n by omega) (show(p-1)/n≤0 by omega)
  omega
 refine⟨?_,by omega,by omega⟩
 have e':((p-1).toNat:Int)=((((p-1)/n).toNat*n.toNat:Nat):Int):=by
  rw[Int.natCast_mul,Int.toNat_of_nonneg (by omega),Int.toNat_of_nonneg (by omega),Int.toNat_of_nonneg (by omega),Int.mul_comm]
  exact e.symm
 omega
theorem aJ.ni(h:aJ F){n:Int}(hn:0<n)(hd:(F.p-1)%n=0)(k:Nat):fy F n^k%F.p=1↔n.toNat∣k:=by
 obtain⟨e,h1,h2⟩:=oa h.lo hn hd
 rw[oy,h.AP,e]
 exact Nat.mul_dvd_mul_iff_left h1
theorem aJ.z6(h:aJ F)(n:Int):U (fy F n):=h.uE _
theorem aJ.sw(h:aJ F){n:Int}(hn:0<n)(hd:(F.p-1)%n=0):fy F n%F.p≠0:=by
 intro c
 obtain⟨_,_,h2⟩:=oa h.lo hn hd
 have:=(h.ni hn hd n.toNat).2 (Nat.dvd_refl _)
 rw[←dC,c,Int.zero_pow (by omega),Int.zero_emod] at this
 omega
theorem xL(F:cn){n:Int}(hb:n<9223372036854775808)(hn:0<n)(hd:(F.p-1)%n=0):cU.f [F] n=some (fy F n,0):=by
 unfold cU.f
 rw[if_pos hb]
 show some (if _ then _ else _)=_
 rw[if_pos ⟨hn,hd⟩]
 rfl
theorem wT(F:cn){n:Int}(hb:n<9223372036854775808)(hn: ¬(0<n∧(F.p-1)%n=0)):cU.f [F] n=some (0,4):=by
 unfold cU.f
 rw[if_pos hb]
 show some (if _ then _ else _)=_
 rw[if_neg hn]
theorem rN(F:cn){n:Int}(hb:n<9223372036854775808):cX.f [F] n=some (decide (0<n∧(F.p-1)%n=0)):=by
 unfold cX.f
 rw[if_pos (by omega)]
 show some (decide _&&decide _)=_
 rw[←Bool.decide_and]
def xI(x:Int):Nat→Int
 |0=>0
 |n+1=>xI x n+x^n
theorem sC(x:Int): ∀n:Nat,(x-1)*xI x n=x^n-1
 |0=>by simp[xI]
 |n+1=>by
  show(x-1)*(xI x n+x^n)=_
  rw[Int.mul_add,sC x n,Int.sub_mul,Int.one_mul,Int.pow_succ,Int.mul_comm (x^n) x]
  omega
theorem sQ{p x:Int}(hx:x%p=1%p): ∀n:Nat,xI x n%p=(n:Int)%p
 |0=>rfl
 |n+1=>by
  show(xI x n+x^n)%p=_
  rw[Int.add_emod,sQ hx n,←dC,hx,dC,Int.one_pow,←Int.add_emod]
  rfl
theorem aJ.vB(h:aJ F){x:Int}{n:Nat}(h1:x^n%F.p=1)(hx:x%F.p≠1):xI x n%F.p=0:=by
 have e:(x-1)*xI x n%F.p=0:=by
  rw[sC]
  exact Int.emod_eq_zero_of_dvd (M.gL (by rw[h1,h.one]))
 rcases h.iY e with d|d
 ·have:=M.fN (Int.dvd_of_emod_eq_zero d)
  rw[h.one] at this
  exact absurd this hx
 ·exact d
end Go.Proofs.YtndkmnjbjlfeaaaGreat.F06
end
section
namespace Go.Proofs.YtndkmnjbjlfeaaaGreat.XW
open Go.RowKit Go.Proofs.YtndkmnjbjlfeaaaGreat.Given Go.Proofs.YtndkmnjbjlfeaaaGreat.Row05 Go.Proofs.YtndkmnjbjlfeaaaGreat.XS Go.Proofs.YtndkmnjbjlfeaaaGreat.XT Go.Proofs.YtndkmnjbjlfeaaaGreat.XR Go.Proofs.YtndkmnjbjlfeaaaGreat.F06 Go.Proofs.YtndkmnjbjlfeaaaGreat.XK Go.Proofs.YtndkmnjbjlfeaaaGreatW.PrintWords Go.Proofs.YtndkmnjbjlfeaaaGreatW.PrintLast Go.Proofs.YtndkmnjbjlfeaaaGreatW.PrintMore
attribute [local go_sem] bU bS ct cr bw bz bP bT
set_option linter.unusedVariables false
set_option linter.unusedSimpArgs false
noncomputable def ck.j0:Nat→List (cn)→Int→Int→Bool→Option (Int×Int)
 |0,_,_,_,_=>none
 |k+1,x0,x8,x9,x29=>if x29=true then((cN.f x0 x8).bind fun t103=>(some (t103,x9))) else(some (x8,x9))
noncomputable def ck.f(k:Nat)(l0:List (cn))(a1:Int)(a2:Bool):Option (Int×Int):=if(l0.length:Int)=0 then(some (0,2)) else(if a1<1 then(some (0,1)) else(if a1>4096 then(some (0,13)) else((cU.f l0 a1).bind fun bt101=>(if bt101.2=0 then(ck.j0 k l0 bt101.1 bt101.2 a2) else(ck.j0 k l0 bt101.1 bt101.2 false)))))
set_option maxHeartbeats 8000000 in
set_option maxRecDepth 100000 in
theorem ck.calls(k:Nat)(A0:Option Addr)(c0:Nat)(l0:List (cn))(a1:Int)(a2:Bool)(r1:Int)(r2:Int)(w:World)(hr0:Kd.C fB w A0 l0.length l0)(hc0:l0.length≤c0)(h:ck.f k l0 a1 a2=some (r1,r2)):
  Calls Tryz.prog 132 #[bh (.slice A0 l0.length c0), .int .i64 a1, .bool a2] w fun e w'=>e= .returned (.tuple #[.int .u64 r1, .int .i64 r2])∧au w w':=by
 have HR0:=aa.mk hr0
 have HC0:=aa.mk hc0
 clear hr0 hc0
 have H:=h;unfold ck.f at H
 clear h
 by_cases c4:(l0.length:Int)=0
 ·rw[if_pos c4] at H
  have c4b0:=beq_iff_eq.mpr c4
  have c4b1:=bne_eq_false_iff_eq.mpr c4
  have hT_HR0:=jh A0 c0 (show l0.length=0 by omega)
  (try rw[hT_HR0])
  clear c4
  simp only[Option.some.injEq,Prod.mk.injEq] at H
  obtain⟨rfl,rfl⟩:=H
  go_enter Tryz.func132,Tryz.ntmps132
  go_wp2
  go_ret2
  exact⟨a8,dk⟩
 ·rw[if_neg c4] at H
  have c4b0:=beq_eq_false_iff_ne.mpr c4
  have c4b1:=bne_iff_ne.mpr c4
  have c4b2: ¬(l0=[]):=fun h_=>c4 (by rw[h_];rfl)
  obtain⟨aT_HR0,hT_HR0⟩:=jS A0 c0 (show¬(l0.length=0) by omega)
  (try rw[hT_HR0])
  by_cases c5:a1<1
  ·rw[if_pos c5] at H
   have c5b0:=decide_eq_true c5
   clear c5
   simp only[Option.some.injEq,Prod.mk.injEq] at H
   obtain⟨rfl,rfl⟩:=H
   go_enter Tryz.func132,Tryz.ntmps132
   go_wp2
   go_ret2
   exact⟨a8,dk⟩
  ·rw[if_neg c5] at H
   have c5b0:=decide_eq_false c5
   clear c5
   by_cases c6:a1>4096
   ·rw[if_pos c6] at H
    have c6b0:=decide_eq_true c6
    clear c6
    simp only[Option.some.injEq,Prod.mk.injEq] at H
    obtain⟨rfl,rfl⟩:=H
    go_enter Tryz.func132,Tryz.ntmps132
    go_wp2
    go_ret2
    exact⟨a8,dk⟩
   ·rw[if_neg c6] at H
    have c6b0:=decide_eq_false c6
    clear c6
    replace H:=Option.bind_eq_some_iff.mp H
    obtain⟨⟨t101,t102⟩,A70,H⟩:=H
    (try dsimp only at H)
    have A7:=aa.mk A70
    clear A70
    have HC8:=aa.mk H
    clear H
    go_enter Tryz.func132,Tryz.ntmps132
    go_upto_region 8 with(first|((with_reducible refine aM (f:=29) rfl ?_);refine cj (some 22) rfl rfl Tryz.func29 (by kernel_rfl) rfl #[bh (.slice A0 l0.length c0), .int .i64 a1] rfl (jy hT_HR0) ?_;(try rw[←hT_HR0]);(with_reducible refine(cU.calls _ _ l0 a1 t101 t102 _ ?side1 ?side2 A7.out).mono ?_);(case side1=>exact cw HR0.out);(case side2=>exact HC0.out);rintro e w' ⟨rfl,⟨nd,rfl⟩⟩;refine⟨_,rfl,?_⟩))
    (try simp only[Act.put,List.setIfInBounds_toArray,List.set_cons_zero,List.set_cons_succ])
    go_cut [29] (fun v29 wc=> ∃(kq:Nat) (x29_7:Bool),v29= .bool x29_7∧aa (ck.j0 kq l0 t101 t102 x29_7=some (r1,r2))∧aa (kq≤k)∧au w wc)
    case first=>
     have H:=HC8.out
     clear HC8
     by_cases c9:t102=0
     ·rw[if_pos c9] at H
      have c9b0:=beq_iff_eq.mpr c9
      have c9b1:=bne_eq_false_iff_eq.mpr c9
      clear c9
      (first|rw[c9b0]|(simp only[bp,bQ];rw[c9b0])|skip)
      have H':=aa.mk H
      clear H
      go_wp2
      go_meet
      case rel=>exact⟨_,(a2),a8,H',⟨by first|omega|exact Nat.le_refl _⟩,dk⟩
     ·rw[if_neg c9] at H
      have c9b0:=beq_eq_false_iff_ne.mpr c9
      have c9b1:=bne_iff_ne.mpr c9
      (first|rw[c9b0]|(simp only[bp,bQ];rw[c9b0])|skip)
      have H':=aa.mk H
      clear H
      go_wp2
      go_meet
      case rel=>exact⟨_,(false),a8,H',⟨by first|omega|exact Nat.le_refl _⟩,dk⟩
    case rest=>
     clear HC8
     obtain⟨kq,x29_7,rfl,HA,HJ7,⟨mc7,rfl⟩⟩:=hcut
     cases kq with
     |zero=>exact absurd HA.out (by simp[ck.j0])
     |succ kj7=>
      have H:=HA.out
      clear HA
      simp only[ck.j0] at H
      by_cases ek:x29_7=true
      ·subst ek
       have H1:=H;rw[if_pos rfl] at H1
       clear H
       have H:=H1
       clear H1
       replace H:=Option.bind_eq_some_iff.mp H
       obtain⟨t103,A110,H⟩:=H
       (try dsimp only at H)
       have A11:=aa.mk A110
       clear A110
       simp only[Option.some.injEq,Prod.mk.injEq] at H
       obtain⟨rfl,rfl⟩:=H
       go_wp2_with (first|((with_reducible refine aM (f:=61) rfl ?_);refine cj (some 32) rfl rfl Tryz.func61 (by kernel_rfl) rfl #[bh (.slice A0 l0.length c0), .int .u64 t101] rfl (jy hT_HR0) ?_;(try rw[←hT_HR0]);(with_reducible refine(cN.calls _ _ l0 t101 t103 _ ?side1 ?side2 A11.out).mono ?_);(case side1=>exact cw HR0.out);(case side2=>exact HC0.out);rintro e w' ⟨rfl,⟨nd,rfl⟩⟩;refine⟨_,rfl,?_⟩))
       go_ret2
       exact⟨a8,dk⟩
      ·replace ek:=Bool.eq_false_iff.mpr ek
       subst ek
       have H1:=H;rw[if_neg (show¬(false=true) by decide)] at H1
       clear H
       have H:=H1
       clear H1
       simp only[Option.some.injEq,Prod.mk.injEq] at H
       obtain⟨rfl,rfl⟩:=H
       go_wp2
       go_ret2
       exact⟨a8,dk⟩
noncomputable def cq.l0:Nat→List (cn)→Int→List Int→Int→Int→Int→Option (List Int×Int)
 |0,_,_,_,_,_,_=>none
 |k+1,x0,x10,x11,x12,x30,x31=>if x31<x30 then(if 0≤x31 then(if x31<(x11.length:Int) then((bb.f x0 x10 x12).bind fun t111=>(cq.l0 k x0 x10 (x11.set (x31:Int).toNat x12) t111 x30 (wrap64 (x31+1)))) else(none)) else(none)) else(some (x11,0))
noncomputable def cq.f(k:Nat)(l0:List (cn))(a1:Int)(a2:Bool):Option (List Int×Int):=(ck.f k l0 a1 a2).bind fun bt104=>(if bt104.2=0 then((bY.f l0 bt104.1).bind fun t106=>(if 0≤a1 then(if(a1:Int).toNat≤35184372088832 then((some (List.replicate (a1:Int).toNat 0:List Int)).bind fun y107=>(cq.l0 k l0 t106 y107 1 (y107.length:Int) 0)) else(none)) else(none))) else(some (([]:List Int),bt104.2)))
set_option maxHeartbeats 8000000 in
set_option maxRecDepth 100000 in
theorem cq.calls(k:Nat)(A0:Option Addr)(c0:Nat)(l0:List (cn))(a1:Int)(a2:Bool)(r1:List Int)(r2:Int)(w:World)(hr0:Kd.C fB w A0 l0.length l0)(hc0:l0.length≤c0)(h:cq.f k l0 a1 a2=some (r1,r2)):
  Calls Tryz.prog 103 #[bh (.slice A0 l0.length c0), .int .i64 a1, .bool a2] w fun e w'=> ∃v0_:Value,e= .returned (.tuple #[v0_, .int .i64 r2])∧Kd.R (Kd.int .u64) 22 w' w.heap.size (fun _=>True) v0_ r1∧Below w.heap.size w w':=by
 have HR0:=aa.mk hr0
 have HC0:=aa.mk hc0
 clear hr0 hc0
 have HB:=aa.mk (Below.refl w.heap.size w)
 have H:=h;unfold cq.f at H
 clear h
 replace H:=Option.bind_eq_some_iff.mp H
 obtain⟨⟨t104,t105⟩,A40,H⟩:=H
 (try dsimp only at H)
 have A4:=aa.mk A40
 clear A40
 by_cases c5:t105=0
 ·rw[if_pos c5] at H
  have c5b0:=beq_iff_eq.mpr c5
  have c5b1:=bne_eq_false_iff_eq.mpr c5
  clear c5
  replace H:=Option.bind_eq_some_iff.mp H
  obtain⟨t106,A60,H⟩:=H
  (try dsimp only at H)
  have A6:=aa.mk A60
  clear A60
  by_cases c7:0≤a1
  ·rw[if_pos c7] at H
   have c7b0:=eq_true c7
   have c7b1:=decide_eq_true c7
   clear c7
   by_cases c8:(a1:Int).toNat≤35184372088832
   ·rw[if_pos c8] at H
    have c8b0:=eq_true c8
    have c8b1:=decide_eq_true c8
    clear c8
    obtain⟨y107,hy107⟩: ∃y_:List Int,y_=(List.replicate (a1:Int).toNat 0):=⟨_,rfl⟩
    replace H:(cq.l0 k l0 t106 y107 1 (y107.length:Int) 0)=some (r1,r2):=by first|(rw[hy107];with_reducible exact H)|(have H2_:=(Option.bind_some _ _).symm.trans H;rw[hy107];with_reducible exact H2_)|(have H2_:=(Option.bind_some _ _).symm.trans H;with_reducible exact H2_)|with_reducible exact H|(rw[hy107];exact H)|exact H
    have Ny107:=aa.mk hy107
    clear hy107
    have H':=aa.mk H
    clear H
    go_enter Tryz.func103,Tryz.ntmps103
    go_wp2_with (first|((with_reducible refine aM (f:=132) rfl ?_);refine cj (some 18) rfl rfl Tryz.func132 (by kernel_rfl) rfl #[bh (.slice A0 l0.length c0), .int .i64 a1, .bool a2] rfl (by(try simp only[List.map_toArray,List.map_cons,List.map_nil]);first|done|(rw[hT_HR0]<;>rfl)|rfl|(simp only[List.length_drop,List.length_take];rfl)) ?_;(try rw[←hT_HR0]);(with_reducible refine(ck.calls k _ _ l0 a1 a2 t104 t105 _ ?side1 ?side2 A4.out).mono ?_);(case side1=>exact cw HR0.out);(case side2=>exact HC0.out);rintro e w' ⟨rfl,⟨nd,rfl⟩⟩;refine⟨_,rfl,?_⟩)|((with_reducible refine aM (f:=60) rfl ?_);refine cj (some 26) rfl rfl Tryz.func60 (by kernel_rfl) rfl #[bh (.slice A0 l0.length c0), .int .u64 t104] rfl (by(try simp only[List.map_toArray,List.map_cons,List.map_nil]);first|done|(rw[hT_HR0]<;>rfl)|rfl|(simp only[List.length_drop,List.length_take];rfl)) ?_;(try rw[←hT_HR0]);(with_reducible refine(bY.calls _ _ l0 t104 t106 _ ?side1 ?side2 A6.out).mono ?_);(case side1=>exact cw HR0.out);(case side2=>exact HC0.out);rintro e w' ⟨rfl,⟨nd,rfl⟩⟩;refine⟨_,rfl,?_⟩)|((with_reducible refine bk (N:=28) rfl ?_);refine Kd.jc (Kd.int .u64) _ 22 rfl (N:=28) rfl 26 _ _ rfl a1 rfl rfl Tryz.underlying26 (.int .u64 0) 8 gE rfl (by decide) (by omega) 0 (ok:=fun _=>True) (okp:=fun _=>True) rfl (fun _ hk=>hk) trivial (of_decide_eq_true (by assumption)) (Nat.le_trans (Nat.mul_le_mul_right _ (of_decide_eq_true (by assumption):a1.toNat≤35184372088832)) (by omega)) (Below.refl _ _) (Nat.le_refl _) ?_;intro v108 w9 ho10 hb hg_ hnew_;clear hg_ hnew_;(first|rw[←Ny107.out] at ho10|(simp only[Int.reduceToNat] at ho10;rw[←Ny107.out] at ho10));have n0_:=aa.mk (Kd.bN ho10 (ai ak));have n1_:=aa.mk (ah ak hb);clear HB;have HO109:=n0_;have HB:=n1_;clear n0_ n1_;clear hb ho10;obtain⟨Ao11,co11,eo11⟩:=Kd.cb HO109.out;subst eo11))
    go_loopg [12,31] k (fun kq v12 v31 w'=> ∃(x11_1:List Int) (x12_1:Int) (x31_1:Int),v12= .int .u64 x12_1∧v31= .int .i64 x31_1∧aa (cq.l0 kq l0 t106 x11_1 x12_1 (y107.length:Int) x31_1=some (r1,r2))∧aa (kq≤k)∧aa (Kd.R (Kd.int .u64) 22 w' w.heap.size (fun _=>True) (.slice Ao11 y107.length co11) x11_1)∧aa (Below w.heap.size w w'))
    case atStart=>exact⟨(y107),(1),(0),a8,a8,H',⟨Nat.le_refl _⟩,⟨bK HO109.out⟩,⟨ak⟩⟩
    case round=>
     clear H'
     obtain⟨x11_1,x12_1,x31_1,rfl,rfl,HA,HK1,HO_11,HB⟩:=hrel
     have hl11_1:=(Kd.aT HO_11.out).1
     rw[hl11_1] at HO_11
     (try simp only[hl11_1])
     cases gk with
     |zero=>exact absurd HA.out (by simp[cq.l0])
     |succ k1=>
      have H:=HA.out
      clear HA
      simp only[cq.l0] at H
      by_cases iR:x31_1<(y107.length:Int)
      ·rw[if_pos iR] at H
       have c12b0:=decide_eq_true iR
       (try(have c12b0hl11_1:=c12b0;simp only[hl11_1] at c12b0hl11_1))
       clear iR
       by_cases iG:0≤x31_1
       ·rw[if_pos iG] at H
        have c13b0:=decide_eq_true iG
        clear iG
        by_cases fa:x31_1<(x11_1.length:Int)
        ·rw[if_pos fa] at H
         have c14b0:=decide_eq_true fa
         (try(have c14b0hl11_1:=c14b0;simp only[hl11_1] at c14b0hl11_1))
         clear fa
         obtain⟨y110,hy110⟩: ∃y_:List Int,y_=(x11_1.set (x31_1:Int).toNat x12_1):=⟨_,rfl⟩
         replace H:((bb.f l0 t106 x12_1).bind fun t111=>(cq.l0 k1 l0 t106 y110 t111 (y107.length:Int) (wrap64 (x31_1+1))))=some (r1,r2):=by first|(rw[hy110];with_reducible exact H)|(have H2_:=(Option.bind_some _ _).symm.trans H;rw[hy110];with_reducible exact H2_)|(have H2_:=(Option.bind_some _ _).symm.trans H;with_reducible exact H2_)|with_reducible exact H|(rw[hy110];exact H)|exact H
         have Ny110:=aa.mk hy110
         clear hy110
         replace H:=Option.bind_eq_some_iff.mp H
         obtain⟨t111,A160,H⟩:=H
         (try dsimp only at H)
         have A16:=aa.mk A160
         clear A160
         have H':=aa.mk H
         clear H
         have p15:0≤(x31_1:Int):=of_decide_eq_true (by assumption)
         have q15:(x31_1:Int)<((x11_1.length:Int):Int):=of_decide_eq_true (by assumption)
         obtain⟨go15,co15,eo15,gb15,gl15,cl15,HG15⟩:=Kd.fY HO_11.out (by omega)
         (first|cases eo15|(injection eo15 with ea_ en_ ec_;(first|subst ea_|(injection ea_ with ea_;subst ea_));subst ec_;clear en_))
         have GB15:=aa.mk gb15
         have GG15:=aa.mk HG15
         clear gb15 gl15 HG15
         obtain⟨hx15_0,hf15_0⟩:=Kd.eE 0 HO_11.out (x31_1:Int) p15 q15
         replace p15:=eq_true p15
         replace q15:=eq_true q15
         have HP17:=Kd.iF HO_11.out (x31_1:Int) x12_1
         go_wp2_with (first|((with_reducible refine eQ (t:=22) (p:=37) rfl ?_);refine eC (t:=22) (p:=37) (v:=?vo_w18) (w1:=(wr.setCell ⟨go15,(x31_1:Int).toNat,none⟩ (.int .u64 x12_1))) ?hg ?ho ?hn ?hr ?_;(case ho=>rfl);(case hg=>rfl);(case hn=>rfl);(case hr=>first|(go_simp;done)|(go_simp;rfl));intro w18 hw;have hg:wr.grownBy w18 (some go15):=(by rw[hw];exact HP17.2);have hp_:Kd.R (Kd.int .u64) 22 w18 w.heap.size (fun _=>True) (.slice (some ⟨go15,0,none⟩) x11_1.length co11) y110:=(by rw[hw,Ny110.out];exact HP17.1);clear HP17;have n0_:=aa.mk (hp_);have n1_:=aa.mk ((by rw[hw];exact cg (HB.out) GB15.out:Below w.heap.size w w18));clear HO_11;clear HB;have HO_11:=n0_;have HB:=n1_;clear n0_ n1_;clear hg hw hp_)|((with_reducible refine aM (f:=62) rfl ?_);refine cj (some 41) rfl rfl Tryz.func62 (by kernel_rfl) rfl #[bh (.slice A0 l0.length c0), .int .u64 t106, .int .u64 x12_1] rfl (by(try simp only[List.map_toArray,List.map_cons,List.map_nil]);first|done|(rw[hT_HR0]<;>rfl)|rfl|(simp only[List.length_drop,List.length_take];rfl)) ?_;(try rw[←hT_HR0]);(with_reducible refine(bb.calls _ _ l0 t106 x12_1 t111 _ ?side1 ?side2 A16.out).mono ?_);(case side1=>exact cw (Kd.bu HR0.out HB.out));(case side2=>exact HC0.out);rintro e w' ⟨rfl,⟨nd,rfl⟩⟩;refine⟨_,rfl,?_⟩))
         (try simp only[←hl11_1])
         go_roundg k1
         case measure=>have:=HK1.out;omega
         case rel=>exact⟨(y110),(t111),(wrap64 (x31_1+1)),a8,a8,H',⟨by have:=HK1.out;omega⟩,⟨by(try simp only[hl11_1]);(with_reducible repeat(first|apply Kd.bI|apply Kd.bL|apply Kd.bM));exact HO_11.out⟩,⟨ak⟩⟩
        ·rw[if_neg fa] at H
         exact absurd H (by simp)
       ·rw[if_neg iG] at H
        exact absurd H (by simp)
      ·rw[if_neg iR] at H
       have c12b0:=decide_eq_false iR
       (try(have c12b0hl11_1:=c12b0;simp only[hl11_1] at c12b0hl11_1))
       clear iR
       simp only[Option.some.injEq,Prod.mk.injEq] at H
       obtain⟨rfl,rfl⟩:=H
       go_wp2
       go_ret2
       exact⟨_,a8,bK HO_11.out,ak⟩
   ·rw[if_neg c8] at H
    exact absurd H (by simp)
  ·rw[if_neg c7] at H
   exact absurd H (by simp)
 ·rw[if_neg c5] at H
  have c5b0:=beq_eq_false_iff_ne.mpr c5
  have c5b1:=bne_iff_ne.mpr c5
  simp only[Option.some.injEq,Prod.mk.injEq] at H
  obtain⟨rfl,rfl⟩:=H
  go_enter Tryz.func103,Tryz.ntmps103
  go_wp2_with (first|((with_reducible refine aM (f:=132) rfl ?_);refine cj (some 18) rfl rfl Tryz.func132 (by kernel_rfl) rfl #[bh (.slice A0 l0.length c0), .int .i64 a1, .bool a2] rfl (by(try simp only[List.map_toArray,List.map_cons,List.map_nil]);first|done|(rw[hT_HR0]<;>rfl)|rfl|(simp only[List.length_drop,List.length_take];rfl)) ?_;(try rw[←hT_HR0]);(with_reducible refine(ck.calls k _ _ l0 a1 a2 t104 t105 _ ?side1 ?side2 A4.out).mono ?_);(case side1=>exact cw HR0.out);(case side2=>exact HC0.out);rintro e w' ⟨rfl,⟨nd,rfl⟩⟩;refine⟨_,rfl,?_⟩))
  go_ret2
  exact⟨_,a8,by first|exact Kd.fW _ _ _ _ _|exact Kd.lY _ _ _ _ _|exact Kd.mc _ _ _ _ _|exact Kd.lN _ _ _ _ _|exact Kd.jv _ _ _ _ _,ak⟩
end Go.Proofs.YtndkmnjbjlfeaaaGreat.XW
end
section
namespace Go.Proofs.YtndkmnjbjlfeaaaGreat.T10
open Go Go.RowKit Go.Proofs.YtndkmnjbjlfeaaaGreatW.PrintWords Go.Proofs.YtndkmnjbjlfeaaaGreatW.PrintLast Go.Proofs.YtndkmnjbjlfeaaaGreatW.PrintMore Go.Proofs.YtndkmnjbjlfeaaaGreat.Given Go.Proofs.YtndkmnjbjlfeaaaGreat.M Go.Proofs.YtndkmnjbjlfeaaaGreat.Mont Go.Proofs.YtndkmnjbjlfeaaaGreat.XS Go.Proofs.YtndkmnjbjlfeaaaGreat.XT Go.Proofs.YtndkmnjbjlfeaaaGreat.XR Go.Proofs.YtndkmnjbjlfeaaaGreat.Num Go.Proofs.YtndkmnjbjlfeaaaGreat.XK Go.Proofs.YtndkmnjbjlfeaaaGreat.F06 Go.Proofs.YtndkmnjbjlfeaaaGreat.XW
set_option linter.unusedVariables false
def AE(x:Int):Prop:= -9223372036854775808≤x∧x<9223372036854775808
def kZ(p w:Int)(n:Nat):List Int:=(List.range n).map fun i=>w^i%p
theorem iM(p w:Int)(n:Nat):(kZ p w n).length=n:=by unfold kZ;rw[List.length_map,List.length_range]
theorem sf{p w:Int}{n i:Nat}(h:i<n):(kZ p w n)[i]?=some (w^i%p):=by
 unfold kZ
 rw[List.getElem?_map,List.getElem?_range h]
 rfl
theorem lr(l:List Int)(i:Nat):rd l (i:Int)=l.getD i 0:=by unfold rd;rw[Int.toNat_natCast]
theorem sE{p w:Int}{n i:Nat}(h:i<n):rd (kZ p w n) (i:Int)=w^i%p:=by
 rw[lr,List.getD_eq_getElem?_getD,sf h]
 rfl
theorem gM{l:List Int}{i:Nat}(h:i<l.length):rd l (i:Int)∈l:=by
 rw[lr,List.getD_eq_getElem?_getD,List.getElem?_eq_getElem h]
 exact List.getElem_mem h
theorem cA{i:Nat}(h:i≤1000000000):wrap64 ((i:Int)+1)=((i+1:Nat):Int):=by rw[cY _ (by omega) (by omega)];omega
noncomputable def ca(F:cn)(n:Int)(inv:Bool):Int:=if inv=true then fo F.p (fy F n) else fy F n
theorem jC{F:cn}(hg:aJ F)(n:Int):0≤fy F n∧fy F n<F.p:=⟨Int.emod_nonneg _ hg.ne,Int.emod_lt_of_pos _ (by have:=hg.lo;omega)⟩
theorem oO{F:cn}(hg:aJ F)(n:Int)(inv:Bool):0≤ca F n inv∧ca F n inv<F.p:=by
 have hlo:=hg.lo
 unfold ca
 split
 ·by_cases h:fy F n%F.p=0
  ·rw[hg.zX h];omega
  ·obtain⟨_,_,_,h0,h1⟩:=hg.inv h
   exact⟨h0,h1⟩
 ·exact jC hg n
theorem yc{F:cn}(hg:aJ F)(n:Int)(inv:Bool):U (ca F n inv):=by
 have:=oO hg n inv
 have:=hg.hi
 unfold U;omega
theorem lM{F:cn}(hg:aJ F){u w:Int}(h:u*w%F.p=1)(k:Nat):u^k*w^k%F.p=1:=by
 rw[←Int.mul_pow,←dC,h,Int.one_pow]
 exact hg.one
theorem n8{F:cn}(hg:aJ F){n:Int}(hn:0<n)(hd:(F.p-1)%n=0)(inv:Bool)(k:Nat):ca F n inv^k%F.p=1↔n.toNat∣k:=by
 cases inv with
 |false=>exact hg.ni hn hd k
 |true=>
  rw[←hg.ni hn hd k]
  show fo F.p (fy F n)^k%F.p=1↔_
  have h:=lM hg (hg.inv (hg.sw hn hd)).2.1 k
  constructor
  ·intro e
   rw[←bl,e,Int.one_mul] at h
   exact h
  ·intro e
   rw[←bV,e,Int.mul_one] at h
   exact h
noncomputable def oM(F:cn)(n:Int)(inv:Bool):Int×Int:=if n<1 then(0,1) else if n>4096 then(0,13) else if(F.p-1)%n=0 then(ca F n inv,0) else(0,4)
theorem wI{F:cn}(hg:aJ F){n:Int}(hn:AE n)(inv:Bool):Ev (fun k=>ck.f k [F] n inv) (oM F n inv):=by
 refine Ev.congr (f:=fun k=>if n<1 then some (0,1) else(if n>4096 then some (0,13) else((cU.f [F] n).bind fun bt113=>(if bt113.2=0 then(ck.j0 k [F] bt113.1 bt113.2 inv) else(ck.j0 k [F] bt113.1 bt113.2 false))))) (fun k=>by unfold ck.f;rw[if_neg (by simp)]) ?_
 unfold oM
 by_cases h1:n<1
 ·rw[if_pos h1];exact dG h1 (Ev.now _)
 rw[if_neg h1]
 refine gy h1 ?_
 by_cases h2:n>4096
 ·rw[if_pos h2];exact dG h2 (Ev.now _)
 rw[if_neg h2]
 refine gy h2 ?_
 have hj: ∀w e,Ev (fun k=>ck.j0 k [F] w e false) (w,e):=fun w e=>bX ⟨_,fun k=>by simp only[ck.j0];rw[if_neg (by decide)],Ev.now _⟩
 by_cases hd:(F.p-1)%n=0
 ·rw[if_pos hd]
  refine kx (xL F hn.2 (by omega) hd) (dG rfl ?_)
  cases inv with
  |false=>exact hj _ _
  |true=>exact bX ⟨_,fun k=>by simp only[ck.j0];rw[if_pos trivial],kx (cN.at_ (hg.z6 n)) (Ev.now _)⟩
 ·rw[if_neg hd]
  refine kx (wT F hn.2 (fun h=>hd h.2)) (gy (by decide) (hj _ _))
theorem vP{F:cn}(hg:aJ F){w:Int}{n:Nat}(hn:n≤4096)(d:Nat): ∀(i:Nat) (l:List Int),i+d=n→l.length=n→(∀j,j<i→l[j]?=some (w^j%F.p))→
  Ev (fun k=>cq.l0 k [F] (iv F.p w) l (w^i%F.p) (n:Int) (i:Int)) (kZ F.p w n,0):=by
 induction d with
 |zero=>
  intro i l hi hl hj
  refine bX ⟨_,fun k=>by simp only[cq.l0];rw[if_neg (by omega)],wV (Ev.now _) ?_⟩
  congr 1
  refine List.ext_getElem? fun j=>?_
  by_cases c:j<n
  ·rw[hj j (by omega),sf c]
  ·rw[List.getElem?_eq_none (by omega),List.getElem?_eq_none (by rw[iM];omega)]
 |succ d ih=>
  intro i l hi hl hj
  have T:=bb.at_ (F:=F) (l:=[]) ⟨show U (iv F.p w) from hg.uE _,hg.uE (w^i)⟩
  rw[oE hg.m,bV,Int.mul_comm,←Int.pow_succ] at T
  refine bX ⟨_,fun k=>by simp only[cq.l0];rw[if_pos (by omega),if_pos (by omega),if_pos (by omega),cA (by omega),Int.toNat_natCast],?_⟩
  refine kx T (ih (i+1) (l.set i (w^i%F.p)) (by omega) (by rw[List.length_set];exact hl) fun j hj'=>?_)
  by_cases c:j=i
  ·subst c
   rw[List.getElem?_set_self (by omega)]
  ·rw[List.getElem?_set_ne (by omega)]
   exact hj j (by omega)
theorem wo{F:cn}(hg:aJ F){n:Int}(h1:1≤n)(h2:n≤4096)(hd:(F.p-1)%n=0)(inv:Bool):Ev (fun k=>cq.f k [F] n inv) (kZ F.p (ca F n inv) n.toNat,0):=by
 have R:=wI hg (n:=n) ⟨by omega,by omega⟩ inv
 have e:oM F n inv=(ca F n inv,0):=by unfold oM;rw[if_neg (by omega),if_neg (by omega),if_pos hd]
 rw[e] at R
 refine Ev.congr (fun k=>rfl) (Ev.bind R (dG rfl (kx (bY.at_ (F:=F) (l:=[]) (yc hg n inv)) (dG (by omega) (dG (by omega) ?_)))))
 have T:=vP hg (w:=ca F n inv) (n:=n.toNat) (by omega) n.toNat 0 (List.replicate n.toNat 0) (by omega) (List.length_replicate) (fun j hj=>by omega)
 rw[Int.pow_zero,hg.one] at T
 refine Ev.congr (fun k=>?_) T
 simp only[Option.bind_some,List.length_replicate]
 rfl
end Go.Proofs.YtndkmnjbjlfeaaaGreat.T10
end
section
namespace Go.Proofs.YtndkmnjbjlfeaaaGreat.D11
open Go Go.RowKit Go.Proofs.YtndkmnjbjlfeaaaGreatW.PrintWords Go.Proofs.YtndkmnjbjlfeaaaGreat.M Go.Proofs.YtndkmnjbjlfeaaaGreat.Mont Go.Proofs.YtndkmnjbjlfeaaaGreat.Num Go.Proofs.YtndkmnjbjlfeaaaGreat.F06 Go.Proofs.YtndkmnjbjlfeaaaGreat.T10
def cp(f:Nat→Int):Nat→Int
 |0=>0
 |n+1=>cp f n+f n
theorem dj(f:Nat→Int)(n:Nat):cp f (n+1)=cp f n+f n:=rfl
theorem cm{f g:Nat→Int}{n:Nat}(h: ∀i,i<n→f i=g i):cp f n=cp g n:=by
 induction n with
 |zero=>rfl
 |succ n ih=>rw[dj,dj,ih fun i hi=>h i (by omega),h n (by omega)]
theorem pW(f g:Nat→Int)(n:Nat):cp (fun i=>f i+g i) n=cp f n+cp g n:=by
 induction n with
 |zero=>rfl
 |succ n ih=>rw[dj,dj,dj,ih];omega
theorem ie(c:Int)(f:Nat→Int)(n:Nat):cp (fun i=>c*f i) n=c*cp f n:=by
 induction n with
 |zero=>show 0=c*0;rw[Int.mul_zero]
 |succ n ih=>rw[dj,dj,ih,Int.mul_add]
theorem ua(c:Int)(f:Nat→Int)(n:Nat):cp (fun i=>f i*c) n=cp f n*c:=by
 rw[Int.mul_comm,←ie]
 exact cm fun i _=>Int.mul_comm _ _
theorem j5(n:Nat):cp (fun _=>0) n=0:=by
 induction n with
 |zero=>rfl
 |succ n ih=>rw[dj,ih];rfl
theorem jV(f:Nat→Nat→Int)(n m:Nat):cp (fun i=>cp (fun j=>f i j) m) n=cp (fun j=>cp (fun i=>f i j) n) m:=by
 induction n with
 |zero=>exact(j5 m).symm
 |succ n ih=>rw[dj,ih,←pW];rfl
theorem kr(f:Nat→Int)(a b:Nat):cp f (a+b)=cp f a+cp (fun i=>f (a+i)) b:=by
 induction b with
 |zero=>show cp f a=cp f a+0;omega
 |succ b ih=>rw[←Nat.add_assoc,dj,ih,dj];omega
theorem mE{p a b c d:Int}(h:a%p=b%p)(h':c%p=d%p):(a+c)%p=(b+d)%p:=by rw[Int.add_emod,h,h',←Int.add_emod]
theorem dZ{p a b c d:Int}(h:a%p=b%p)(h':c%p=d%p):a*c%p=b*d%p:=by rw[Int.mul_emod,h,h',←Int.mul_emod]
theorem pO{p a b:Int}(h:a%p=b%p)(n:Nat):a^n%p=b^n%p:=by rw[←dC,h,dC]
theorem fi{p:Int}{f g:Nat→Int}{n:Nat}(h: ∀i,i<n→f i%p=g i%p):cp f n%p=cp g n%p:=by
 induction n with
 |zero=>rfl
 |succ n ih=>exact mE (ih fun i hi=>h i (by omega)) (h n (by omega))
theorem wE{p:Int}{f:Nat→Int}{n k:Nat}(hk:k<n)(h: ∀i,i<n→i≠k→f i%p=0):cp f n%p=f k%p:=by
 have e:cp f n%p=cp (fun i=>if i=k then f k else 0) n%p:=fi fun i hi=>by
  by_cases c:i=k
  ·rw[if_pos c,c]
  ·rw[if_neg c,h i hi c,Int.zero_emod]
 rw[e]
 obtain⟨m,rfl⟩: ∃m,n=k+(1+m):=⟨n-k-1,by omega⟩
 rw[kr,kr]
 have e1:cp (fun i=>if i=k then f k else 0) k=0:=(cm fun i hi=>if_neg (show¬i=k by omega)).trans (j5 k)
 have e2:cp (fun i=>if k+i=k then f k else 0) 1=f k:=by show 0+(if k+0=k then f k else 0)=f k;rw[if_pos (Nat.add_zero k)];omega
 have e3:cp (fun i=>if k+(1+i)=k then f k else 0) m=0:=(cm fun i hi=>if_neg (show¬k+(1+i)=k by omega)).trans (j5 m)
 rw[e1,e2,e3]
 congr 1
 omega
theorem vt(x:Int)(n:Nat):cp (fun i=>x^i) n=xI x n:=by
 induction n with
 |zero=>rfl
 |succ n ih=>rw[dj,ih];rfl
structure fg (F:cn) (n:Nat) (w v:Int):Prop where
 ij:aJ F
 pos:1≤n
 lt:(n:Int)<F.p
 w_ord: ∀k,w^k%F.p=1↔n∣k
 v_ord: ∀k,v^k%F.p=1↔n∣k
 one:w*v%F.p=1
variable {F:cn} {n:Nat} {w v:Int}
theorem fg.swap(R:fg F n w v):fg F n v w:=⟨R.ij,R.pos,R.lt,R.v_ord,R.w_ord,by rw[Int.mul_comm];exact R.one⟩
theorem fg.vk(R:fg F n w v)(k:Nat):w^k*v^k%F.p=1:=lM R.ij R.one k
theorem fg.ne(R:fg F n w v)(k:Nat):w^k%F.p≠0:=by
 intro c
 have h:=R.vk k
 rw[←bl,c,Int.zero_mul,Int.zero_emod] at h
 omega
theorem fg.inj(R:fg F n w v){a b:Nat}(ha:a<n)(hb:b<n)(h:w^a%F.p=w^b%F.p):a=b:=by
 have key: ∀x y:Nat,x≤y→y<n→w^x%F.p=w^y%F.p→x=y:=by
  intro x y hxy hy e
  have e':w^(y-x)*w^x%F.p=1*w^x%F.p:=by rw[←Int.pow_add,Nat.sub_add_cancel hxy,Int.one_mul,e]
  have:=R.ij.cancel (R.ne x) e'
  rw[R.ij.one] at this
  have:=(R.w_ord (y-x)).1 this
  by_cases c:y-x=0
  ·omega
  ·have:=Nat.le_of_dvd (by omega) this
   omega
 rcases Nat.le_total a b with c|c
 ·exact key a b c hb h
 ·exact(key b a c ha h.symm).symm
theorem fg.yE(R:fg F n w v){a b:Nat}(ha:a<n)(hb:b<n):w^a*v^b%F.p=1↔a=b:=by
 constructor
 ·intro h
  refine R.inj ha hb ?_
  refine R.ij.cancel (c:=v^b) (R.swap.ne b) ?_
  rw[h,R.vk b]
 ·rintro rfl
  exact R.vk a
theorem zT(hg:aJ F){x:Int}(h1:x^n%F.p=1):cp (fun i=>x^i) n%F.p=if x%F.p=1 then(n:Int)%F.p else 0:=by
 rw[vt]
 by_cases c:x%F.p=1
 ·rw[if_pos c];exact sQ (by rw[c,hg.one]) n
 ·rw[if_neg c];exact hg.vB h1 c
theorem fg.sum(R:fg F n w v){a b:Nat}(ha:a<n)(hb:b<n):cp (fun i=>w^(i*a)*v^(b*i)) n%F.p=if a=b then(n:Int)%F.p else 0:=by
 have e:cp (fun i=>w^(i*a)*v^(b*i)) n=cp (fun i=>(w^a*v^b)^i) n:=cm fun i _=>by
  rw[Int.mul_pow,←Int.pow_mul,←Int.pow_mul,Nat.mul_comm i a]
 have h1:(w^a*v^b)^n%F.p=1:=by
  rw[Int.mul_pow,←Int.pow_mul,←Int.pow_mul,←bl,(R.w_ord (a*n)).2 (Nat.dvd_mul_left _ _),Int.one_mul]
  exact(R.v_ord _).2 (Nat.dvd_mul_left _ _)
 rw[e,zT R.ij h1]
 by_cases c:a=b
 ·rw[if_pos c,if_pos ((R.yE ha hb).2 c)]
 ·rw[if_neg c,if_neg fun h=>c ((R.yE ha hb).1 h)]
theorem fg.xF(R:fg F n w v):(n:Int)%F.p≠0:=by
 have:=R.pos
 have:=R.lt
 rw[Int.emod_eq_of_lt (by omega) (by omega)]
 omega
def cS(w:Int)(f:Nat→Int)(n i:Nat):Int:=cp (fun j=>w^(i*j)*f j) n
theorem fg.back(R:fg F n w v)(f:Nat→Int){k:Nat}(hk:k<n):cS v (fun i=>cS w f n i) n k%F.p=n*f k%F.p:=by
 unfold cS
 have e:cp (fun j=>v^(k*j)*cp (fun j_1=>w^(j*j_1)*f j_1) n) n=cp (fun j=>cp (fun i=>w^(i*j)*v^(k*i)) n*f j) n:=by
  have e1:cp (fun j=>v^(k*j)*cp (fun j_1=>w^(j*j_1)*f j_1) n) n=cp (fun i=>cp (fun j=>w^(i*j)*v^(k*i)*f j) n) n:=cm fun i _=>by
   rw[←ie]
   exact cm fun j _=>by rw[Int.mul_left_comm,Int.mul_assoc]
  rw[e1,jV]
  exact cm fun j _=>ua _ _ _
 rw[e,wE hk fun j hj hne=>by rw[←bl,R.sum hj hk,if_neg hne,Int.zero_mul,Int.zero_emod]]
 rw[←bl,R.sum hk hk,if_pos rfl,bl]
end Go.Proofs.YtndkmnjbjlfeaaaGreat.D11
end
section
namespace Go.Proofs.YtndkmnjbjlfeaaaGreat.D11
open Go Go.RowKit Go.Proofs.YtndkmnjbjlfeaaaGreatW.PrintWords Go.Proofs.YtndkmnjbjlfeaaaGreat.M Go.Proofs.YtndkmnjbjlfeaaaGreat.Mont Go.Proofs.YtndkmnjbjlfeaaaGreat.Num Go.Proofs.YtndkmnjbjlfeaaaGreat.F06 Go.Proofs.YtndkmnjbjlfeaaaGreat.T10
variable {F:cn} {n:Nat} {w v:Int}
theorem px{p:Int}(w:Int){f g:Nat→Int}{n:Nat}(h: ∀j,j<n→f j%p=g j%p)(i:Nat):cS w f n i%p=cS w g n i%p:=
 fi fun j hj=>dZ rfl (h j hj)
theorem fg.Am(R:fg F n w v)(a:Nat):w^a%F.p=w^(a%n)%F.p:=by
 have h:w^(n*(a/n))%F.p=1:=(R.w_ord _).2 (Nat.dvd_mul_right _ _)
 have e:w^a=w^(n*(a/n))*w^(a%n):=by rw[←Int.pow_add,Nat.div_add_mod]
 rw[e,←bl,h,Int.one_mul]
theorem fg.other(R:fg F n w v)(f:Nat→Int){k k':Nat}(h:n∣k+k'):cS w f n k%F.p=cS v f n k'%F.p:=by
 refine fi fun j _=>dZ ?_ rfl
 have h1:w^(k'*j)*v^(k'*j)%F.p=1:=R.vk _
 have h2:w^(k*j+k'*j)%F.p=1:=(R.w_ord _).2 (by rw[←Nat.add_mul];exact Nat.dvd_trans h (Nat.dvd_mul_right _ _))
 have e:w^(k*j)*(w^(k'*j)*v^(k'*j))%F.p=1*v^(k'*j)%F.p:=by
  rw[←Int.mul_assoc,←Int.pow_add]
  exact dZ (by rw[h2,R.ij.one]) rfl
 rw[Int.one_mul,Int.mul_comm,←bl,h1,Int.one_mul] at e
 exact e
theorem neg_dvd{k:Nat}(hk:k<n):n∣k+(n-k)%n:=by
 by_cases c:k=0
 ·subst c
  rw[Nat.sub_zero,Nat.mod_self]
  exact Nat.dvd_zero n
 ·rw[Nat.mod_eq_of_lt (by omega),show k+(n-k)=n by omega]
  exact Nat.dvd_refl n
theorem fg.Be(R:fg F n w v)(f:Nat→Int){j:Nat}(hj:j<n):cS w (fun i=>cS w f n i) n ((n-j)%n)%F.p=n*f j%F.p:=by
 rw[R.other (fun i=>cS w f n i) (k':=j) (by rw[Nat.add_comm];exact neg_dvd hj),R.back f hj]
end Go.Proofs.YtndkmnjbjlfeaaaGreat.D11
end
