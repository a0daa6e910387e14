/- Parts of this claim's texts, packed by wip/tools/prune.py: what the proof does not reach is left out. -/
import Derived.Test.YtndkmnjbjlfeaaaGreatPCt13
import Derived.Lib.SmallJoins
section
namespace Go.Proofs.YtndkmnjbjlfeaaaGreat.F06
open Go Go.RowKit Go.Proofs.YtndkmnjbjlfeaaaGreatW.PrintWords Go.Proofs.YtndkmnjbjlfeaaaGreatW.PrintLast Go.Proofs.YtndkmnjbjlfeaaaGreatW.PrintMore Go.Proofs.YtndkmnjbjlfeaaaGreat.Given Go.Proofs.YtndkmnjbjlfeaaaGreat.M Go.Proofs.YtndkmnjbjlfeaaaGreat.Mont Go.Proofs.YtndkmnjbjlfeaaaGreat.XS Go.Proofs.YtndkmnjbjlfeaaaGreat.XT Go.Proofs.YtndkmnjbjlfeaaaGreat.XR Go.Proofs.YtndkmnjbjlfeaaaGreat.fx
instance:Inhabited eL:=⟨z146⟩
instance:Inhabited dq:=⟨zC⟩
theorem q5:fx Tryz.prog 146 pL (fun x=>(Lit.int .u64 x.f0).wf=true∧(Lit.int .i64 x.f1).wf=true):=
 oq (fun x:eL=>(x.f0,x.f1)) (fun a=>⟨a.1,a.2⟩) (fun _=>rfl)
  (nP Tryz.underlying146 rfl rfl (by kernel_rfl) (by kernel_rfl) (iO Tryz.underlying22) (iO Tryz.underlying3))
theorem qx:fx Tryz.prog 132 (Kd.slice 146 pL) (fun l=>(∀x∈l,(Lit.int .u64 x.f0).wf=true∧(Lit.int .i64 x.f1).wf=true)∧l.length*Tryz.prog.bytesOf 146≤reachBytes):=
 jE Tryz.underlying132 (by kernel_rfl) q5
theorem sa:fx Tryz.prog 134 ku (fun x=>(Lit.int .u64 x.f0).wf=true∧(Lit.int .u64 x.f1).wf=true∧((∀y∈x.f2,(Lit.int .u64 y.f0).wf=true∧(Lit.int .i64 y.f1).wf=true)∧x.f2.length*Tryz.prog.bytesOf 146≤reachBytes)):=
 oq (fun x:dq=>(x.f0,x.f1,x.f2)) (fun a=>⟨a.1,a.2.1,a.2.2⟩) (fun _=>rfl)
  (nJ Tryz.underlying134 rfl rfl (by kernel_rfl) (by kernel_rfl) (by kernel_rfl) (iO Tryz.underlying22) (iO Tryz.underlying22) qx)
def vE(l:List dq):Prop:=(∀x∈l,(Lit.int .u64 x.f0).wf=true∧(Lit.int .u64 x.f1).wf=true∧((∀y∈x.f2,(Lit.int .u64 y.f0).wf=true∧(Lit.int .i64 y.f1).wf=true)∧x.f2.length*Tryz.prog.bytesOf 146≤reachBytes))∧l.length*Tryz.prog.bytesOf 134≤reachBytes
theorem pa:fx Tryz.prog 23 (Kd.slice 134 ku) vE:=jE Tryz.underlying23 (by kernel_rfl) sa
theorem tV{l:List dq}(h:vE l):iw l:=by
 have b46:Tryz.prog.bytesOf 134=40:=by kernel_rfl
 have b60:Tryz.prog.bytesOf 146=16:=by kernel_rfl
 have hr:reachBytes=140737488351232:=rfl
 unfold vE at h
 rw[b46,b60,hr] at h
 refine⟨⟨by omega,fun e he=>by have:=(h.1 e he).2.2.2;omega⟩,fun e he=>?_⟩
 obtain⟨x,hx,rfl⟩:=List.mem_map.1 he
 obtain⟨w0,w1,w2,_⟩:=h.1 x hx
 refine⟨xp w0,xp w1,fun y hy=>?_⟩
 obtain⟨z,hz,rfl⟩:=List.mem_map.1 hy
 exact⟨xp (w2 z hz).1,Ba (w2 z hz).2⟩
set_option maxRecDepth 100000 in
theorem q8{H:Type}{enc:TypeId×Value→H}{w:World}{base b0:Nat}{r:Reach}{held:Bool}{v:Value}{d:DataW H}{ps:List MemPlace}
  (hv:Value.okWide Tryz.prog w r b0 25 v) (hd:DataW.Trod enc Tryz.prog w base (fun _=>true) held 25 v d ps) (hw:(d.weights Tryz.prog 25).all (· ≤reachBytes)=true):
  ∃(a b c:Int) (A:Option Addr) (cap:Nat) (l:List dq),v= .agg #[.int .i64 a, .int .i64 b, .int .u64 c, .slice A l.length cap]∧l.length≤cap∧Kd.C ku w A l.length l∧iw l∧(Lit.int .i64 a).wf=true∧(Lit.int .i64 b).wf=true∧(Lit.int .u64 c).wf=true:=by
 obtain⟨v0,v1,v2,v3,y0,y1,y2,y3,n,rfl,rfl,rfl,h0,h1,h2,h3⟩:=Joins.open_agg4 Tryz.underlying25 (by kernel_rfl) (by kernel_rfl) hv hd
 rw[DataW.weights,Tryz.underlying25] at hw
 have hw3:=fE (j:=3) hw rfl rfl
 obtain⟨a,e0,_,w0⟩:=DataW.trod_int Tryz.underlying3 h0
 obtain⟨b,e1,_,w1⟩:=DataW.trod_int Tryz.underlying3 h1
 obtain⟨c,e2,_,w2⟩:=DataW.trod_int Tryz.underlying22 h2
 obtain⟨l,⟨A,cap,e3,hl,hc⟩,ho⟩:=pa H enc w base n held _ _ h3 hw3
 simp only[List.cons.injEq,and_true] at e0 e1 e2 e3
 subst e0 e1 e2 e3
 exact⟨a,b,c,A,cap,l,rfl,hl,hc,tV ho,w0,w1,w2⟩
end Go.Proofs.YtndkmnjbjlfeaaaGreat.F06
end
