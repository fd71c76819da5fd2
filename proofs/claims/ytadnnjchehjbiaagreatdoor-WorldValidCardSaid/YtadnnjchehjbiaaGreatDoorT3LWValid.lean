/- WorldValid returns true for every input, and its arguments read as before. No condition. -/
import Derived.Test.YtadnnjchehjbiaaGreatDoorRows
import Derived.Test.YtadnnjchehjbiaaGreatDoorCards
import Derived.Test.YtadnnjchehjbiaaGreatDoorTie
import Derived.Lib.LaidTab
import Derived.LaidMore
import Derived.Stop.Joined
import Derived.SevenTiedAt
import Derived.Test.YtadnnjchehjbiaaGreatDoorT38
import Derived.WalkKit
import Derived.ProofKit
import Derived.OpenShut
import Derived.ShutString
import Derived.ChangeOld
import Derived.Below
set_option linter.unusedSimpArgs false
namespace Go.Proofs.YtadnnjchehjbiaaGreatDoor.worldValid
open Go.ChangeShapes Go.WideShapes Go.ChangeAt Go.RowKit
open Go.ChangeMaps (open_string shut_string)
set_option linter.unusedVariables false
set_option linter.unusedSimpArgs false
theorem own:ownKnob Tryz.prog.godebug=none:=by kernel_rfl
theorem laidOut:laidOutB Tryz.prog=true:=by kernel_rfl
set_option maxRecDepth 100000 in
theorem door_met (os:Os) (args:Array Value):laidMetH Tryz.prog Rows.worldValidRow.laid ((World.doorLaid Tryz.prog 400 os).forCall (fun _ _=>0) ⟨#[],args,[]⟩).memory:=
  laidMetH_of_parts3 (fuel:=8) (laidMet_of_run' 8 kK kK) kK kK
set_option maxRecDepth 100000 in
theorem lifted (os : Os) (started : os.Started) (H : Type) (enc : TypeId × Value → H) :
    ReturnsInHanded {} Tryz.checked os 4 .any (fun w args=>(Rows.worldValidSpec.pre enc Tryz.prog Tryz.f4 [] false w args∧laidMetH Tryz.prog Rows.worldValidRow.laid w)∧sizedMet enc Tryz.prog Tryz.f4 (OpenSpec.ofChange Rows.worldValidSpec) false w args) (Rows.worldValidSpec.post enc Tryz.prog Tryz.f4 false true false false):=by
  refine returnsInHanded_of_change_and (C:=Tryz.checked) (X:=fun w _=>laidMetH Tryz.prog Rows.worldValidRow.laid w) (fun _ _ _ hh h=>h.of_heap hh) own started kK Tryz.func4
    (ChangeSpec.witness_shaped (enc:=enc) (C:=Tryz.checked) (os:=os) (X:=fun w _=>laidMetH Tryz.prog Rows.worldValidRow.laid w) false (World.doorLaid Tryz.prog 400 os) #[.slice none 0 0,.agg #[.int .i64 0,.bool false,.slice none 0 0,.slice none 0 0,.slice none 0 0],.slice none 0 0] 8 rfl (World.shaped_of_RefB kK kK) kK kK kK (door_met os _)) ?_
  intro W base args ds gs before hval0 hW hcnd _ hL _
  have nJ:∀(j:Nat) t v,Tryz.f4.params[j]? = some t→args[j]? = some v→Value.okWide Tryz.prog W .any base t v:=hval0
  have hW':=hW
  obtain⟨p,q,hA0,hV,rfl,hfz,hnd⟩:=hW
  have hA:DataW.TrodAll enc Tryz.prog W 0 (fun _=>true) true Tryz.f4.params.toList args.toList ds p:=hA0
  rw[Tryz.params4]at hA nJ
  obtain⟨v0,vs0,d0,ds0,p0,q0,ZGg,rfl,rfl,k0,r0⟩:=trodAll_cons hA
  obtain⟨v1,vs1,d1,ds1,p1,q1,rfl,rfl,rfl,k1,r1⟩:=trodAll_cons r0
  obtain⟨v2,vs2,d2,ds2,p2,q2,rfl,rfl,rfl,k2,r2⟩:=trodAll_cons r1
  obtain⟨rfl,rfl,rfl⟩:=trodAll_nil r2
  obtain rfl:args=#[v0,v1,v2]:=by cases args;simp_all
  obtain⟨rfl,rfl⟩:=trodVars_none hV
  have lt0:∀x∈p0,x.block<W.heap.size:=by obtain⟨m,hm⟩:=k0;exact DataW.trod_lt m _ _ _ hm
  have c0:v0.cells=#[v0]:=by obtain⟨_,_,_,rfl⟩:=okWide_slice Tryz.underlying22 (nJ 0 22 v0 rfl rfl);rfl
  obtain⟨x0,g0,i0⟩:=TR.one K5 c0 k0
  have h0:RepA W (Low W) (fun _ _=>none) _ v0:=.v _ _ i0
  have lt1:∀x∈p1,x.block<W.heap.size:=by obtain⟨m,hm⟩:=k1;exact DataW.trod_lt m _ _ _ hm
  obtain⟨x1,g1,h1⟩:=TR.agg ZDB Tryz.underlying27 kK (nJ 1 27 v1 rfl rfl) k1
  have lt2:∀x∈p2,x.block<W.heap.size:=by obtain⟨m,hm⟩:=k2;exact DataW.trod_lt m _ _ _ hm
  have c2:v2.cells=#[v2]:=by obtain⟨_,_,_,rfl⟩:=okWide_slice Tryz.underlying28 (nJ 2 28 v2 rfl rfl);rfl
  obtain⟨x2,g2,i2⟩:=TR.one UW c2 k2
  have h2:RepA W (Low W) (fun _ _=>none) _ v2:=.v _ _ i2
  clear hA0 hval0
  refine (ZA.calls (XR x0 x1 x2 g2.2 [] []) (bA.cons h0 (bA.cons h1 (bA.cons h2 bA.nil)))).mono fun e W' ⟨v,x,b',l',F',L',he,hx,bel,hq⟩=>?_
  obtain⟨rfl,_⟩:=hq
  cases hx.vI
  subst he
  exact⟨_,rfl,_,_,_,[],_,[],hW',trodAll_mk1 (shut_bool Tryz.underlying4 _),(trodAll_cons_mk (Below.trod laidOut kK (fy kK) k0 bel lt0) (trodAll_cons_mk (Below.trod laidOut kK (fy kK) k1 bel lt1) (trodAll_cons_mk (Below.trod laidOut kK (fy kK) k2 bel lt2) trodAll_mk0))),rfl,bel.frame _,fun h=>by cases h⟩

theorem over:Rows.worldValidRow.holds Tryz.pinned (OpenSpec.ofChange Rows.worldValidSpec):=
  OpenClaim.holds_of_wide 4 Tryz.f4 rfl rfl rfl rfl rfl rfl rfl ⟨rfl,rfl,rfl,rfl,rfl⟩ rfl rfl rfl rfl rfl kK Tryz.func4 kK
    (fy kK) (by unfold Func.isWrapper;first|(rw[if_pos (by decide +kernel)];kernel_rfl)|(rw[if_neg (by decide +kernel)];exact⟨rfl,rfl⟩))
    (fun os started H enc _=>lifted os started H enc)

/-- The statement. -/
theorem proved:Rows.WorldValidCardSaid:=
  Claim7.holds_tied_plain_at .later [] [.data,.data,.data] true (true,"97604ce3b4a57394f7882f94345eb284a4784d50b0bf340dee66f90a501d4b9a") false
    over (fun _ h=>by cases h) kK (fun _ h=>by cases h) worldValid_row_tie rfl ⟨rfl,rfl⟩ kK rfl
    (fun f fn hf hfn=>by
      obtain rfl:f=4:=fx ((show Tryz.prog.funcNamed "antecede/antecedelaw54.WorldValid" = some 4 by kernel_rfl).symm.trans hf) |>.symm
      obtain rfl:fn=Tryz.f4:=(fx (Tryz.func4.symm.trans hfn)).symm
      exact⟨by kernel_rfl,fun j t ht=>by
        rw[Tryz.params4]at ht
        have hm:t∈[22,27,28]:=by simpa using ml ht
        have uH:([22,27,28].all fun u=>!Tryz.prog.wantsStandIn u)=true:=by kernel_rfl
        exact (show Tryz.prog.wantsStandIn t=false by simpa using bo.1 uH t hm)⟩)
    kK
#print axioms proved
end Go.Proofs.YtadnnjchehjbiaaGreatDoor.worldValid
