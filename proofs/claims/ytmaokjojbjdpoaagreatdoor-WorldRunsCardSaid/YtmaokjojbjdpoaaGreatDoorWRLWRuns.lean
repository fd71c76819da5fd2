/- WorldRuns returns true for every input, and its arguments read as before. No condition. -/
import Derived.Test.YtmaokjojbjdpoaaGreatDoorRows
import Derived.Test.YtmaokjojbjdpoaaGreatDoorCards
import Derived.Test.YtmaokjojbjdpoaaGreatDoorTie
import Derived.Lib.LaidTab
import Derived.LaidMore
import Derived.Stop.Joined
import Derived.SevenTiedAt
import Derived.Test.YtmaokjojbjdpoaaGreatDoorWR9
import Derived.WalkKit
import Derived.ProofKit
import Derived.OpenShut
import Derived.ShutString
import Derived.ChangeOld
import Derived.Below
set_option linter.unusedSimpArgs false
namespace Go.Proofs.YtmaokjojbjdpoaaGreatDoor.worldRuns
open Go.ChangeShapes Go.WideShapes Go.ChangeAt Go.RowKit
open Go.ChangeMaps (open_string shut_string)
set_option linter.unusedVariables false
set_option linter.unusedSimpArgs false
theorem own:ownKnob Tryz.prog.godebug=none:=by kernel_rfl
theorem laidOut:laidOutB Tryz.prog=true:=by kernel_rfl
set_option maxRecDepth 100000 in
theorem door_met (os:Os) (args:Array Value):laidMetH Tryz.prog Rows.worldRunsRow.laid ((World.doorLaid Tryz.prog 400 os).forCall (fun _ _=>0) ⟨#[],args,[]⟩).memory:=
  laidMetH_of_parts3 (fuel:=8) (laidMet_of_run' 8 (by kernel_rfl) (by kernel_rfl)) (by kernel_rfl) (by kernel_rfl)
set_option maxRecDepth 100000 in
theorem lifted (os : Os) (started : os.Started) (H : Type) (enc : TypeId × Value → H) :
    ReturnsInHanded {} Tryz.checked os 3 .any (fun w args=>(Rows.worldRunsSpec.pre enc Tryz.prog Tryz.f3 [] false w args∧laidMetH Tryz.prog Rows.worldRunsRow.laid w)∧sizedMet enc Tryz.prog Tryz.f3 (OpenSpec.ofChange Rows.worldRunsSpec) false w args) (Rows.worldRunsSpec.post enc Tryz.prog Tryz.f3 false true false false):=by
  refine returnsInHanded_of_change_and (C:=Tryz.checked) (X:=fun w _=>laidMetH Tryz.prog Rows.worldRunsRow.laid w) (fun _ _ _ hh h=>h.of_heap hh) own started (by kernel_rfl) Tryz.func3
    (ChangeSpec.witness_shaped (enc:=enc) (C:=Tryz.checked) (os:=os) (X:=fun w _=>laidMetH Tryz.prog Rows.worldRunsRow.laid w) false (World.doorLaid Tryz.prog 400 os) #[.agg #[.slice none 0 0,.int .i64 0,.bool false,.slice none 0 0,.slice none 0 0,.slice none 0 0,.int .i64 0,.int .i64 0,.slice none 0 0],.int .i64 0,.slice none 0 0] 8 rfl (World.shaped_of_RefB (by kernel_rfl) (by kernel_rfl)) (by kernel_rfl) (by kernel_rfl) (by kernel_rfl) (door_met os _)) ?_
  intro W base args ds gs before hval0 hW hcnd _ hL _
  have GW:∀(j:Nat) t v,Tryz.f3.params[j]? = some t→args[j]? = some v→Value.okWide Tryz.prog W .any base t v:=hval0
  have hW':=hW
  obtain⟨p,q,hA0,hV,rfl,hfz,hnd⟩:=hW
  have hA:DataW.TrodAll enc Tryz.prog W 0 (fun _=>true) true Tryz.f3.params.toList args.toList ds p:=hA0
  rw[Tryz.params3]at hA GW
  obtain⟨v0,vs0,d0,ds0,p0,q0,ZOE,rfl,rfl,k0,r0⟩:=trodAll_cons hA
  obtain⟨v1,vs1,d1,ds1,p1,q1,rfl,rfl,rfl,k1,r1⟩:=trodAll_cons r0
  obtain⟨v2,vs2,d2,ds2,p2,q2,rfl,rfl,rfl,k2,r2⟩:=trodAll_cons r1
  obtain⟨rfl,rfl,rfl⟩:=trodAll_nil r2
  obtain rfl:args=#[v0,v1,v2]:=by cases args;simp_all
  obtain⟨rfl,rfl⟩:=trodVars_none hV
  have lt0:∀x∈p0,x.block<W.heap.size:=by obtain⟨m,hm⟩:=k0;exact DataW.trod_lt m _ _ _ hm
  obtain⟨x0,g0,h0⟩:=TR.agg tr_wd Tryz.underlying32 (by kernel_rfl) (GW 0 32 v0 rfl rfl) k0
  have lt1:∀x∈p1,x.block<W.heap.size:=by obtain⟨m,hm⟩:=k1;exact DataW.trod_lt m _ _ _ hm
  have c1:v1.cells=#[v1]:=by obtain⟨_,rfl⟩:=okWide_int Tryz.underlying3 (GW 1 3 v1 rfl rfl);rfl
  obtain⟨x1,g1,i1⟩:=TR.one gI c1 k1
  have h1:RepA W (Low W) (fun _ _=>none) _ v1:=.v _ _ i1
  have lt2:∀x∈p2,x.block<W.heap.size:=by obtain⟨m,hm⟩:=k2;exact DataW.trod_lt m _ _ _ hm
  have c2:v2.cells=#[v2]:=by obtain⟨_,_,_,rfl⟩:=okWide_slice Tryz.underlying24 (GW 2 24 v2 rfl rfl);rfl
  obtain⟨x2,g2,i2⟩:=TR.one ZD2 c2 k2
  have h2:RepA W (Low W) (fun _ _=>none) _ v2:=.v _ _ i2
  clear hA0 hval0
  refine (QA.calls (KU x0 g0.nm g0.tl g0.ev x1 x2 (fun x hx=>(ZJD (g2.2 x hx)).1) [] []) (GA.cons h0 (GA.cons h1 (GA.cons h2 GA.nil)))).mono fun e W' ⟨v,x,b',l',F',L',he,hx,bel,hq⟩=>?_
  obtain⟨rfl,_⟩:=hq
  cases hx.vI
  subst he
  exact⟨_,rfl,_,_,_,[],_,[],hW',trodAll_mk1 (shut_bool Tryz.underlying4 _),(trodAll_cons_mk (Below.trod laidOut (by kernel_rfl) (gg (by kernel_rfl)) k0 bel lt0) (trodAll_cons_mk (Below.trod laidOut (by kernel_rfl) (gg (by kernel_rfl)) k1 bel lt1) (trodAll_cons_mk (Below.trod laidOut (by kernel_rfl) (gg (by kernel_rfl)) k2 bel lt2) trodAll_mk0))),rfl,bel.frame _,fun h=>by cases h⟩

theorem over:Rows.worldRunsRow.holds Tryz.pinned (OpenSpec.ofChange Rows.worldRunsSpec):=
  OpenClaim.holds_of_wide 3 Tryz.f3 rfl rfl rfl rfl rfl rfl rfl ⟨rfl,rfl,rfl,rfl,rfl⟩ rfl rfl rfl rfl rfl (by kernel_rfl) Tryz.func3 (by kernel_rfl)
    (gg (by kernel_rfl)) (by unfold Func.isWrapper;first|(rw[if_pos (by decide +kernel)];kernel_rfl)|(rw[if_neg (by decide +kernel)];exact⟨rfl,rfl⟩))
    (fun os started H enc _=>lifted os started H enc)

/-- The statement. -/
theorem proved:Rows.WorldRunsCardSaid:=
  Claim7.holds_tied_plain_at .later [] [.data,.data,.data] true (true,"d30f6cc148fc909d51d1034d5e6f1ec95d970d2638fa0715c4350b4d45469657") false
    over (fun _ h=>by cases h) (by kernel_rfl) (fun _ h=>by cases h) worldRuns_row_tie rfl ⟨rfl,rfl⟩ (by kernel_rfl) rfl
    (fun f fn hf hfn=>by
      obtain rfl:f=3:=jd ((show Tryz.prog.funcNamed "antecede/antecedelaw54.WorldRuns" = some 3 by kernel_rfl).symm.trans hf) |>.symm
      obtain rfl:fn=Tryz.f3:=(jd (Tryz.func3.symm.trans hfn)).symm
      exact⟨by kernel_rfl,fun j t ht=>by
        rw[Tryz.params3]at ht
        have hm:t∈[32,3,24]:=by simpa using Array.mem_of_getElem? ht
        have xF:([32,3,24].all fun u=>!Tryz.prog.wantsStandIn u)=true:=by kernel_rfl
        exact (show Tryz.prog.wantsStandIn t=false by simpa using bn.1 xF t hm)⟩)
    (by kernel_rfl)
#print axioms proved
end Go.Proofs.YtmaokjojbjdpoaaGreatDoor.worldRuns
