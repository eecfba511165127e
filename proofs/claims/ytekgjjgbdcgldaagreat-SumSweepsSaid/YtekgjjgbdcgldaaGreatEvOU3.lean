/- SumSweeps: a body that moves straight from one point to another one is at each integer point between within the hull of Sum; the hull of the sum has no vertex but those of both ends; for every input the law returns true, and each argument reads as before. Conditions: none. -/
import Derived.Test.YtekgjjgbdcgldaaGreatRows
import Derived.Test.YtekgjjgbdcgldaaGreatEvOT8
import Derived.WalkKit
import Derived.ProofKit
import Derived.Deep.DeepHandedRow
import Derived.Lib.LaidTab
import Derived.Carry
set_option linter.unusedVariables false
set_option linter.unusedSimpArgs false
set_option linter.unnecessarySimpa false
set_option linter.unusedSectionVars false
namespace Go.Proofs.YtekgjjgbdcgldaaGreat
open Go Go.Ev Go.Ev.L Go.Ev.Ce Go.ChangeShapes Go.RowKit
set_option maxRecDepth 100000
theorem own:ownKnob Tryz.prog.godebug=none:=by kernel_rfl
theorem ye9:laidOutB Tryz.prog=true:=by kernel_rfl
theorem ze0:mapsRowed Tryz.prog=true:=by kernel_rfl
theorem Le4:((List.range Tryz.prog.types.size).all fun t=>match Tryz.prog.underlying t with | some (.slice e)=>Nat.blt 0 (Tryz.prog.cellsOf e) | _=>true)=true:=by kernel_rfl
theorem Ue3 {t e:TypeId} (ht:t < Tryz.prog.types.size) (hu:Tryz.prog.underlying t=some (.slice e)):0 < Tryz.prog.cellsOf e:=by
 have h:=List.all_eq_true.1 Le4 t (by simpa using ht)
 rw[hu] at h
 exact Nat.le_of_ble_eq_true h
theorem ke2 (H : Type) (enc : TypeId × Value → H) (W : World) (bs : Nat) (args : Array Value) (ds gs : List (DataW H)) (before : List MemPlace)
  (hval:∀ (j:Nat) t v,Tryz.f6.params[j]?=some t→args[j]?=some v→Value.okWide Tryz.prog W .any bs t v)
  (hW:DataW.Whole enc Tryz.prog Tryz.f6.params.toList Rows.sumSweepsSpec.vars false W args.toList ds gs before) :
  Calls Tryz.prog 6 args W fun e W'=>∃ v,e=.returned v∧Rows.sumSweepsSpec.post enc Tryz.prog Tryz.f6 false true false false W args v W':=by
 have hW':=hW
 obtain⟨p,q,hA0,hV,rfl,hfz,hnd⟩:=hW
 have hA:DataW.TrodAll enc Tryz.prog W 0 (fun _=>true) true Tryz.f6.params.toList args.toList ds p:=hA0
 rw[Tryz.params6] at hA hval
 obtain⟨v0,r0,d0,s0,w0,q0,a0,rfl,rfl,h0,c0⟩:=trodAll_cons hA
 obtain⟨v1,r1,d1,s1,w1,q1,rfl,rfl,rfl,h1,c1⟩:=trodAll_cons c0
 obtain⟨v2,r2,d2,s2,w2,q2,rfl,rfl,rfl,h2,c2⟩:=trodAll_cons c1
 obtain⟨v3,r3,d3,s3,w3,q3,rfl,rfl,rfl,h3,c3⟩:=trodAll_cons c2
 obtain⟨rfl,rfl,rfl⟩:=trodAll_nil c3
 obtain rfl:args=#[v0,v1,v2,v3]:=by cases args;simp_all
 obtain⟨n0,y0,_,e0⟩:=Pd5 (ρ:=fun _=>⟨0,0,0⟩) (H:=[]) (d:=9) (k:=.i64) (es:=1) Tryz.underlying22 (by kernel_rfl) (by kernel_rfl) (by omega) (hval 0 22 v0 rfl rfl) h0
 obtain⟨a0,k0⟩:=he6 n0 y0
 obtain⟨y1,x1,e1⟩:=Id2 (ρ:=fun _=>⟨0,0,0⟩) (H:=[]) (F:=Nc1 W) (d:=9) Tryz.underlying25 Tryz.underlying5 (by kernel_rfl) (by kernel_rfl) (by kernel_rfl) (hval 1 25 v1 rfl rfl) h1
 obtain⟨a1,k1,z1⟩:=Vc2 y1 x1
 obtain⟨y2,x2,e2⟩:=Id2 (ρ:=fun _=>⟨0,0,0⟩) (H:=[]) (F:=Nc1 W) (d:=9) Tryz.underlying25 Tryz.underlying5 (by kernel_rfl) (by kernel_rfl) (by kernel_rfl) (hval 2 25 v2 rfl rfl) h2
 obtain⟨a2,k2,z2⟩:=Vc2 y2 x2
 obtain⟨y3,x3,e3⟩:=ke1 (ρ:=fun _=>⟨0,0,0⟩) (H:=[]) (F:=Nc1 W) Tryz.underlying5 (hval 3 5 v3 rfl rfl)
 obtain⟨a3,k3,z3⟩:=Le3 y3 x3
 have hlaw:=cf7 k0 k1 k2 k3 (k:=fun x0 x1 x2 x3=>.guard (pa3 x0 x1 x2 x3) (.ret ((Go.Ev.L.one r1B).enc (pa2 x0 x1 x2 x3),[]))) (Ke5 (ke0 _ _ _ _ z1 z2 z3) (je9 _ _ _ _ z1 z2 z3))
 refine (Pd4 (P:=Tryz.prog) (G:=Go.Ev.Ce.G) (f:=6) Mb6 (args:=[v0,v1,v2,v3]) ⟨_,hlaw⟩ rfl (fun i x x' hx hx'=>?_) (fun g c x hx=>by simp[Go.Ev.Ce.G] at hx)).mono fun e W' ⟨he,hs⟩=>?_
 ·match i,hx,hx' with
  | 0,hx,hx'=>cases hx;cases hx';exact e0
  | 1,hx,hx'=>cases hx;cases hx';exact e1
  | 2,hx,hx'=>cases hx;cases hx';exact e2
  | 3,hx,hx'=>cases hx;cases hx';exact e3
  | i+4,hx,hx'=>cases hx
 ·subst he
  exact⟨_,rfl,ge8 (kids_rows ye9 ze0) Ue3 (by rw[Tryz.params6];simp) hW' rfl (tb:=4) (by kernel_rfl) Tryz.underlying4 rfl rfl rfl hs⟩
noncomputable def Za8 (os:Os):World:=World.holding Tryz.prog os ⟨#[],#[],[]⟩
noncomputable def jc4:Array Value:=#[.slice none 0 0,.agg (Array.replicate 3 (.int .u8 0)),.agg (Array.replicate 3 (.int .u8 0)),.int .u8 0]
theorem ke3 (os:Os):laidMet Tryz.prog Rows.sumSweepsRow.laid ((Za8 os).forCall (fun _ _=>0) ⟨#[],jc4,[]⟩).memory :=
 laidMet_of_run' 8 (by kernel_rfl) (by kernel_rfl)
theorem reads (os:Os) {H:Type} (enc:TypeId×Value→H):∃ x,DataW.whole enc Tryz.prog ((Za8 os).forCall (fun _ _=>0) ⟨#[],jc4,[]⟩).memory Tryz.f6.params.toList Rows.sumSweepsSpec.vars false jc4.toList 8=some x:=by
 cases h:DataW.whole enc Tryz.prog ((Za8 os).forCall (fun _ _=>0) ⟨#[],jc4,[]⟩).memory Tryz.f6.params.toList Rows.sumSweepsSpec.vars false jc4.toList 8 with
 | some x=>exact⟨x,rfl⟩
 | none =>
  have e:(DataW.whole enc Tryz.prog ((Za8 os).forCall (fun _ _=>0) ⟨#[],jc4,[]⟩).memory Tryz.f6.params.toList Rows.sumSweepsSpec.vars false jc4.toList 8).isSome=true:=by kernel_rfl
  rw[h] at e;cases e
theorem Le5 (os : Os) (started : os.Started) (H : Type) (enc : TypeId × Value → H) (F : Stop.Interp) :
  ReturnsInHanded {} Tryz.checked os 6 .any ((OpenSpec.ofChange Rows.sumSweepsSpec).preRow enc Tryz.prog Tryz.f6 Rows.sumSweepsRow.domain false Rows.sumSweepsRow.laid) (((OpenSpec.ofChange Rows.sumSweepsSpec).at F).post enc Tryz.prog Tryz.f6 false true false false):=by
 obtain⟨x,hx⟩:=reads os enc
 refine returnsInHanded_of_row (C:=Tryz.checked) (s:=OpenSpec.ofChange Rows.sumSweepsSpec) own started (by kernel_rfl) Tryz.func6
  (witness_row_at (enc:=enc) (C:=Tryz.checked) false (Za8 os) jc4 rfl (by kernel_rfl) (by kernel_rfl) (by kernel_rfl)
   (OpenSpec.preRow_of_cond 8 hx (by kernel_rfl) (fun k hk=>by cases hk) (by kernel_rfl) (ke3 os))) ?_
 intro W base args ds gs before hval hW _ _ _ hL _ _
 exact ke2 H enc W base args ds gs before hval hW
theorem sumSweeps_holds:Rows.SumSweepsSaid :=
 OpenClaim.holds_of_cond 6 Tryz.f6 rfl rfl rfl rfl rfl rfl rfl ⟨rfl,rfl,rfl,rfl,rfl⟩ rfl rfl rfl rfl rfl (by kernel_rfl) Tryz.func6 (by kernel_rfl)
  (of_decide_eq_true (by kernel_rfl)) (by unfold Func.isWrapper;first | (rw[if_pos (by decide +kernel)];kernel_rfl) | (rw[if_neg (by decide +kernel)];exact⟨rfl,rfl⟩))
  (fun os started H enc _ F=>by rw[OpenClaim.pre_eq_preRow];exact Le5 os started H enc F)
end Go.Proofs.YtekgjjgbdcgldaaGreat
