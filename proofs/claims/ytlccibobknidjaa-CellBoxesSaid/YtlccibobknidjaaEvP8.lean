/- CellBoxes: boxes have 8 vertices and 6 facets, and Bound gives their corners; two of them are apart unless they overlap, and one lies in the other exactly if its corners do; for every input the law returns true, and each argument reads as before. Conditions: none. -/
import Derived.Test.YtlccibobknidjaaRows
import Derived.Test.YtlccibobknidjaaEvY6
import Derived.WalkKit
import Derived.ProofKit
import Derived.Deep.DeepHandedRow
import Derived.Lib.LaidTab
import Derived.Carry
set_option linter.unusedVariables false
set_option linter.unusedSimpArgs false
set_option linter.unnecessarySimpa false
set_option linter.unusedSectionVars false
namespace Go.Proofs.Ytlccibobknidjaa
open Go Go.Ev Go.Ev.L Go.Ev.Ce Go.ChangeShapes Go.RowKit
set_option maxRecDepth 100000
theorem own:ownKnob Try.prog.godebug=none:=by kernel_rfl
theorem bd5:laidOutB Try.prog=true:=by kernel_rfl
theorem bd6:mapsRowed Try.prog=true:=by kernel_rfl
theorem ld6:((List.range Try.prog.types.size).all fun t=>match Try.prog.underlying t with | some (.slice e)=>Nat.blt 0 (Try.prog.cellsOf e) | _=>true)=true:=by kernel_rfl
theorem rd2 {t e:TypeId} (ht:t < Try.prog.types.size) (hu:Try.prog.underlying t=some (.slice e)):0 < Try.prog.cellsOf e:=by
 have h:=List.all_eq_true.1 ld6 t (by simpa using ht)
 rw[hu] at h
 exact Nat.le_of_ble_eq_true h
theorem Tc7 (H : Type) (enc : TypeId × Value → H) (W : World) (bs : Nat) (args : Array Value) (ds gs : List (DataW H)) (before : List MemPlace)
  (hval:∀ (j:Nat) t v,Try.f3.params[j]?=some t→args[j]?=some v→Value.okWide Try.prog W .any bs t v)
  (hW:DataW.Whole enc Try.prog Try.f3.params.toList Rows.cellBoxesSpec.vars false W args.toList ds gs before) :
  Calls Try.prog 3 args W fun e W'=>∃ v,e=.returned v∧Rows.cellBoxesSpec.post enc Try.prog Try.f3 false true false false W args v W':=by
 have hW':=hW
 obtain⟨p,q,hA0,hV,rfl,hfz,hnd⟩:=hW
 have hA:DataW.TrodAll enc Try.prog W 0 (fun _=>true) true Try.f3.params.toList args.toList ds p:=hA0
 rw[Try.params3] at hA hval
 obtain⟨v0,r0,d0,s0,w0,q0,a0,rfl,rfl,h0,c0⟩:=trodAll_cons hA
 obtain⟨v1,r1,d1,s1,w1,q1,rfl,rfl,rfl,h1,c1⟩:=trodAll_cons c0
 obtain⟨rfl,rfl,rfl⟩:=trodAll_nil c1
 obtain rfl:args=#[v0,v1]:=by cases args;simp_all
 obtain⟨y0,x0,e0⟩:=Bc8 (ρ:=fun _=>⟨0,0,0⟩) (H:=[]) (F:=Hc2 W) (d:=9) Try.underlying23 Try.underlying5 (by kernel_rfl) (by kernel_rfl) (by kernel_rfl) (hval 0 23 v0 rfl rfl) h0
 obtain⟨a0,k0,z0⟩:=Bc7 y0 x0
 obtain⟨y1,x1,e1⟩:=Bc8 (ρ:=fun _=>⟨0,0,0⟩) (H:=[]) (F:=Hc2 W) (d:=9) Try.underlying23 Try.underlying5 (by kernel_rfl) (by kernel_rfl) (by kernel_rfl) (hval 1 23 v1 rfl rfl) h1
 obtain⟨a1,k1,z1⟩:=Bc7 y1 x1
 have hlaw:=vd3 k0 k1 (k:=fun x0 x1=>.guard (ha6 x0 x1) (.ret ((Go.Ev.L.one r1B).enc (ha5 x0 x1),[]))) (kd9 (bd4 _ _ z0 z1) (bd3 _ _ z0 z1))
 refine (Hc5 (P:=Try.prog) (G:=Go.Ev.Ce.G) (f:=3) nb6 (args:=[v0,v1]) ⟨_,hlaw⟩ rfl (fun i x x' hx hx'=>?_) (fun g c x hx=>by simp[Go.Ev.Ce.G] at hx)).mono fun e W' ⟨he,hs⟩=>?_
 ·match i,hx,hx' with
  | 0,hx,hx'=>cases hx;cases hx';exact e0
  | 1,hx,hx'=>cases hx;cases hx';exact e1
  | i+2,hx,hx'=>cases hx
 ·subst he
  exact⟨_,rfl,Sc5 (kids_rows bd5 bd6) rd2 (by rw[Try.params3];simp) hW' rfl (tb:=4) (by kernel_rfl) Try.underlying4 rfl rfl rfl hs⟩
noncomputable def Ia1 (os:Os):World:=World.holding Try.prog os ⟨#[],#[],[]⟩
noncomputable def Bb4:Array Value:=#[.agg (Array.replicate 6 (.int .u8 0)),.agg (Array.replicate 6 (.int .u8 0))]
theorem Tc8 (os:Os):laidMet Try.prog Rows.cellBoxesRow.laid ((Ia1 os).forCall (fun _ _=>0) ⟨#[],Bb4,[]⟩).memory :=
 laidMet_of_run' 8 (by kernel_rfl) (by kernel_rfl)
theorem reads (os:Os) {H:Type} (enc:TypeId×Value→H):∃ x,DataW.whole enc Try.prog ((Ia1 os).forCall (fun _ _=>0) ⟨#[],Bb4,[]⟩).memory Try.f3.params.toList Rows.cellBoxesSpec.vars false Bb4.toList 8=some x:=by
 cases h:DataW.whole enc Try.prog ((Ia1 os).forCall (fun _ _=>0) ⟨#[],Bb4,[]⟩).memory Try.f3.params.toList Rows.cellBoxesSpec.vars false Bb4.toList 8 with
 | some x=>exact⟨x,rfl⟩
 | none =>
  have e:(DataW.whole enc Try.prog ((Ia1 os).forCall (fun _ _=>0) ⟨#[],Bb4,[]⟩).memory Try.f3.params.toList Rows.cellBoxesSpec.vars false Bb4.toList 8).isSome=true:=by kernel_rfl
  rw[h] at e;cases e
theorem ld7 (os : Os) (started : os.Started) (H : Type) (enc : TypeId × Value → H) (F : Stop.Interp) :
  ReturnsInHanded {} Try.checked os 3 .any ((OpenSpec.ofChange Rows.cellBoxesSpec).preRow enc Try.prog Try.f3 Rows.cellBoxesRow.domain false Rows.cellBoxesRow.laid) (((OpenSpec.ofChange Rows.cellBoxesSpec).at F).post enc Try.prog Try.f3 false true false false):=by
 obtain⟨x,hx⟩:=reads os enc
 refine returnsInHanded_of_row (C:=Try.checked) (s:=OpenSpec.ofChange Rows.cellBoxesSpec) own started (by kernel_rfl) Try.func3
  (witness_row_at (enc:=enc) (C:=Try.checked) false (Ia1 os) Bb4 rfl (by kernel_rfl) (by kernel_rfl) (by kernel_rfl)
   (OpenSpec.preRow_of_cond 8 hx (by kernel_rfl) (fun k hk=>by cases hk) (by kernel_rfl) (Tc8 os))) ?_
 intro W base args ds gs before hval hW _ _ _ hL _ _
 exact Tc7 H enc W base args ds gs before hval hW
theorem cellBoxes_holds:Rows.CellBoxesSaid :=
 OpenClaim.holds_of_cond 3 Try.f3 rfl rfl rfl rfl rfl rfl rfl ⟨rfl,rfl,rfl,rfl,rfl⟩ rfl rfl rfl rfl rfl (by kernel_rfl) Try.func3 (by kernel_rfl)
  (of_decide_eq_true (by kernel_rfl)) (by unfold Func.isWrapper;first | (rw[if_pos (by decide +kernel)];kernel_rfl) | (rw[if_neg (by decide +kernel)];exact⟨rfl,rfl⟩))
  (fun os started H enc _ F=>by rw[OpenClaim.pre_eq_preRow];exact ld7 os started H enc F)
end Go.Proofs.Ytlccibobknidjaa
