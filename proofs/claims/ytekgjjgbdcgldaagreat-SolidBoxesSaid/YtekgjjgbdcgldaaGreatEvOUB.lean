/- SolidBoxes: of a box and a solid of boxes that are apart from one another, the pieces are boxes, whose volumes add up to that of the box without what it has in common with those of the solid; for every input the law returns true, and each argument reads as before. Conditions: none. -/
import Derived.Test.YtekgjjgbdcgldaaGreatRows
import Derived.Test.YtekgjjgbdcgldaaGreatEvOXP
import Derived.WalkKit
import Derived.ProofKit
import Derived.Deep.DeepHandedRow
import Derived.Lib.LaidTab
import Derived.Carry
set_option linter.all false
namespace Go.Proofs.YtekgjjgbdcgldaaGreat
open Go Go.Ev Go.Ev.L Go.Ev.Ce Go.ChangeShapes Go.RowKit
set_option maxRecDepth 100000
theorem own:ownKnob Tryz.prog.godebug=none:=by kernel_rfl
theorem Ue6:laidOutB Tryz.prog=true:=by kernel_rfl
theorem Ue7:mapsRowed Tryz.prog=true:=by kernel_rfl
theorem if4:((List.range Tryz.prog.types.size).all fun t=>match Tryz.prog.underlying t with | some (.slice e)=>Nat.blt 0 (Tryz.prog.cellsOf e) | _=>true)=true:=by kernel_rfl
theorem sf9 {t e:TypeId} (ht:t < Tryz.prog.types.size) (hu:Tryz.prog.underlying t=some (.slice e)):0 < Tryz.prog.cellsOf e:=by
 have h:=List.all_eq_true.1 if4 t (by simpa using ht)
 rw[hu] at h
 exact Nat.le_of_ble_eq_true h
theorem Ge8 (H : Type) (enc : TypeId × Value → H) (W : World) (bs : Nat) (args : Array Value) (ds gs : List (DataW H)) (before : List MemPlace)
  (hval:∀ (j:Nat) t v,Tryz.f12.params[j]?=some t→args[j]?=some v→Value.okWide Tryz.prog W .any bs t v)
  (hW:DataW.Whole enc Tryz.prog Tryz.f12.params.toList Rows.solidBoxesSpec.vars false W args.toList ds gs before) :
  Calls Tryz.prog 12 args W fun e W'=>∃ v,e=.returned v∧Rows.solidBoxesSpec.post enc Tryz.prog Tryz.f12 false true false false W args v W':=by
 have hW':=hW
 obtain⟨p,q,hA0,hV,rfl,hfz,hnd⟩:=hW
 have hA:DataW.TrodAll enc Tryz.prog W 0 (fun _=>true) true Tryz.f12.params.toList args.toList ds p:=hA0
 rw[Tryz.params12] at hA hval
 obtain⟨v0,r0,d0,s0,w0,q0,a0,rfl,rfl,h0,c0⟩:=trodAll_cons hA
 obtain⟨v1,r1,d1,s1,w1,q1,rfl,rfl,rfl,h1,c1⟩:=trodAll_cons c0
 obtain⟨rfl,rfl,rfl⟩:=trodAll_nil c1
 obtain rfl:args=#[v0,v1]:=by cases args;simp_all
 obtain⟨y0,x0,e0⟩:=if3 (ρ:=fun _=>⟨0,0,0⟩) (H:=[]) (F:=Qd1 W) (d:=9) Tryz.underlying84 Tryz.underlying5 (by kernel_rfl) (by kernel_rfl) (by kernel_rfl) (hval 0 84 v0 rfl rfl) h0
 obtain⟨a0,k0,z0⟩:=Ue5 y0 x0
 obtain⟨n1,y1,_,e1⟩:=qe2 (ρ:=fun _=>⟨0,0,0⟩) (H:=[]) (d:=9) (k:=.u8) (es:=6) Tryz.underlying85 (by kernel_rfl) (by kernel_rfl) (by omega) (hval 1 85 v1 rfl rfl) h1
 obtain⟨a1,k1⟩:=re1 n1 y1
 have hlaw:=Cf2 k0 k1 (k:=fun x0 x1=>.guard (xa9 x0 x1) (.ret ((Go.Ev.L.one r1B).enc (xa8 x0 x1),[]))) (hf4 (re0 _ _ z0) (qe9 _ _ z0))
 refine (qe1 (P:=Tryz.prog) (G:=Go.Ev.Ce.G) (f:=12) gc3 (args:=[v0,v1]) ⟨_,hlaw⟩ rfl (fun i x x' hx hx'=>?_) (fun g c x hx=>by simp[Go.Ev.Ce.G] at hx)).mono fun e W' ⟨he,hs⟩=>?_
 ·match i,hx,hx' with
  | 0,hx,hx'=>cases hx;cases hx';exact e0
  | 1,hx,hx'=>cases hx;cases hx';exact e1
  | i+2,hx,hx'=>cases hx
 ·subst he
  exact⟨_,rfl,Ee7 (kids_rows Ue6 Ue7) sf9 (by rw[Tryz.params12];simp) hW' rfl (tb:=4) (by kernel_rfl) Tryz.underlying4 rfl rfl rfl hs⟩
noncomputable def xb3 (os:Os):World:=World.holding Tryz.prog os ⟨#[],#[],[]⟩
noncomputable def Ic1:Array Value:=#[.agg (Array.replicate 6 (.int .u8 0)),.slice none 0 0]
theorem Ge9 (os:Os):laidMet Tryz.prog Rows.solidBoxesRow.laid ((xb3 os).forCall (fun _ _=>0) ⟨#[],Ic1,[]⟩).memory :=
 laidMet_of_run' 8 (by kernel_rfl) (by kernel_rfl)
theorem reads (os:Os) {H:Type} (enc:TypeId×Value→H):∃ x,DataW.whole enc Tryz.prog ((xb3 os).forCall (fun _ _=>0) ⟨#[],Ic1,[]⟩).memory Tryz.f12.params.toList Rows.solidBoxesSpec.vars false Ic1.toList 8=some x:=by
 cases h:DataW.whole enc Tryz.prog ((xb3 os).forCall (fun _ _=>0) ⟨#[],Ic1,[]⟩).memory Tryz.f12.params.toList Rows.solidBoxesSpec.vars false Ic1.toList 8 with
 | some x=>exact⟨x,rfl⟩
 | none =>
  have e:(DataW.whole enc Tryz.prog ((xb3 os).forCall (fun _ _=>0) ⟨#[],Ic1,[]⟩).memory Tryz.f12.params.toList Rows.solidBoxesSpec.vars false Ic1.toList 8).isSome=true:=by kernel_rfl
  rw[h] at e;cases e
theorem if5 (os : Os) (started : os.Started) (H : Type) (enc : TypeId × Value → H) (F : Stop.Interp) :
  ReturnsInHanded {} Tryz.checked os 12 .any ((OpenSpec.ofChange Rows.solidBoxesSpec).preRow enc Tryz.prog Tryz.f12 Rows.solidBoxesRow.domain false Rows.solidBoxesRow.laid) (((OpenSpec.ofChange Rows.solidBoxesSpec).at F).post enc Tryz.prog Tryz.f12 false true false false):=by
 obtain⟨x,hx⟩:=reads os enc
 refine returnsInHanded_of_row (C:=Tryz.checked) (s:=OpenSpec.ofChange Rows.solidBoxesSpec) own started (by kernel_rfl) Tryz.func12
  (witness_row_at (enc:=enc) (C:=Tryz.checked) false (xb3 os) Ic1 rfl (by kernel_rfl) (by kernel_rfl) (by kernel_rfl)
   (OpenSpec.preRow_of_cond 8 hx (by kernel_rfl) (fun k hk=>by cases hk) (by kernel_rfl) (Ge9 os))) ?_
 intro W base args ds gs before hval hW _ _ _ hL _ _
 exact Ge8 H enc W base args ds gs before hval hW
theorem solidBoxes_holds:Rows.SolidBoxesSaid :=
 OpenClaim.holds_of_cond 12 Tryz.f12 rfl rfl rfl rfl rfl rfl rfl ⟨rfl,rfl,rfl,rfl,rfl⟩ rfl rfl rfl rfl rfl (by kernel_rfl) Tryz.func12 (by kernel_rfl)
  (of_decide_eq_true (by kernel_rfl)) (by unfold Func.isWrapper;first | (rw[if_pos (by decide +kernel)];kernel_rfl) | (rw[if_neg (by decide +kernel)];exact⟨rfl,rfl⟩))
  (fun os started H enc _ F=>by rw[OpenClaim.pre_eq_preRow];exact if5 os started H enc F)
end Go.Proofs.YtekgjjgbdcgldaaGreat
