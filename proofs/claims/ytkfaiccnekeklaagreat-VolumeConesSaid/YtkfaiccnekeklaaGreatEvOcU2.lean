/- VolumeCones: for an integer point of the hull, Six is the sum of Six of the facets points and this point, over all facets in whose plane it does not lie; for every input the law returns true, and each argument reads as before. Conditions: none. -/
import Derived.Test.YtkfaiccnekeklaaGreatRows
import Derived.Test.YtkfaiccnekeklaaGreatEvOcJ
import Derived.WalkKit
import Derived.ProofKit
import Derived.Deep.DeepHandedRow
import Derived.Lib.LaidTab
import Derived.Carry
set_option linter.all false
namespace Go.Proofs.YtkfaiccnekeklaaGreat
open Go Go.Ev Go.Ev.L Go.Ev.Ce Go.ChangeShapes Go.RowKit
set_option maxRecDepth 100000
theorem own:ownKnob Tryz.prog.godebug=none:=by kernel_rfl
theorem ie6:laidOutB Tryz.prog=true:=by kernel_rfl
theorem ie7:mapsRowed Tryz.prog=true:=by kernel_rfl
theorem we0:((List.range Tryz.prog.types.size).all fun t=>match Tryz.prog.underlying t with | some (.slice e)=>Nat.blt 0 (Tryz.prog.cellsOf e) | _=>true)=true:=by kernel_rfl
theorem Ce8 {t e:TypeId} (ht:t < Tryz.prog.types.size) (hu:Tryz.prog.underlying t=some (.slice e)):0 < Tryz.prog.cellsOf e:=by
 have h:=List.all_eq_true.1 we0 t (by simpa using ht)
 rw[hu] at h
 exact Nat.le_of_ble_eq_true h
theorem Vd5 (H : Type) (enc : TypeId × Value → H) (W : World) (bs : Nat) (args : Array Value) (ds gs : List (DataW H)) (before : List MemPlace)
  (hval:∀ (j:Nat) t v,Tryz.f6.params[j]?=some t→args[j]?=some v→Value.okWide Tryz.prog W .any bs t v)
  (hW:DataW.Whole enc Tryz.prog Tryz.f6.params.toList Rows.volumeConesSpec.vars false W args.toList ds gs before) :
  Calls Tryz.prog 6 args W fun e W'=>∃ v,e=.returned v∧Rows.volumeConesSpec.post enc Tryz.prog Tryz.f6 false true false false W args v W':=by
 have hW':=hW
 obtain⟨p,q,hA0,hV,rfl,hfz,hnd⟩:=hW
 have hA:DataW.TrodAll enc Tryz.prog W 0 (fun _=>true) true Tryz.f6.params.toList args.toList ds p:=hA0
 rw[Tryz.params6] at hA hval
 obtain⟨v0,r0,d0,s0,w0,q0,a0,rfl,rfl,h0,c0⟩:=trodAll_cons hA
 obtain⟨v1,r1,d1,s1,w1,q1,rfl,rfl,rfl,h1,c1⟩:=trodAll_cons c0
 obtain⟨rfl,rfl,rfl⟩:=trodAll_nil c1
 obtain rfl:args=#[v0,v1]:=by cases args;simp_all
 obtain⟨n0,y0,_,e0⟩:=Ed0 (ρ:=fun _=>⟨0,0,0⟩) (H:=[]) (d:=9) (k:=.i64) (es:=1) Tryz.underlying22 (by kernel_rfl) (by kernel_rfl) (by omega) (hval 0 22 v0 rfl rfl) h0
 obtain⟨a0,k0⟩:=Ud3 n0 y0
 obtain⟨y1,x1,e1⟩:=ve9 (ρ:=fun _=>⟨0,0,0⟩) (H:=[]) (F:=ed3 W) (d:=9) Tryz.underlying57 Tryz.underlying5 (by kernel_rfl) (by kernel_rfl) (by kernel_rfl) (hval 1 57 v1 rfl rfl) h1
 obtain⟨a1,k1,z1⟩:=Vd4 y1 x1
 have hlaw:=Je0 k0 k1 (k:=fun x0 x1=>.guard (fa9 x0 x1) (.ret ((Go.Ev.L.one r1B).enc (fa8 x0 x1),[]))) (ve0 (ie5 _ _ z1) (ie4 _ _ z1))
 refine (Dd9 (P:=Tryz.prog) (G:=Go.Ev.Ce.G) (f:=6) vb7 (args:=[v0,v1]) ⟨_,hlaw⟩ rfl (fun i x x' hx hx'=>?_) (fun g c x hx=>by simp[Go.Ev.Ce.G] at hx)).mono fun e W' ⟨he,hs⟩=>?_
 ·match i,hx,hx' with
  | 0,hx,hx'=>cases hx;cases hx';exact e0
  | 1,hx,hx'=>cases hx;cases hx';exact e1
  | i+2,hx,hx'=>cases hx
 ·subst he
  exact⟨_,rfl,Td7 (kids_rows ie6 ie7) Ce8 (by rw[Tryz.params6];simp) hW' rfl (tb:=4) (by kernel_rfl) Tryz.underlying4 rfl rfl rfl hs⟩
noncomputable def Wa8 (os:Os):World:=World.holding Tryz.prog os ⟨#[],#[],[]⟩
noncomputable def dc0:Array Value:=#[.slice none 0 0,.agg (Array.replicate 2 (.int .u8 0))]
theorem Vd6 (os:Os):laidMet Tryz.prog Rows.volumeConesRow.laid ((Wa8 os).forCall (fun _ _=>0) ⟨#[],dc0,[]⟩).memory :=
 laidMet_of_run' 8 (by kernel_rfl) (by kernel_rfl)
theorem reads (os:Os) {H:Type} (enc:TypeId×Value→H):∃ x,DataW.whole enc Tryz.prog ((Wa8 os).forCall (fun _ _=>0) ⟨#[],dc0,[]⟩).memory Tryz.f6.params.toList Rows.volumeConesSpec.vars false dc0.toList 8=some x:=by
 cases h:DataW.whole enc Tryz.prog ((Wa8 os).forCall (fun _ _=>0) ⟨#[],dc0,[]⟩).memory Tryz.f6.params.toList Rows.volumeConesSpec.vars false dc0.toList 8 with
 | some x=>exact⟨x,rfl⟩
 | none =>
  have e:(DataW.whole enc Tryz.prog ((Wa8 os).forCall (fun _ _=>0) ⟨#[],dc0,[]⟩).memory Tryz.f6.params.toList Rows.volumeConesSpec.vars false dc0.toList 8).isSome=true:=by kernel_rfl
  rw[h] at e;cases e
theorem we1 (os : Os) (started : os.Started) (H : Type) (enc : TypeId × Value → H) (F : Stop.Interp) :
  ReturnsInHanded {} Tryz.checked os 6 .any ((OpenSpec.ofChange Rows.volumeConesSpec).preRow enc Tryz.prog Tryz.f6 Rows.volumeConesRow.domain false Rows.volumeConesRow.laid) (((OpenSpec.ofChange Rows.volumeConesSpec).at F).post enc Tryz.prog Tryz.f6 false true false false):=by
 obtain⟨x,hx⟩:=reads os enc
 refine returnsInHanded_of_row (C:=Tryz.checked) (s:=OpenSpec.ofChange Rows.volumeConesSpec) own started (by kernel_rfl) Tryz.func6
  (witness_row_at (enc:=enc) (C:=Tryz.checked) false (Wa8 os) dc0 rfl (by kernel_rfl) (by kernel_rfl) (by kernel_rfl)
   (OpenSpec.preRow_of_cond 8 hx (by kernel_rfl) (fun k hk=>by cases hk) (by kernel_rfl) (Vd6 os))) ?_
 intro W base args ds gs before hval hW _ _ _ hL _ _
 exact Vd5 H enc W base args ds gs before hval hW
theorem volumeCones_holds:Rows.VolumeConesSaid :=
 OpenClaim.holds_of_cond 6 Tryz.f6 rfl rfl rfl rfl rfl rfl rfl ⟨rfl,rfl,rfl,rfl,rfl⟩ rfl rfl rfl rfl rfl (by kernel_rfl) Tryz.func6 (by kernel_rfl)
  (of_decide_eq_true (by kernel_rfl)) (by unfold Func.isWrapper;first | (rw[if_pos (by decide +kernel)];kernel_rfl) | (rw[if_neg (by decide +kernel)];exact⟨rfl,rfl⟩))
  (fun os started H enc _ F=>by rw[OpenClaim.pre_eq_preRow];exact we1 os started H enc F)
end Go.Proofs.YtkfaiccnekeklaaGreat
