/- CellHulls: the vertices of the cell with the planes of a hull's facets are the vertices of the hull; each point of the list lies in it, and each facet is one of the cell's; for every input the law returns true, and each argument reads as before. Conditions: none. -/
import Derived.Test.YtlccibobknidjaaGreatRows
import Derived.Test.YtlccibobknidjaaGreatEvLx
import Derived.WalkKit
import Derived.ProofKit
import Derived.Deep.DeepHandedRow
import Derived.Lib.LaidTab
import Derived.Carry
set_option linter.unusedVariables false
set_option linter.unusedSimpArgs false
set_option linter.unnecessarySimpa false
set_option linter.unusedSectionVars false
namespace Go.Proofs.YtlccibobknidjaaGreat
open Go Go.Ev Go.Ev.L Go.Ev.Ce Go.ChangeShapes Go.RowKit
set_option maxRecDepth 100000
theorem own:ownKnob Tryz.prog.godebug=none:=by kernel_rfl
theorem bf7:laidOutB Tryz.prog=true:=by kernel_rfl
theorem bf8:mapsRowed Tryz.prog=true:=by kernel_rfl
theorem rf0:((List.range Tryz.prog.types.size).all fun t=>match Tryz.prog.underlying t with | some (.slice e)=>Nat.blt 0 (Tryz.prog.cellsOf e) | _=>true)=true:=by kernel_rfl
theorem Bf9 {t e:TypeId} (ht:t < Tryz.prog.types.size) (hu:Tryz.prog.underlying t=some (.slice e)):0 < Tryz.prog.cellsOf e:=by
 have h:=List.all_eq_true.1 rf0 t (by simpa using ht)
 rw[hu] at h
 exact Nat.le_of_ble_eq_true h
theorem Oe0 (H : Type) (enc : TypeId × Value → H) (W : World) (bs : Nat) (args : Array Value) (ds gs : List (DataW H)) (before : List MemPlace)
  (hval:∀ (j:Nat) t v,Tryz.f12.params[j]?=some t→args[j]?=some v→Value.okWide Tryz.prog W .any bs t v)
  (hW:DataW.Whole enc Tryz.prog Tryz.f12.params.toList Rows.cellHullsSpec.vars false W args.toList ds gs before) :
  Calls Tryz.prog 12 args W fun e W'=>∃ v,e=.returned v∧Rows.cellHullsSpec.post enc Tryz.prog Tryz.f12 false true false false W args v W':=by
 have hW':=hW
 obtain⟨p,q,hA0,hV,rfl,hfz,hnd⟩:=hW
 have hA:DataW.TrodAll enc Tryz.prog W 0 (fun _=>true) true Tryz.f12.params.toList args.toList ds p:=hA0
 rw[Tryz.params12] at hA hval
 obtain⟨v0,r0,d0,s0,w0,q0,a0,rfl,rfl,h0,c0⟩:=trodAll_cons hA
 obtain⟨rfl,rfl,rfl⟩:=trodAll_nil c0
 obtain rfl:args=#[v0]:=by cases args;simp_all
 obtain⟨n0,y0,_,e0⟩:=we5 (ρ:=fun _=>⟨0,0,0⟩) (H:=[]) (d:=9) (k:=.i64) (es:=1) Tryz.underlying22 (by kernel_rfl) (by kernel_rfl) (by omega) (hval 0 22 v0 rfl rfl) h0
 obtain⟨a0,k0⟩:=Ne9 n0 y0
 have hlaw:=Lf8 k0 (k:=fun x0=>.guard (La4 x0) (.ret ((Go.Ev.L.one r1B).enc (La3 x0),[]))) (qf9 (bf4 _) (bf3 _))
 refine (we4 (P:=Tryz.prog) (G:=Go.Ev.Ce.G) (f:=12) zc5 (args:=[v0]) ⟨_,hlaw⟩ rfl (fun i x x' hx hx'=>?_) (fun g c x hx=>by simp[Go.Ev.Ce.G] at hx)).mono fun e W' ⟨he,hs⟩=>?_
 ·match i,hx,hx' with
  | 0,hx,hx'=>cases hx;cases hx';exact e0
  | i+1,hx,hx'=>cases hx
 ·subst he
  exact⟨_,rfl,Ne3 (kids_rows bf7 bf8) Bf9 (by rw[Tryz.params12];simp) hW' rfl (tb:=4) (by kernel_rfl) Tryz.underlying4 rfl rfl rfl hs⟩
noncomputable def Gb4 (os:Os):World:=World.holding Tryz.prog os ⟨#[],#[],[]⟩
noncomputable def Uc4:Array Value:=#[.slice none 0 0]
theorem Oe1 (os:Os):laidMet Tryz.prog Rows.cellHullsRow.laid ((Gb4 os).forCall (fun _ _=>0) ⟨#[],Uc4,[]⟩).memory :=
 laidMet_of_run' 8 (by kernel_rfl) (by kernel_rfl)
theorem reads (os:Os) {H:Type} (enc:TypeId×Value→H):∃ x,DataW.whole enc Tryz.prog ((Gb4 os).forCall (fun _ _=>0) ⟨#[],Uc4,[]⟩).memory Tryz.f12.params.toList Rows.cellHullsSpec.vars false Uc4.toList 8=some x:=by
 cases h:DataW.whole enc Tryz.prog ((Gb4 os).forCall (fun _ _=>0) ⟨#[],Uc4,[]⟩).memory Tryz.f12.params.toList Rows.cellHullsSpec.vars false Uc4.toList 8 with
 | some x=>exact⟨x,rfl⟩
 | none =>
  have e:(DataW.whole enc Tryz.prog ((Gb4 os).forCall (fun _ _=>0) ⟨#[],Uc4,[]⟩).memory Tryz.f12.params.toList Rows.cellHullsSpec.vars false Uc4.toList 8).isSome=true:=by kernel_rfl
  rw[h] at e;cases e
theorem rf1 (os : Os) (started : os.Started) (H : Type) (enc : TypeId × Value → H) (F : Stop.Interp) :
  ReturnsInHanded {} Tryz.checked os 12 .any ((OpenSpec.ofChange Rows.cellHullsSpec).preRow enc Tryz.prog Tryz.f12 Rows.cellHullsRow.domain false Rows.cellHullsRow.laid) (((OpenSpec.ofChange Rows.cellHullsSpec).at F).post enc Tryz.prog Tryz.f12 false true false false):=by
 obtain⟨x,hx⟩:=reads os enc
 refine returnsInHanded_of_row (C:=Tryz.checked) (s:=OpenSpec.ofChange Rows.cellHullsSpec) own started (by kernel_rfl) Tryz.func12
  (witness_row_at (enc:=enc) (C:=Tryz.checked) false (Gb4 os) Uc4 rfl (by kernel_rfl) (by kernel_rfl) (by kernel_rfl)
   (OpenSpec.preRow_of_cond 8 hx (by kernel_rfl) (fun k hk=>by cases hk) (by kernel_rfl) (Oe1 os))) ?_
 intro W base args ds gs before hval hW _ _ _ hL _ _
 exact Oe0 H enc W base args ds gs before hval hW
theorem cellHulls_holds:Rows.CellHullsSaid :=
 OpenClaim.holds_of_cond 12 Tryz.f12 rfl rfl rfl rfl rfl rfl rfl ⟨rfl,rfl,rfl,rfl,rfl⟩ rfl rfl rfl rfl rfl (by kernel_rfl) Tryz.func12 (by kernel_rfl)
  (of_decide_eq_true (by kernel_rfl)) (by unfold Func.isWrapper;first | (rw[if_pos (by decide +kernel)];kernel_rfl) | (rw[if_neg (by decide +kernel)];exact⟨rfl,rfl⟩))
  (fun os started H enc _ F=>by rw[OpenClaim.pre_eq_preRow];exact rf1 os started H enc F)
end Go.Proofs.YtlccibobknidjaaGreat
