/- CellCuts: a plane leaves a full cell on at least one of its sides, and on both exactly if vertices lie on both sides; the two parts are apart, and lie in the cell; for every input the law returns true, and each argument reads as before. Conditions: none. -/
import Derived.Test.YtlccibobknidjaaGreatRows
import Derived.Test.YtlccibobknidjaaGreatEvLx
import Derived.WalkKit
import Derived.ProofKit
import Derived.Deep.DeepHandedRow
import Derived.Lib.LaidTab
import Derived.Carry
set_option linter.unusedVariables false
set_option linter.unusedSimpArgs false
set_option linter.unnecessarySimpa false
set_option linter.unusedSectionVars false
namespace Go.Proofs.YtlccibobknidjaaGreat
open Go Go.Ev Go.Ev.L Go.Ev.Ce Go.ChangeShapes Go.RowKit
set_option maxRecDepth 100000
theorem own:ownKnob Tryz.prog.godebug=none:=by kernel_rfl
theorem le3:laidOutB Tryz.prog=true:=by kernel_rfl
theorem le4:mapsRowed Tryz.prog=true:=by kernel_rfl
theorem ye4:((List.range Tryz.prog.types.size).all fun t=>match Tryz.prog.underlying t with | some (.slice e)=>Nat.blt 0 (Tryz.prog.cellsOf e) | _=>true)=true:=by kernel_rfl
theorem He9 {t e:TypeId} (ht:t < Tryz.prog.types.size) (hu:Tryz.prog.underlying t=some (.slice e)):0 < Tryz.prog.cellsOf e:=by
 have h:=List.all_eq_true.1 ye4 t (by simpa using ht)
 rw[hu] at h
 exact Nat.le_of_ble_eq_true h
theorem be0 (H : Type) (enc : TypeId × Value → H) (W : World) (bs : Nat) (args : Array Value) (ds gs : List (DataW H)) (before : List MemPlace)
  (hval:∀ (j:Nat) t v,Tryz.f6.params[j]?=some t→args[j]?=some v→Value.okWide Tryz.prog W .any bs t v)
  (hW:DataW.Whole enc Tryz.prog Tryz.f6.params.toList Rows.cellCutsSpec.vars false W args.toList ds gs before) :
  Calls Tryz.prog 6 args W fun e W'=>∃ v,e=.returned v∧Rows.cellCutsSpec.post enc Tryz.prog Tryz.f6 false true false false W args v W':=by
 have hW':=hW
 obtain⟨p,q,hA0,hV,rfl,hfz,hnd⟩:=hW
 have hA:DataW.TrodAll enc Tryz.prog W 0 (fun _=>true) true Tryz.f6.params.toList args.toList ds p:=hA0
 rw[Tryz.params6] at hA hval
 obtain⟨v0,r0,d0,s0,w0,q0,a0,rfl,rfl,h0,c0⟩:=trodAll_cons hA
 obtain⟨v1,r1,d1,s1,w1,q1,rfl,rfl,rfl,h1,c1⟩:=trodAll_cons c0
 obtain⟨rfl,rfl,rfl⟩:=trodAll_nil c1
 obtain rfl:args=#[v0,v1]:=by cases args;simp_all
 obtain⟨n0,y0,_,e0⟩:=Rc5 (ρ:=fun _=>⟨0,0,0⟩) (H:=[]) (d:=9) (k:=.i64) (es:=1) Tryz.underlying22 (by kernel_rfl) (by kernel_rfl) (by omega) (hval 0 22 v0 rfl rfl) h0
 obtain⟨a0,k0⟩:=qd1 n0 y0
 obtain⟨n1,y1,_,e1⟩:=Rc5 (ρ:=fun _=>⟨0,0,0⟩) (H:=[]) (d:=9) (k:=.i64) (es:=1) Tryz.underlying22 (by kernel_rfl) (by kernel_rfl) (by omega) (hval 1 22 v1 rfl rfl) h1
 obtain⟨a1,k1⟩:=qd1 n1 y1
 have hlaw:=Qe8 k0 k1 (k:=fun x0 x1=>.guard (ya2 x0 x1) (.ret ((Go.Ev.L.one r1B).enc (ya1 x0 x1),[]))) (ye3 (ye1 _ _) (ye0 _ _))
 refine (Md5 (P:=Tryz.prog) (G:=Go.Ev.Ce.G) (f:=6) bc9 (args:=[v0,v1]) ⟨_,hlaw⟩ rfl (fun i x x' hx hx'=>?_) (fun g c x hx=>by simp[Go.Ev.Ce.G] at hx)).mono fun e W' ⟨he,hs⟩=>?_
 ·match i,hx,hx' with
  | 0,hx,hx'=>cases hx;cases hx';exact e0
  | 1,hx,hx'=>cases hx;cases hx';exact e1
  | i+2,hx,hx'=>cases hx
 ·subst he
  exact⟨_,rfl,ae4 (kids_rows le3 le4) He9 (by rw[Tryz.params6];simp) hW' rfl (tb:=4) (by kernel_rfl) Tryz.underlying4 rfl rfl rfl hs⟩
noncomputable def eb9 (os:Os):World:=World.holding Tryz.prog os ⟨#[],#[],[]⟩
noncomputable def mc1:Array Value:=#[.slice none 0 0,.slice none 0 0]
theorem be1 (os:Os):laidMet Tryz.prog Rows.cellCutsRow.laid ((eb9 os).forCall (fun _ _=>0) ⟨#[],mc1,[]⟩).memory :=
 laidMet_of_run' 8 (by kernel_rfl) (by kernel_rfl)
theorem reads (os:Os) {H:Type} (enc:TypeId×Value→H):∃ x,DataW.whole enc Tryz.prog ((eb9 os).forCall (fun _ _=>0) ⟨#[],mc1,[]⟩).memory Tryz.f6.params.toList Rows.cellCutsSpec.vars false mc1.toList 8=some x:=by
 cases h:DataW.whole enc Tryz.prog ((eb9 os).forCall (fun _ _=>0) ⟨#[],mc1,[]⟩).memory Tryz.f6.params.toList Rows.cellCutsSpec.vars false mc1.toList 8 with
 | some x=>exact⟨x,rfl⟩
 | none =>
  have e:(DataW.whole enc Tryz.prog ((eb9 os).forCall (fun _ _=>0) ⟨#[],mc1,[]⟩).memory Tryz.f6.params.toList Rows.cellCutsSpec.vars false mc1.toList 8).isSome=true:=by kernel_rfl
  rw[h] at e;cases e
theorem ye5 (os : Os) (started : os.Started) (H : Type) (enc : TypeId × Value → H) (F : Stop.Interp) :
  ReturnsInHanded {} Tryz.checked os 6 .any ((OpenSpec.ofChange Rows.cellCutsSpec).preRow enc Tryz.prog Tryz.f6 Rows.cellCutsRow.domain false Rows.cellCutsRow.laid) (((OpenSpec.ofChange Rows.cellCutsSpec).at F).post enc Tryz.prog Tryz.f6 false true false false):=by
 obtain⟨x,hx⟩:=reads os enc
 refine returnsInHanded_of_row (C:=Tryz.checked) (s:=OpenSpec.ofChange Rows.cellCutsSpec) own started (by kernel_rfl) Tryz.func6
  (witness_row_at (enc:=enc) (C:=Tryz.checked) false (eb9 os) mc1 rfl (by kernel_rfl) (by kernel_rfl) (by kernel_rfl)
   (OpenSpec.preRow_of_cond 8 hx (by kernel_rfl) (fun k hk=>by cases hk) (by kernel_rfl) (be1 os))) ?_
 intro W base args ds gs before hval hW _ _ _ hL _ _
 exact be0 H enc W base args ds gs before hval hW
theorem cellCuts_holds:Rows.CellCutsSaid :=
 OpenClaim.holds_of_cond 6 Tryz.f6 rfl rfl rfl rfl rfl rfl rfl ⟨rfl,rfl,rfl,rfl,rfl⟩ rfl rfl rfl rfl rfl (by kernel_rfl) Tryz.func6 (by kernel_rfl)
  (of_decide_eq_true (by kernel_rfl)) (by unfold Func.isWrapper;first | (rw[if_pos (by decide +kernel)];kernel_rfl) | (rw[if_neg (by decide +kernel)];exact⟨rfl,rfl⟩))
  (fun os started H enc _ F=>by rw[OpenClaim.pre_eq_preRow];exact ye5 os started H enc F)
end Go.Proofs.YtlccibobknidjaaGreat
