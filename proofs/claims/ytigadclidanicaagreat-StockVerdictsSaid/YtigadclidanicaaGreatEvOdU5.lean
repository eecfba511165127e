/- StockVerdicts: Verdict and Left return what the reference returns, for made parts, such with a change, pieces of them, and such with a change; for every input the law returns true, and each argument reads as before. Conditions: none. -/
import Derived.Test.YtigadclidanicaaGreatRows
import Derived.Test.YtigadclidanicaaGreatEvOdV
import Derived.WalkKit
import Derived.ProofKit
import Derived.Deep.DeepHandedRow
import Derived.Lib.LaidTab
import Derived.Carry
set_option linter.all false
namespace Go.Proofs.YtigadclidanicaaGreat
open Go Go.Ev Go.Ev.L Go.Ev.Ce Go.ChangeShapes Go.RowKit
set_option maxRecDepth 100000
theorem own:ownKnob Tryz.prog.godebug=none:=by kernel_rfl
theorem Wf8:laidOutB Tryz.prog=true:=by kernel_rfl
theorem Wf9:mapsRowed Tryz.prog=true:=by kernel_rfl
theorem og9:((List.range Tryz.prog.types.size).all fun t=>match Tryz.prog.underlying t with | some (.slice e)=>Nat.blt 0 (Tryz.prog.cellsOf e) | _=>true)=true:=by kernel_rfl
theorem Cg1 {t e:TypeId} (ht:t < Tryz.prog.types.size) (hu:Tryz.prog.underlying t=some (.slice e)):0 < Tryz.prog.cellsOf e:=by
 have h:=List.all_eq_true.1 og9 t (by simpa using ht)
 rw[hu] at h
 exact Nat.le_of_ble_eq_true h
theorem Jf7 (H:Type) (enc:TypeId×Value→H) (W:World) (bs:Nat) (args:Array Value) (ds gs:List (DataW H)) (before:List MemPlace)
  (hval:∀ (j:Nat) t v,Tryz.f5.params[j]?=some t→args[j]?=some v→Value.okWide Tryz.prog W .any bs t v)
  (hW:DataW.Whole enc Tryz.prog Tryz.f5.params.toList Rows.stockVerdictsSpec.vars false W args.toList ds gs before) :
  Calls Tryz.prog 5 args W fun e W'=>∃ v,e=.returned v∧Rows.stockVerdictsSpec.post enc Tryz.prog Tryz.f5 false true false false W args v W':=by
 have hW':=hW
 obtain⟨p,q,hA0,hV,rfl,hfz,hnd⟩:=hW
 have hA:DataW.TrodAll enc Tryz.prog W 0 (fun _=>true) true Tryz.f5.params.toList args.toList ds p:=hA0
 rw[Tryz.params5] at hA hval
 obtain⟨v0,r0,d0,s0,w0,q0,a0,rfl,rfl,h0,c0⟩:=trodAll_cons hA
 obtain⟨rfl,rfl,rfl⟩:=trodAll_nil c0
 obtain rfl:args=#[v0]:=by cases args;simp_all
 obtain⟨y0,x0,e0⟩:=Jf5 (ρ:=fun _=>⟨0,0,0⟩) (H:=[]) (d:=9) Tryz.underlying29 ⟨rfl,rfl⟩ ⟨rfl,rfl⟩ ⟨rfl,rfl⟩ ⟨rfl,rfl⟩ Tryz.underlying23 Tryz.underlying22 Tryz.underlying25 Tryz.underlying24 ⟨by kernel_rfl,by kernel_rfl,by kernel_rfl,by kernel_rfl,by kernel_rfl,by kernel_rfl,by kernel_rfl⟩ (by kernel_rfl) (by kernel_rfl) (hval 0 29 v0 rfl rfl) h0
 obtain⟨a0,k0⟩:=Jf6 x0
 have hlaw:=Mg9 k0 (k:=fun x0=>.guard (qa2 x0) (.ret ((Go.Ev.L.one r1B).enc (qa1 x0),[]))) (lg2 (Ne3 _) (Ne2 _))
 refine (of9 (P:=Tryz.prog) (G:=Go.Ev.Ce.G) (f:=5) oc1 (args:=[v0]) ⟨_,hlaw⟩ rfl (fun i x x' hx hx'=>?_) (fun g c x hx=>by simp[Go.Ev.Ce.G] at hx)).mono fun e W' ⟨he,hs⟩=>?_
 ·match i,hx,hx' with
  | 0,hx,hx'=>cases hx;cases hx';exact e0
  | i+1,hx,hx'=>cases hx
 ·subst he
  exact⟨_,rfl,Df8 (kids_rows Wf8 Wf9) Cg1 (by rw[Tryz.params5];simp) hW' rfl (tb:=4) (by kernel_rfl) Tryz.underlying4 rfl rfl rfl hs⟩
noncomputable def Xb2 (os:Os):World:=World.holding Tryz.prog os ⟨#[],#[],[]⟩
noncomputable def zd8:Array Value:=#[.agg #[.slice none 0 0,.slice none 0 0,.slice none 0 0,.slice none 0 0,.slice none 0 0,.slice none 0 0,.int .i64 0,.int .i64 0,.int .i64 0,.int .i64 0,.int .i64 0,.int .i64 0]]
theorem Jf8 (os:Os):laidMet Tryz.prog Rows.stockVerdictsRow.laid ((Xb2 os).forCall (fun _ _=>0) ⟨#[],zd8,[]⟩).memory :=
 laidMet_of_run' 8 (by kernel_rfl) (by kernel_rfl)
theorem reads (os:Os) {H:Type} (enc:TypeId×Value→H):∃ x,DataW.whole enc Tryz.prog ((Xb2 os).forCall (fun _ _=>0) ⟨#[],zd8,[]⟩).memory Tryz.f5.params.toList Rows.stockVerdictsSpec.vars false zd8.toList 8=some x:=by
 cases h:DataW.whole enc Tryz.prog ((Xb2 os).forCall (fun _ _=>0) ⟨#[],zd8,[]⟩).memory Tryz.f5.params.toList Rows.stockVerdictsSpec.vars false zd8.toList 8 with
 | some x=>exact⟨x,rfl⟩
 | none =>
  have e:(DataW.whole enc Tryz.prog ((Xb2 os).forCall (fun _ _=>0) ⟨#[],zd8,[]⟩).memory Tryz.f5.params.toList Rows.stockVerdictsSpec.vars false zd8.toList 8).isSome=true:=by kernel_rfl
  rw[h] at e;cases e
theorem pg0 (os:Os) (started:os.Started) (H:Type) (enc:TypeId×Value→H) (F:Stop.Interp) :
  ReturnsInHanded {} Tryz.checked os 5 .any ((OpenSpec.ofChange Rows.stockVerdictsSpec).preRow enc Tryz.prog Tryz.f5 Rows.stockVerdictsRow.domain false Rows.stockVerdictsRow.laid) (((OpenSpec.ofChange Rows.stockVerdictsSpec).at F).post enc Tryz.prog Tryz.f5 false true false false):=by
 obtain⟨x,hx⟩:=reads os enc
 refine returnsInHanded_of_row (C:=Tryz.checked) (s:=OpenSpec.ofChange Rows.stockVerdictsSpec) own started (by kernel_rfl) Tryz.func5
  (witness_row_at (enc:=enc) (C:=Tryz.checked) false (Xb2 os) zd8 rfl (by kernel_rfl) (by kernel_rfl) (by kernel_rfl)
   (OpenSpec.preRow_of_cond 8 hx (by kernel_rfl) (fun k hk=>by cases hk) (by kernel_rfl) (Jf8 os))) ?_
 intro W base args ds gs before hval hW _ _ _ hL _ _
 exact Jf7 H enc W base args ds gs before hval hW
theorem stockVerdicts_holds:Rows.StockVerdictsSaid :=
 OpenClaim.holds_of_cond 5 Tryz.f5 rfl rfl rfl rfl rfl rfl rfl ⟨rfl,rfl,rfl,rfl,rfl⟩ rfl rfl rfl rfl rfl (by kernel_rfl) Tryz.func5 (by kernel_rfl)
  (of_decide_eq_true (by kernel_rfl)) (by unfold Func.isWrapper;first | (rw[if_pos (by decide +kernel)];kernel_rfl) | (rw[if_neg (by decide +kernel)];exact⟨rfl,rfl⟩))
  (fun os started H enc _ F=>by rw[OpenClaim.pre_eq_preRow];exact pg0 os started H enc F)
end Go.Proofs.YtigadclidanicaaGreat
