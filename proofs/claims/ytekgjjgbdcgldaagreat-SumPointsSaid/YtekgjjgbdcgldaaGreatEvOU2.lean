/- SumPoints: Sum and Support return what the reference returns, for made points and any; for every input the law returns true, and each argument reads as before. Conditions: none. -/
import Derived.Test.YtekgjjgbdcgldaaGreatRows
import Derived.Test.YtekgjjgbdcgldaaGreatEvOT8
import Derived.Test.YtekgjjgbdcgldaaGreatEvOT6
import Derived.WalkKit
import Derived.ProofKit
import Derived.Deep.DeepHandedRow
import Derived.Lib.LaidTab
import Derived.Carry
set_option linter.unusedVariables false
set_option linter.unusedSimpArgs false
set_option linter.unnecessarySimpa false
set_option linter.unusedSectionVars false
namespace Go.Proofs.YtekgjjgbdcgldaaGreat
open Go Go.Ev Go.Ev.L Go.Ev.Ce Go.ChangeShapes Go.RowKit
set_option maxRecDepth 100000
theorem own:ownKnob Tryz.prog.godebug=none:=by kernel_rfl
theorem Me9:laidOutB Tryz.prog=true:=by kernel_rfl
theorem Ne0:mapsRowed Tryz.prog=true:=by kernel_rfl
theorem Ze1:((List.range Tryz.prog.types.size).all fun t=>match Tryz.prog.underlying t with | some (.slice e)=>Nat.blt 0 (Tryz.prog.cellsOf e) | _=>true)=true:=by kernel_rfl
theorem if3 {t e:TypeId} (ht:t < Tryz.prog.types.size) (hu:Tryz.prog.underlying t=some (.slice e)):0 < Tryz.prog.cellsOf e:=by
 have h:=List.all_eq_true.1 Ze1 t (by simpa using ht)
 rw[hu] at h
 exact Nat.le_of_ble_eq_true h
theorem Ae2 (H : Type) (enc : TypeId × Value → H) (W : World) (bs : Nat) (args : Array Value) (ds gs : List (DataW H)) (before : List MemPlace)
  (hval:∀ (j:Nat) t v,Tryz.f4.params[j]?=some t→args[j]?=some v→Value.okWide Tryz.prog W .any bs t v)
  (hW:DataW.Whole enc Tryz.prog Tryz.f4.params.toList Rows.sumPointsSpec.vars false W args.toList ds gs before) :
  Calls Tryz.prog 4 args W fun e W'=>∃ v,e=.returned v∧Rows.sumPointsSpec.post enc Tryz.prog Tryz.f4 false true false false W args v W':=by
 have hW':=hW
 obtain⟨p,q,hA0,hV,rfl,hfz,hnd⟩:=hW
 have hA:DataW.TrodAll enc Tryz.prog W 0 (fun _=>true) true Tryz.f4.params.toList args.toList ds p:=hA0
 rw[Tryz.params4] at hA hval
 obtain⟨v0,r0,d0,s0,w0,q0,a0,rfl,rfl,h0,c0⟩:=trodAll_cons hA
 obtain⟨v1,r1,d1,s1,w1,q1,rfl,rfl,rfl,h1,c1⟩:=trodAll_cons c0
 obtain⟨v2,r2,d2,s2,w2,q2,rfl,rfl,rfl,h2,c2⟩:=trodAll_cons c1
 obtain⟨rfl,rfl,rfl⟩:=trodAll_nil c2
 obtain rfl:args=#[v0,v1,v2]:=by cases args;simp_all
 obtain⟨m0,n0,y0,z0,e0⟩:=Ke9 (ρ:=fun _=>⟨0,0,0⟩) (H:=[]) (d:=9) (k:=.i64) (es:=1) Tryz.underlying38 Tryz.underlying22 (by kernel_rfl) (by kernel_rfl) (by kernel_rfl) (by kernel_rfl) (by omega) (hval 0 38 v0 rfl rfl) h0
 obtain⟨a0,k0⟩:=Ae1 m0 n0 y0 z0
 obtain⟨n1,y1,_,e1⟩:=je7 (ρ:=fun _=>⟨0,0,0⟩) (H:=[]) (d:=9) (k:=.i64) (es:=3) Tryz.underlying33 (by kernel_rfl) (by kernel_rfl) (by omega) (hval 1 33 v1 rfl rfl) h1
 obtain⟨a1,k1⟩:=xe9 tV n1 y1 (fun g=>⟨g 0,g 1,g 2⟩) fun _=>rfl
 obtain⟨y2,e2⟩:=Ke8 (ρ:=fun _=>⟨0,0,0⟩) (H:=[]) (F:=fd2 W) (d:=9) (k:=.i64) (es:=3) (t:=27) (by kernel_rfl) (by kernel_rfl) (by kernel_rfl) (hval 2 27 v2 rfl rfl) h2
 obtain⟨a2,k2⟩:=be6 tV (cs:=fa4 .i64 3 y2) rfl
 have hlaw:=sf3 k0 k1 k2 (k:=fun x0 x1 x2=>.guard (ua2 x0 x1 x2) (.ret ((Go.Ev.L.one r1B).enc (ua1 x0 x1 x2),[]))) (Ye4 (Vd6 _ _ _) (Vd5 _ _ _))
 refine (je6 (P:=Tryz.prog) (G:=Go.Ev.Ce.G) (f:=4) Xb4 (args:=[v0,v1,v2]) ⟨_,hlaw⟩ rfl (fun i x x' hx hx'=>?_) (fun g c x hx=>by simp[Go.Ev.Ce.G] at hx)).mono fun e W' ⟨he,hs⟩=>?_
 ·match i,hx,hx' with
  | 0,hx,hx'=>cases hx;cases hx';exact e0
  | 1,hx,hx'=>cases hx;cases hx';exact e1
  | 2,hx,hx'=>cases hx;cases hx';exact e2
  | i+3,hx,hx'=>cases hx
 ·subst he
  exact⟨_,rfl,xe5 (kids_rows Me9 Ne0) if3 (by rw[Tryz.params4];simp) hW' rfl (tb:=4) (by kernel_rfl) Tryz.underlying4 rfl rfl rfl hs⟩
noncomputable def ib0 (os:Os):World:=World.holding Tryz.prog os ⟨#[],#[],[]⟩
noncomputable def wc1:Array Value:=#[.agg #[.slice none 0 0,.slice none 0 0],.slice none 0 0,.agg (Array.replicate 3 (.int .i64 0))]
theorem Ae3 (os:Os):laidMet Tryz.prog Rows.sumPointsRow.laid ((ib0 os).forCall (fun _ _=>0) ⟨#[],wc1,[]⟩).memory :=
 laidMet_of_run' 8 (by kernel_rfl) (by kernel_rfl)
theorem reads (os:Os) {H:Type} (enc:TypeId×Value→H):∃ x,DataW.whole enc Tryz.prog ((ib0 os).forCall (fun _ _=>0) ⟨#[],wc1,[]⟩).memory Tryz.f4.params.toList Rows.sumPointsSpec.vars false wc1.toList 8=some x:=by
 cases h:DataW.whole enc Tryz.prog ((ib0 os).forCall (fun _ _=>0) ⟨#[],wc1,[]⟩).memory Tryz.f4.params.toList Rows.sumPointsSpec.vars false wc1.toList 8 with
 | some x=>exact⟨x,rfl⟩
 | none =>
  have e:(DataW.whole enc Tryz.prog ((ib0 os).forCall (fun _ _=>0) ⟨#[],wc1,[]⟩).memory Tryz.f4.params.toList Rows.sumPointsSpec.vars false wc1.toList 8).isSome=true:=by kernel_rfl
  rw[h] at e;cases e
theorem Ze2 (os : Os) (started : os.Started) (H : Type) (enc : TypeId × Value → H) (F : Stop.Interp) :
  ReturnsInHanded {} Tryz.checked os 4 .any ((OpenSpec.ofChange Rows.sumPointsSpec).preRow enc Tryz.prog Tryz.f4 Rows.sumPointsRow.domain false Rows.sumPointsRow.laid) (((OpenSpec.ofChange Rows.sumPointsSpec).at F).post enc Tryz.prog Tryz.f4 false true false false):=by
 obtain⟨x,hx⟩:=reads os enc
 refine returnsInHanded_of_row (C:=Tryz.checked) (s:=OpenSpec.ofChange Rows.sumPointsSpec) own started (by kernel_rfl) Tryz.func4
  (witness_row_at (enc:=enc) (C:=Tryz.checked) false (ib0 os) wc1 rfl (by kernel_rfl) (by kernel_rfl) (by kernel_rfl)
   (OpenSpec.preRow_of_cond 8 hx (by kernel_rfl) (fun k hk=>by cases hk) (by kernel_rfl) (Ae3 os))) ?_
 intro W base args ds gs before hval hW _ _ _ hL _ _
 exact Ae2 H enc W base args ds gs before hval hW
theorem sumPoints_holds:Rows.SumPointsSaid :=
 OpenClaim.holds_of_cond 4 Tryz.f4 rfl rfl rfl rfl rfl rfl rfl ⟨rfl,rfl,rfl,rfl,rfl⟩ rfl rfl rfl rfl rfl (by kernel_rfl) Tryz.func4 (by kernel_rfl)
  (of_decide_eq_true (by kernel_rfl)) (by unfold Func.isWrapper;first | (rw[if_pos (by decide +kernel)];kernel_rfl) | (rw[if_neg (by decide +kernel)];exact⟨rfl,rfl⟩))
  (fun os started H enc _ F=>by rw[OpenClaim.pre_eq_preRow];exact Ze2 os started H enc F)
end Go.Proofs.YtekgjjgbdcgldaaGreat
