/- CellPairs: Apart and Within return what the reference returns, for two made cells, such with changes, and any planes; for every input the law returns true, and each argument reads as before. Conditions: none. -/
import Derived.Test.YtlccibobknidjaaGreatRows
import Derived.Test.YtlccibobknidjaaGreatEvEF
import Derived.WalkKit
import Derived.ProofKit
import Derived.Deep.DeepHandedRow
import Derived.Lib.LaidTab
import Derived.Carry
set_option linter.unusedVariables false
set_option linter.unusedSimpArgs false
set_option linter.unnecessarySimpa false
set_option linter.unusedSectionVars false
namespace Go.Proofs.YtlccibobknidjaaGreat
open Go Go.Ev Go.Ev.L Go.Ev.Ce Go.ChangeShapes Go.RowKit
set_option maxRecDepth 100000
theorem own:ownKnob Tryz.prog.godebug=none:=by kernel_rfl
theorem ee2:laidOutB Tryz.prog=true:=by kernel_rfl
theorem ee3:mapsRowed Tryz.prog=true:=by kernel_rfl
theorem pe3:((List.range Tryz.prog.types.size).all fun t=>match Tryz.prog.underlying t with | some (.slice e)=>Nat.blt 0 (Tryz.prog.cellsOf e) | _=>true)=true:=by kernel_rfl
theorem ye5 {t e:TypeId} (ht:t < Tryz.prog.types.size) (hu:Tryz.prog.underlying t=some (.slice e)):0 < Tryz.prog.cellsOf e:=by
 have h:=List.all_eq_true.1 pe3 t (by simpa using ht)
 rw[hu] at h
 exact Nat.le_of_ble_eq_true h
theorem Ud4 (H : Type) (enc : TypeId × Value → H) (W : World) (bs : Nat) (args : Array Value) (ds gs : List (DataW H)) (before : List MemPlace)
  (hval:∀ (j:Nat) t v,Tryz.f5.params[j]?=some t→args[j]?=some v→Value.okWide Tryz.prog W .any bs t v)
  (hW:DataW.Whole enc Tryz.prog Tryz.f5.params.toList Rows.cellPairsSpec.vars false W args.toList ds gs before) :
  Calls Tryz.prog 5 args W fun e W'=>∃ v,e=.returned v∧Rows.cellPairsSpec.post enc Tryz.prog Tryz.f5 false true false false W args v W':=by
 have hW':=hW
 obtain⟨p,q,hA0,hV,rfl,hfz,hnd⟩:=hW
 have hA:DataW.TrodAll enc Tryz.prog W 0 (fun _=>true) true Tryz.f5.params.toList args.toList ds p:=hA0
 rw[Tryz.params5] at hA hval
 obtain⟨v0,r0,d0,s0,w0,q0,a0,rfl,rfl,h0,c0⟩:=trodAll_cons hA
 obtain⟨v1,r1,d1,s1,w1,q1,rfl,rfl,rfl,h1,c1⟩:=trodAll_cons c0
 obtain⟨v2,r2,d2,s2,w2,q2,rfl,rfl,rfl,h2,c2⟩:=trodAll_cons c1
 obtain⟨rfl,rfl,rfl⟩:=trodAll_nil c2
 obtain rfl:args=#[v0,v1,v2]:=by cases args;simp_all
 obtain⟨m0,n0,y0,z0,e0⟩:=de8 (ρ:=fun _=>⟨0,0,0⟩) (H:=[]) (d:=9) (k:=.i64) (es:=1) Tryz.underlying46 Tryz.underlying22 (by kernel_rfl) (by kernel_rfl) (by kernel_rfl) (by kernel_rfl) (by omega) (hval 0 46 v0 rfl rfl) h0
 obtain⟨a0,k0⟩:=de9 m0 n0 y0 z0
 obtain⟨y1,e1⟩:=de7 (ρ:=fun _=>⟨0,0,0⟩) (H:=[]) (F:=Lc5 W) (d:=9) (k:=.i64) (es:=6) (t:=24) (by kernel_rfl) (by kernel_rfl) (by kernel_rfl) (hval 1 24 v1 rfl rfl) h1
 obtain⟨a1,k1⟩:=Cd4 tQ (cs:=ca9 .i64 6 y1) rfl
 obtain⟨n2,y2,_,e2⟩:=Id9 (ρ:=fun _=>⟨0,0,0⟩) (H:=[]) (d:=9) (k:=.i64) (es:=4) Tryz.underlying25 (by kernel_rfl) (by kernel_rfl) (by omega) (hval 2 25 v2 rfl rfl) h2
 obtain⟨a2,k2⟩:=Ud3 tP n2 y2 (fun g=>⟨⟨g 0,g 1,g 2⟩,g 3⟩) fun _=>rfl
 have hlaw:=He1 k0 k1 k2 (k:=fun x0 x1 x2=>.guard (sa7 x0 x1 x2) (.ret ((Go.Ev.L.one r1B).enc (sa6 x0 x1 x2),[]))) (pe2 (ee1 _ _ _) (ee0 _ _ _))
 refine (Id8 (P:=Tryz.prog) (G:=Go.Ev.Ce.G) (f:=5) Sb6 (args:=[v0,v1,v2]) ⟨_,hlaw⟩ rfl (fun i x x' hx hx'=>?_) (fun g c x hx=>by simp[Go.Ev.Ce.G] at hx)).mono fun e W' ⟨he,hs⟩=>?_
 ·match i,hx,hx' with
  | 0,hx,hx'=>cases hx;cases hx';exact e0
  | 1,hx,hx'=>cases hx;cases hx';exact e1
  | 2,hx,hx'=>cases hx;cases hx';exact e2
  | i+3,hx,hx'=>cases hx
 ·subst he
  exact⟨_,rfl,Td9 (kids_rows ee2 ee3) ye5 (by rw[Tryz.params5];simp) hW' rfl (tb:=4) (by kernel_rfl) Tryz.underlying4 rfl rfl rfl hs⟩
noncomputable def fb9 (os:Os):World:=World.holding Tryz.prog os ⟨#[],#[],[]⟩
noncomputable def mc3:Array Value:=#[.agg #[.slice none 0 0,.slice none 0 0],.agg (Array.replicate 6 (.int .i64 0)),.slice none 0 0]
theorem Ud5 (os:Os):laidMet Tryz.prog Rows.cellPairsRow.laid ((fb9 os).forCall (fun _ _=>0) ⟨#[],mc3,[]⟩).memory :=
 laidMet_of_run' 8 (by kernel_rfl) (by kernel_rfl)
theorem reads (os:Os) {H:Type} (enc:TypeId×Value→H):∃ x,DataW.whole enc Tryz.prog ((fb9 os).forCall (fun _ _=>0) ⟨#[],mc3,[]⟩).memory Tryz.f5.params.toList Rows.cellPairsSpec.vars false mc3.toList 8=some x:=by
 cases h:DataW.whole enc Tryz.prog ((fb9 os).forCall (fun _ _=>0) ⟨#[],mc3,[]⟩).memory Tryz.f5.params.toList Rows.cellPairsSpec.vars false mc3.toList 8 with
 | some x=>exact⟨x,rfl⟩
 | none =>
  have e:(DataW.whole enc Tryz.prog ((fb9 os).forCall (fun _ _=>0) ⟨#[],mc3,[]⟩).memory Tryz.f5.params.toList Rows.cellPairsSpec.vars false mc3.toList 8).isSome=true:=by kernel_rfl
  rw[h] at e;cases e
theorem pe4 (os : Os) (started : os.Started) (H : Type) (enc : TypeId × Value → H) (F : Stop.Interp) :
  ReturnsInHanded {} Tryz.checked os 5 .any ((OpenSpec.ofChange Rows.cellPairsSpec).preRow enc Tryz.prog Tryz.f5 Rows.cellPairsRow.domain false Rows.cellPairsRow.laid) (((OpenSpec.ofChange Rows.cellPairsSpec).at F).post enc Tryz.prog Tryz.f5 false true false false):=by
 obtain⟨x,hx⟩:=reads os enc
 refine returnsInHanded_of_row (C:=Tryz.checked) (s:=OpenSpec.ofChange Rows.cellPairsSpec) own started (by kernel_rfl) Tryz.func5
  (witness_row_at (enc:=enc) (C:=Tryz.checked) false (fb9 os) mc3 rfl (by kernel_rfl) (by kernel_rfl) (by kernel_rfl)
   (OpenSpec.preRow_of_cond 8 hx (by kernel_rfl) (fun k hk=>by cases hk) (by kernel_rfl) (Ud5 os))) ?_
 intro W base args ds gs before hval hW _ _ _ hL _ _
 exact Ud4 H enc W base args ds gs before hval hW
theorem cellPairs_holds:Rows.CellPairsSaid :=
 OpenClaim.holds_of_cond 5 Tryz.f5 rfl rfl rfl rfl rfl rfl rfl ⟨rfl,rfl,rfl,rfl,rfl⟩ rfl rfl rfl rfl rfl (by kernel_rfl) Tryz.func5 (by kernel_rfl)
  (of_decide_eq_true (by kernel_rfl)) (by unfold Func.isWrapper;first | (rw[if_pos (by decide +kernel)];kernel_rfl) | (rw[if_neg (by decide +kernel)];exact⟨rfl,rfl⟩))
  (fun os started H enc _ F=>by rw[OpenClaim.pre_eq_preRow];exact pe4 os started H enc F)
end Go.Proofs.YtlccibobknidjaaGreat
