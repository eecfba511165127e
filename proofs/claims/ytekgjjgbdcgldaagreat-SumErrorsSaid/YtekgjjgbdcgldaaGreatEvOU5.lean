/- SumErrors: Grow has each integer point of the workspace within the error bound of a point of the cell; an integer point satisfies the planes of Shrink exactly if the eight corners round it satisfy those of the cell; for every input the law returns true, and each argument reads as before. Conditions: none. -/
import Derived.Test.YtekgjjgbdcgldaaGreatRows
import Derived.Test.YtekgjjgbdcgldaaGreatEvOT8
import Derived.WalkKit
import Derived.ProofKit
import Derived.Deep.DeepHandedRow
import Derived.Lib.LaidTab
import Derived.Carry
set_option linter.all false
namespace Go.Proofs.YtekgjjgbdcgldaaGreat
open Go Go.Ev Go.Ev.L Go.Ev.Ce Go.ChangeShapes Go.RowKit
set_option maxRecDepth 100000
theorem own:ownKnob Tryz.prog.godebug=none:=by kernel_rfl
theorem Vf5:laidOutB Tryz.prog=true:=by kernel_rfl
theorem Vf6:mapsRowed Tryz.prog=true:=by kernel_rfl
theorem lg2:((List.range Tryz.prog.types.size).all fun t=>match Tryz.prog.underlying t with | some (.slice e)=>Nat.blt 0 (Tryz.prog.cellsOf e) | _=>true)=true:=by kernel_rfl
theorem wg9 {t e:TypeId} (ht:t < Tryz.prog.types.size) (hu:Tryz.prog.underlying t=some (.slice e)):0 < Tryz.prog.cellsOf e:=by
 have h:=List.all_eq_true.1 lg2 t (by simpa using ht)
 rw[hu] at h
 exact Nat.le_of_ble_eq_true h
theorem Gf7 (H : Type) (enc : TypeId × Value → H) (W : World) (bs : Nat) (args : Array Value) (ds gs : List (DataW H)) (before : List MemPlace)
  (hval:∀ (j:Nat) t v,Tryz.f14.params[j]?=some t→args[j]?=some v→Value.okWide Tryz.prog W .any bs t v)
  (hW:DataW.Whole enc Tryz.prog Tryz.f14.params.toList Rows.sumErrorsSpec.vars false W args.toList ds gs before) :
  Calls Tryz.prog 14 args W fun e W'=>∃ v,e=.returned v∧Rows.sumErrorsSpec.post enc Tryz.prog Tryz.f14 false true false false W args v W':=by
 have hW':=hW
 obtain⟨p,q,hA0,hV,rfl,hfz,hnd⟩:=hW
 have hA:DataW.TrodAll enc Tryz.prog W 0 (fun _=>true) true Tryz.f14.params.toList args.toList ds p:=hA0
 rw[Tryz.params14] at hA hval
 obtain⟨v0,r0,d0,s0,w0,q0,a0,rfl,rfl,h0,c0⟩:=trodAll_cons hA
 obtain⟨v1,r1,d1,s1,w1,q1,rfl,rfl,rfl,h1,c1⟩:=trodAll_cons c0
 obtain⟨v2,r2,d2,s2,w2,q2,rfl,rfl,rfl,h2,c2⟩:=trodAll_cons c1
 obtain⟨v3,r3,d3,s3,w3,q3,rfl,rfl,rfl,h3,c3⟩:=trodAll_cons c2
 obtain⟨rfl,rfl,rfl⟩:=trodAll_nil c3
 obtain rfl:args=#[v0,v1,v2,v3]:=by cases args;simp_all
 obtain⟨n0,y0,_,e0⟩:=jf6 (ρ:=fun _=>⟨0,0,0⟩) (H:=[]) (d:=9) (k:=.i64) (es:=1) Tryz.underlying22 (by kernel_rfl) (by kernel_rfl) (by omega) (hval 0 22 v0 rfl rfl) h0
 obtain⟨a0,k0⟩:=Ef0 n0 y0
 obtain⟨y1,x1,e1⟩:=qe9 (ρ:=fun _=>⟨0,0,0⟩) (H:=[]) (F:=Wd1 W) (d:=9) Tryz.underlying25 Tryz.underlying5 (by kernel_rfl) (by kernel_rfl) (by kernel_rfl) (hval 1 25 v1 rfl rfl) h1
 obtain⟨a1,k1,z1⟩:=kd9 y1 x1
 obtain⟨y2,x2,e2⟩:=qe9 (ρ:=fun _=>⟨0,0,0⟩) (H:=[]) (F:=Wd1 W) (d:=9) Tryz.underlying25 Tryz.underlying5 (by kernel_rfl) (by kernel_rfl) (by kernel_rfl) (hval 2 25 v2 rfl rfl) h2
 obtain⟨a2,k2,z2⟩:=kd9 y2 x2
 obtain⟨y3,x3,e3⟩:=qe9 (ρ:=fun _=>⟨0,0,0⟩) (H:=[]) (F:=Wd1 W) (d:=9) Tryz.underlying25 Tryz.underlying5 (by kernel_rfl) (by kernel_rfl) (by kernel_rfl) (hval 3 25 v3 rfl rfl) h3
 obtain⟨a3,k3,z3⟩:=kd9 y3 x3
 have hlaw:=Kg6 k0 k1 k2 k3 (k:=fun x0 x1 x2 x3=>.guard (Ma3 x0 x1 x2 x3) (.ret ((Go.Ev.L.one r1B).enc (Ma2 x0 x1 x2 x3),[]))) (kg4 (Gf6 _ _ _ _ z1 z2 z3) (Gf5 _ _ _ _ z1 z2 z3))
 refine (jf5 (P:=Tryz.prog) (G:=Go.Ev.Ce.G) (f:=14) Oc7 (args:=[v0,v1,v2,v3]) ⟨_,hlaw⟩ rfl (fun i x x' hx hx'=>?_) (fun g c x hx=>by simp[Go.Ev.Ce.G] at hx)).mono fun e W' ⟨he,hs⟩=>?_
 ·match i,hx,hx' with
  | 0,hx,hx'=>cases hx;cases hx';exact e0
  | 1,hx,hx'=>cases hx;cases hx';exact e1
  | 2,hx,hx'=>cases hx;cases hx';exact e2
  | 3,hx,hx'=>cases hx;cases hx';exact e3
  | i+4,hx,hx'=>cases hx
 ·subst he
  exact⟨_,rfl,Df4 (kids_rows Vf5 Vf6) wg9 (by rw[Tryz.params14];simp) hW' rfl (tb:=4) (by kernel_rfl) Tryz.underlying4 rfl rfl rfl hs⟩
noncomputable def Pb3 (os:Os):World:=World.holding Tryz.prog os ⟨#[],#[],[]⟩
noncomputable def od7:Array Value:=#[.slice none 0 0,.agg (Array.replicate 3 (.int .u8 0)),.agg (Array.replicate 3 (.int .u8 0)),.agg (Array.replicate 3 (.int .u8 0))]
theorem Gf8 (os:Os):laidMet Tryz.prog Rows.sumErrorsRow.laid ((Pb3 os).forCall (fun _ _=>0) ⟨#[],od7,[]⟩).memory :=
 laidMet_of_run' 8 (by kernel_rfl) (by kernel_rfl)
theorem reads (os:Os) {H:Type} (enc:TypeId×Value→H):∃ x,DataW.whole enc Tryz.prog ((Pb3 os).forCall (fun _ _=>0) ⟨#[],od7,[]⟩).memory Tryz.f14.params.toList Rows.sumErrorsSpec.vars false od7.toList 8=some x:=by
 cases h:DataW.whole enc Tryz.prog ((Pb3 os).forCall (fun _ _=>0) ⟨#[],od7,[]⟩).memory Tryz.f14.params.toList Rows.sumErrorsSpec.vars false od7.toList 8 with
 | some x=>exact⟨x,rfl⟩
 | none =>
  have e:(DataW.whole enc Tryz.prog ((Pb3 os).forCall (fun _ _=>0) ⟨#[],od7,[]⟩).memory Tryz.f14.params.toList Rows.sumErrorsSpec.vars false od7.toList 8).isSome=true:=by kernel_rfl
  rw[h] at e;cases e
theorem lg3 (os : Os) (started : os.Started) (H : Type) (enc : TypeId × Value → H) (F : Stop.Interp) :
  ReturnsInHanded {} Tryz.checked os 14 .any ((OpenSpec.ofChange Rows.sumErrorsSpec).preRow enc Tryz.prog Tryz.f14 Rows.sumErrorsRow.domain false Rows.sumErrorsRow.laid) (((OpenSpec.ofChange Rows.sumErrorsSpec).at F).post enc Tryz.prog Tryz.f14 false true false false):=by
 obtain⟨x,hx⟩:=reads os enc
 refine returnsInHanded_of_row (C:=Tryz.checked) (s:=OpenSpec.ofChange Rows.sumErrorsSpec) own started (by kernel_rfl) Tryz.func14
  (witness_row_at (enc:=enc) (C:=Tryz.checked) false (Pb3 os) od7 rfl (by kernel_rfl) (by kernel_rfl) (by kernel_rfl)
   (OpenSpec.preRow_of_cond 8 hx (by kernel_rfl) (fun k hk=>by cases hk) (by kernel_rfl) (Gf8 os))) ?_
 intro W base args ds gs before hval hW _ _ _ hL _ _
 exact Gf7 H enc W base args ds gs before hval hW
theorem sumErrors_holds:Rows.SumErrorsSaid :=
 OpenClaim.holds_of_cond 14 Tryz.f14 rfl rfl rfl rfl rfl rfl rfl ⟨rfl,rfl,rfl,rfl,rfl⟩ rfl rfl rfl rfl rfl (by kernel_rfl) Tryz.func14 (by kernel_rfl)
  (of_decide_eq_true (by kernel_rfl)) (by unfold Func.isWrapper;first | (rw[if_pos (by decide +kernel)];kernel_rfl) | (rw[if_neg (by decide +kernel)];exact⟨rfl,rfl⟩))
  (fun os started H enc _ F=>by rw[OpenClaim.pre_eq_preRow];exact lg3 os started H enc F)
end Go.Proofs.YtekgjjgbdcgldaaGreat
