/- SolidPoints: each integer point of a cell lies in a cell of the solid or in a piece, a point within a piece lies within no cell of the solid, and each point of a piece lies in the cell; for every input the law returns true, and each argument reads as before. Conditions: none. -/
import Derived.Test.YtekgjjgbdcgldaaGreatRows
import Derived.Test.YtekgjjgbdcgldaaGreatEvOXA
import Derived.WalkKit
import Derived.ProofKit
import Derived.Deep.DeepHandedRow
import Derived.Lib.LaidTab
import Derived.Carry
set_option linter.all false
namespace Go.Proofs.YtekgjjgbdcgldaaGreat
open Go Go.Ev Go.Ev.L Go.Ev.Ce Go.ChangeShapes Go.RowKit
set_option maxRecDepth 100000
theorem own:ownKnob Tryz.prog.godebug=none:=by kernel_rfl
theorem Df6:laidOutB Tryz.prog=true:=by kernel_rfl
theorem Df7:mapsRowed Tryz.prog=true:=by kernel_rfl
theorem Sf4:((List.range Tryz.prog.types.size).all fun t=>match Tryz.prog.underlying t with | some (.slice e)=>Nat.blt 0 (Tryz.prog.cellsOf e) | _=>true)=true:=by kernel_rfl
theorem dg1 {t e:TypeId} (ht:t < Tryz.prog.types.size) (hu:Tryz.prog.underlying t=some (.slice e)):0 < Tryz.prog.cellsOf e:=by
 have h:=List.all_eq_true.1 Sf4 t (by simpa using ht)
 rw[hu] at h
 exact Nat.le_of_ble_eq_true h
theorem of3 (H : Type) (enc : TypeId × Value → H) (W : World) (bs : Nat) (args : Array Value) (ds gs : List (DataW H)) (before : List MemPlace)
  (hval:∀ (j:Nat) t v,Tryz.f11.params[j]?=some t→args[j]?=some v→Value.okWide Tryz.prog W .any bs t v)
  (hW:DataW.Whole enc Tryz.prog Tryz.f11.params.toList Rows.solidPointsSpec.vars false W args.toList ds gs before) :
  Calls Tryz.prog 11 args W fun e W'=>∃ v,e=.returned v∧Rows.solidPointsSpec.post enc Tryz.prog Tryz.f11 false true false false W args v W':=by
 have hW':=hW
 obtain⟨p,q,hA0,hV,rfl,hfz,hnd⟩:=hW
 have hA:DataW.TrodAll enc Tryz.prog W 0 (fun _=>true) true Tryz.f11.params.toList args.toList ds p:=hA0
 rw[Tryz.params11] at hA hval
 obtain⟨v0,r0,d0,s0,w0,q0,a0,rfl,rfl,h0,c0⟩:=trodAll_cons hA
 obtain⟨v1,r1,d1,s1,w1,q1,rfl,rfl,rfl,h1,c1⟩:=trodAll_cons c0
 obtain⟨v2,r2,d2,s2,w2,q2,rfl,rfl,rfl,h2,c2⟩:=trodAll_cons c1
 obtain⟨rfl,rfl,rfl⟩:=trodAll_nil c2
 obtain rfl:args=#[v0,v1,v2]:=by cases args;simp_all
 obtain⟨n0,y0,_,e0⟩:=Ld9 (ρ:=fun _=>⟨0,0,0⟩) (H:=[]) (d:=9) (k:=.i64) (es:=1) Tryz.underlying22 (by kernel_rfl) (by kernel_rfl) (by omega) (hval 0 22 v0 rfl rfl) h0
 obtain⟨a0,k0⟩:=pe1 n0 y0
 obtain⟨n1,m1,y1,e1⟩:=Df4 (ρ:=fun _=>⟨0,0,0⟩) (H:=[]) (d:=9) (k:=.i64) (e:=22) (u:=3) Tryz.underlying60 Tryz.underlying22 (by kernel_rfl) (by kernel_rfl) (by kernel_rfl) (hval 1 60 v1 rfl rfl) h1
 obtain⟨a1,k1⟩:=Df5 n1 m1 y1
 obtain⟨n2,y2,_,e2⟩:=Ld9 (ρ:=fun _=>⟨0,0,0⟩) (H:=[]) (d:=9) (k:=.i64) (es:=1) Tryz.underlying22 (by kernel_rfl) (by kernel_rfl) (by omega) (hval 2 22 v2 rfl rfl) h2
 obtain⟨a2,k2⟩:=pe1 n2 y2
 have hlaw:=og9 k0 k1 k2 (k:=fun x0 x1 x2=>.guard (ya3 x0 x1 x2) (.ret ((Go.Ev.L.one r1B).enc (ya2 x0 x1 x2),[]))) (Rf9 (Df3 _ _ _) (Df2 _ _ _))
 refine (Re4 (P:=Tryz.prog) (G:=Go.Ev.Ce.G) (f:=11) oc9 (args:=[v0,v1,v2]) ⟨_,hlaw⟩ rfl (fun i x x' hx hx'=>?_) (fun g c x hx=>by simp[Go.Ev.Ce.G] at hx)).mono fun e W' ⟨he,hs⟩=>?_
 ·match i,hx,hx' with
  | 0,hx,hx'=>cases hx;cases hx';exact e0
  | 1,hx,hx'=>cases hx;cases hx';exact e1
  | 2,hx,hx'=>cases hx;cases hx';exact e2
  | i+3,hx,hx'=>cases hx
 ·subst he
  exact⟨_,rfl,mf8 (kids_rows Df6 Df7) dg1 (by rw[Tryz.params11];simp) hW' rfl (tb:=4) (by kernel_rfl) Tryz.underlying4 rfl rfl rfl hs⟩
noncomputable def Gb2 (os:Os):World:=World.holding Tryz.prog os ⟨#[],#[],[]⟩
noncomputable def Xc6:Array Value:=#[.slice none 0 0,.slice none 0 0,.slice none 0 0]
theorem of4 (os:Os):laidMet Tryz.prog Rows.solidPointsRow.laid ((Gb2 os).forCall (fun _ _=>0) ⟨#[],Xc6,[]⟩).memory :=
 laidMet_of_run' 8 (by kernel_rfl) (by kernel_rfl)
theorem reads (os:Os) {H:Type} (enc:TypeId×Value→H):∃ x,DataW.whole enc Tryz.prog ((Gb2 os).forCall (fun _ _=>0) ⟨#[],Xc6,[]⟩).memory Tryz.f11.params.toList Rows.solidPointsSpec.vars false Xc6.toList 8=some x:=by
 cases h:DataW.whole enc Tryz.prog ((Gb2 os).forCall (fun _ _=>0) ⟨#[],Xc6,[]⟩).memory Tryz.f11.params.toList Rows.solidPointsSpec.vars false Xc6.toList 8 with
 | some x=>exact⟨x,rfl⟩
 | none =>
  have e:(DataW.whole enc Tryz.prog ((Gb2 os).forCall (fun _ _=>0) ⟨#[],Xc6,[]⟩).memory Tryz.f11.params.toList Rows.solidPointsSpec.vars false Xc6.toList 8).isSome=true:=by kernel_rfl
  rw[h] at e;cases e
theorem Sf5 (os : Os) (started : os.Started) (H : Type) (enc : TypeId × Value → H) (F : Stop.Interp) :
  ReturnsInHanded {} Tryz.checked os 11 .any ((OpenSpec.ofChange Rows.solidPointsSpec).preRow enc Tryz.prog Tryz.f11 Rows.solidPointsRow.domain false Rows.solidPointsRow.laid) (((OpenSpec.ofChange Rows.solidPointsSpec).at F).post enc Tryz.prog Tryz.f11 false true false false):=by
 obtain⟨x,hx⟩:=reads os enc
 refine returnsInHanded_of_row (C:=Tryz.checked) (s:=OpenSpec.ofChange Rows.solidPointsSpec) own started (by kernel_rfl) Tryz.func11
  (witness_row_at (enc:=enc) (C:=Tryz.checked) false (Gb2 os) Xc6 rfl (by kernel_rfl) (by kernel_rfl) (by kernel_rfl)
   (OpenSpec.preRow_of_cond 8 hx (by kernel_rfl) (fun k hk=>by cases hk) (by kernel_rfl) (of4 os))) ?_
 intro W base args ds gs before hval hW _ _ _ hL _ _
 exact of3 H enc W base args ds gs before hval hW
theorem solidPoints_holds:Rows.SolidPointsSaid :=
 OpenClaim.holds_of_cond 11 Tryz.f11 rfl rfl rfl rfl rfl rfl rfl ⟨rfl,rfl,rfl,rfl,rfl⟩ rfl rfl rfl rfl rfl (by kernel_rfl) Tryz.func11 (by kernel_rfl)
  (of_decide_eq_true (by kernel_rfl)) (by unfold Func.isWrapper;first | (rw[if_pos (by decide +kernel)];kernel_rfl) | (rw[if_neg (by decide +kernel)];exact⟨rfl,rfl⟩))
  (fun os started H enc _ F=>by rw[OpenClaim.pre_eq_preRow];exact Sf5 os started H enc F)
end Go.Proofs.YtekgjjgbdcgldaaGreat
