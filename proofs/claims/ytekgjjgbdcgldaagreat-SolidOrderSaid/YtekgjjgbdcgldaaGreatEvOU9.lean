/- SolidOrder: Covers does not depend on the order of the cells, and more cells cover more; a solid covers its own cells, and each cell that lies in one that it covers; a full cell that is covered is not apart from it; for every input the law returns true, and each argument reads as before. Conditions: none. -/
import Derived.Test.YtekgjjgbdcgldaaGreatRows
import Derived.Test.YtekgjjgbdcgldaaGreatEvOXA
import Derived.WalkKit
import Derived.ProofKit
import Derived.Deep.DeepHandedRow
import Derived.Lib.LaidTab
import Derived.Carry
set_option linter.all false
namespace Go.Proofs.YtekgjjgbdcgldaaGreat
open Go Go.Ev Go.Ev.L Go.Ev.Ce Go.ChangeShapes Go.RowKit
set_option maxRecDepth 100000
theorem own:ownKnob Tryz.prog.godebug=none:=by kernel_rfl
theorem kf6:laidOutB Tryz.prog=true:=by kernel_rfl
theorem kf7:mapsRowed Tryz.prog=true:=by kernel_rfl
theorem zf8:((List.range Tryz.prog.types.size).all fun t=>match Tryz.prog.underlying t with | some (.slice e)=>Nat.blt 0 (Tryz.prog.cellsOf e) | _=>true)=true:=by kernel_rfl
theorem Kf0 {t e:TypeId} (ht:t < Tryz.prog.types.size) (hu:Tryz.prog.underlying t=some (.slice e)):0 < Tryz.prog.cellsOf e:=by
 have h:=List.all_eq_true.1 zf8 t (by simpa using ht)
 rw[hu] at h
 exact Nat.le_of_ble_eq_true h
theorem Xe1 (H : Type) (enc : TypeId × Value → H) (W : World) (bs : Nat) (args : Array Value) (ds gs : List (DataW H)) (before : List MemPlace)
  (hval:∀ (j:Nat) t v,Tryz.f9.params[j]?=some t→args[j]?=some v→Value.okWide Tryz.prog W .any bs t v)
  (hW:DataW.Whole enc Tryz.prog Tryz.f9.params.toList Rows.solidOrderSpec.vars false W args.toList ds gs before) :
  Calls Tryz.prog 9 args W fun e W'=>∃ v,e=.returned v∧Rows.solidOrderSpec.post enc Tryz.prog Tryz.f9 false true false false W args v W':=by
 have hW':=hW
 obtain⟨p,q,hA0,hV,rfl,hfz,hnd⟩:=hW
 have hA:DataW.TrodAll enc Tryz.prog W 0 (fun _=>true) true Tryz.f9.params.toList args.toList ds p:=hA0
 rw[Tryz.params9] at hA hval
 obtain⟨v0,r0,d0,s0,w0,q0,a0,rfl,rfl,h0,c0⟩:=trodAll_cons hA
 obtain⟨v1,r1,d1,s1,w1,q1,rfl,rfl,rfl,h1,c1⟩:=trodAll_cons c0
 obtain⟨v2,r2,d2,s2,w2,q2,rfl,rfl,rfl,h2,c2⟩:=trodAll_cons c1
 obtain⟨v3,r3,d3,s3,w3,q3,rfl,rfl,rfl,h3,c3⟩:=trodAll_cons c2
 obtain⟨rfl,rfl,rfl⟩:=trodAll_nil c3
 obtain rfl:args=#[v0,v1,v2,v3]:=by cases args;simp_all
 obtain⟨n0,y0,_,e0⟩:=Nc8 (ρ:=fun _=>⟨0,0,0⟩) (H:=[]) (d:=9) (k:=.i64) (es:=1) Tryz.underlying22 (by kernel_rfl) (by kernel_rfl) (by omega) (hval 0 22 v0 rfl rfl) h0
 obtain⟨a0,k0⟩:=nd3 n0 y0
 obtain⟨n1,m1,y1,e1⟩:=kf4 (ρ:=fun _=>⟨0,0,0⟩) (H:=[]) (d:=9) (k:=.i64) (e:=22) (u:=3) Tryz.underlying60 Tryz.underlying22 (by kernel_rfl) (by kernel_rfl) (by kernel_rfl) (hval 1 60 v1 rfl rfl) h1
 obtain⟨a1,k1⟩:=kf5 n1 m1 y1
 obtain⟨n2,y2,_,e2⟩:=Nc8 (ρ:=fun _=>⟨0,0,0⟩) (H:=[]) (d:=9) (k:=.i64) (es:=1) Tryz.underlying22 (by kernel_rfl) (by kernel_rfl) (by omega) (hval 2 22 v2 rfl rfl) h2
 obtain⟨a2,k2⟩:=nd3 n2 y2
 obtain⟨n3,y3,_,e3⟩:=Nc8 (ρ:=fun _=>⟨0,0,0⟩) (H:=[]) (d:=9) (k:=.i64) (es:=1) Tryz.underlying22 (by kernel_rfl) (by kernel_rfl) (by omega) (hval 3 22 v3 rfl rfl) h3
 obtain⟨a3,k3⟩:=nd3 n3 y3
 have hlaw:=Vf3 k0 k1 k2 k3 (k:=fun x0 x1 x2 x3=>.guard (Aa7 x0 x1 x2 x3) (.ret ((Go.Ev.L.one r1B).enc (Aa6 x0 x1 x2 x3),[]))) (zf2 (Fe4 _ _ _ _) (Fe3 _ _ _ _))
 refine (Ee5 (P:=Tryz.prog) (G:=Go.Ev.Ce.G) (f:=9) oc3 (args:=[v0,v1,v2,v3]) ⟨_,hlaw⟩ rfl (fun i x x' hx hx'=>?_) (fun g c x hx=>by simp[Go.Ev.Ce.G] at hx)).mono fun e W' ⟨he,hs⟩=>?_
 ·match i,hx,hx' with
  | 0,hx,hx'=>cases hx;cases hx';exact e0
  | 1,hx,hx'=>cases hx;cases hx';exact e1
  | 2,hx,hx'=>cases hx;cases hx';exact e2
  | 3,hx,hx'=>cases hx;cases hx';exact e3
  | i+4,hx,hx'=>cases hx
 ·subst he
  exact⟨_,rfl,Ve7 (kids_rows kf6 kf7) Kf0 (by rw[Tryz.params9];simp) hW' rfl (tb:=4) (by kernel_rfl) Tryz.underlying4 rfl rfl rfl hs⟩
noncomputable def Cb7 (os:Os):World:=World.holding Tryz.prog os ⟨#[],#[],[]⟩
noncomputable def Sc4:Array Value:=#[.slice none 0 0,.slice none 0 0,.slice none 0 0,.slice none 0 0]
theorem Xe2 (os:Os):laidMet Tryz.prog Rows.solidOrderRow.laid ((Cb7 os).forCall (fun _ _=>0) ⟨#[],Sc4,[]⟩).memory :=
 laidMet_of_run' 8 (by kernel_rfl) (by kernel_rfl)
theorem reads (os:Os) {H:Type} (enc:TypeId×Value→H):∃ x,DataW.whole enc Tryz.prog ((Cb7 os).forCall (fun _ _=>0) ⟨#[],Sc4,[]⟩).memory Tryz.f9.params.toList Rows.solidOrderSpec.vars false Sc4.toList 8=some x:=by
 cases h:DataW.whole enc Tryz.prog ((Cb7 os).forCall (fun _ _=>0) ⟨#[],Sc4,[]⟩).memory Tryz.f9.params.toList Rows.solidOrderSpec.vars false Sc4.toList 8 with
 | some x=>exact⟨x,rfl⟩
 | none =>
  have e:(DataW.whole enc Tryz.prog ((Cb7 os).forCall (fun _ _=>0) ⟨#[],Sc4,[]⟩).memory Tryz.f9.params.toList Rows.solidOrderSpec.vars false Sc4.toList 8).isSome=true:=by kernel_rfl
  rw[h] at e;cases e
theorem zf9 (os : Os) (started : os.Started) (H : Type) (enc : TypeId × Value → H) (F : Stop.Interp) :
  ReturnsInHanded {} Tryz.checked os 9 .any ((OpenSpec.ofChange Rows.solidOrderSpec).preRow enc Tryz.prog Tryz.f9 Rows.solidOrderRow.domain false Rows.solidOrderRow.laid) (((OpenSpec.ofChange Rows.solidOrderSpec).at F).post enc Tryz.prog Tryz.f9 false true false false):=by
 obtain⟨x,hx⟩:=reads os enc
 refine returnsInHanded_of_row (C:=Tryz.checked) (s:=OpenSpec.ofChange Rows.solidOrderSpec) own started (by kernel_rfl) Tryz.func9
  (witness_row_at (enc:=enc) (C:=Tryz.checked) false (Cb7 os) Sc4 rfl (by kernel_rfl) (by kernel_rfl) (by kernel_rfl)
   (OpenSpec.preRow_of_cond 8 hx (by kernel_rfl) (fun k hk=>by cases hk) (by kernel_rfl) (Xe2 os))) ?_
 intro W base args ds gs before hval hW _ _ _ hL _ _
 exact Xe1 H enc W base args ds gs before hval hW
theorem solidOrder_holds:Rows.SolidOrderSaid :=
 OpenClaim.holds_of_cond 9 Tryz.f9 rfl rfl rfl rfl rfl rfl rfl ⟨rfl,rfl,rfl,rfl,rfl⟩ rfl rfl rfl rfl rfl (by kernel_rfl) Tryz.func9 (by kernel_rfl)
  (of_decide_eq_true (by kernel_rfl)) (by unfold Func.isWrapper;first | (rw[if_pos (by decide +kernel)];kernel_rfl) | (rw[if_neg (by decide +kernel)];exact⟨rfl,rfl⟩))
  (fun os started H enc _ F=>by rw[OpenClaim.pre_eq_preRow];exact zf9 os started H enc F)
end Go.Proofs.YtekgjjgbdcgldaaGreat
