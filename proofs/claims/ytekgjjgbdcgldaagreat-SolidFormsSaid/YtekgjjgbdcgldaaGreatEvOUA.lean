/- SolidForms: Check, Minus, Covers, Apart and Same return what the reference returns, for made cells and solids, such with a change, and any planes; for every input the law returns true, and each argument reads as before. Conditions: none. -/
import Derived.Test.YtekgjjgbdcgldaaGreatRows
import Derived.Test.YtekgjjgbdcgldaaGreatEvOXJ
import Derived.WalkKit
import Derived.ProofKit
import Derived.Deep.DeepHandedRow
import Derived.Lib.LaidTab
import Derived.Carry
set_option linter.all false
namespace Go.Proofs.YtekgjjgbdcgldaaGreat
open Go Go.Ev Go.Ev.L Go.Ev.Ce Go.ChangeShapes Go.RowKit
set_option maxRecDepth 100000
theorem own:ownKnob Tryz.prog.godebug=none:=by kernel_rfl
theorem Bf7:laidOutB Tryz.prog=true:=by kernel_rfl
theorem Bf8:mapsRowed Tryz.prog=true:=by kernel_rfl
theorem Pf7:((List.range Tryz.prog.types.size).all fun t=>match Tryz.prog.underlying t with | some (.slice e)=>Nat.blt 0 (Tryz.prog.cellsOf e) | _=>true)=true:=by kernel_rfl
theorem ag4 {t e:TypeId} (ht:t < Tryz.prog.types.size) (hu:Tryz.prog.underlying t=some (.slice e)):0 < Tryz.prog.cellsOf e:=by
 have h:=List.all_eq_true.1 Pf7 t (by simpa using ht)
 rw[hu] at h
 exact Nat.le_of_ble_eq_true h
theorem of5 (H : Type) (enc : TypeId × Value → H) (W : World) (bs : Nat) (args : Array Value) (ds gs : List (DataW H)) (before : List MemPlace)
  (hval:∀ (j:Nat) t v,Tryz.f7.params[j]?=some t→args[j]?=some v→Value.okWide Tryz.prog W .any bs t v)
  (hW:DataW.Whole enc Tryz.prog Tryz.f7.params.toList Rows.solidFormsSpec.vars false W args.toList ds gs before) :
  Calls Tryz.prog 7 args W fun e W'=>∃ v,e=.returned v∧Rows.solidFormsSpec.post enc Tryz.prog Tryz.f7 false true false false W args v W':=by
 have hW':=hW
 obtain⟨p,q,hA0,hV,rfl,hfz,hnd⟩:=hW
 have hA:DataW.TrodAll enc Tryz.prog W 0 (fun _=>true) true Tryz.f7.params.toList args.toList ds p:=hA0
 rw[Tryz.params7] at hA hval
 obtain⟨v0,r0,d0,s0,w0,q0,a0,rfl,rfl,h0,c0⟩:=trodAll_cons hA
 obtain⟨v1,r1,d1,s1,w1,q1,rfl,rfl,rfl,h1,c1⟩:=trodAll_cons c0
 obtain⟨v2,r2,d2,s2,w2,q2,rfl,rfl,rfl,h2,c2⟩:=trodAll_cons c1
 obtain⟨v3,r3,d3,s3,w3,q3,rfl,rfl,rfl,h3,c3⟩:=trodAll_cons c2
 obtain⟨v4,r4,d4,s4,w4,q4,rfl,rfl,rfl,h4,c4⟩:=trodAll_cons c3
 obtain⟨rfl,rfl,rfl⟩:=trodAll_nil c4
 obtain rfl:args=#[v0,v1,v2,v3,v4]:=by cases args;simp_all
 obtain⟨n0,y0,_,e0⟩:=Td2 (ρ:=fun _=>⟨0,0,0⟩) (H:=[]) (d:=9) (k:=.i64) (es:=1) Tryz.underlying22 (by kernel_rfl) (by kernel_rfl) (by omega) (hval 0 22 v0 rfl rfl) h0
 obtain⟨a0,k0⟩:=mf9 n0 y0
 obtain⟨n1,m1,y1,e1⟩:=Bf5 (ρ:=fun _=>⟨0,0,0⟩) (H:=[]) (d:=9) (k:=.i64) (e:=22) (u:=3) Tryz.underlying60 Tryz.underlying22 (by kernel_rfl) (by kernel_rfl) (by kernel_rfl) (hval 1 60 v1 rfl rfl) h1
 obtain⟨a1,k1⟩:=Bf6 n1 m1 y1
 obtain⟨y2,e2⟩:=Af2 (ρ:=fun _=>⟨0,0,0⟩) (H:=[]) (F:=Jc0 W) (d:=9) (k:=.i64) (es:=3) (t:=23) (by kernel_rfl) (by kernel_rfl) (by kernel_rfl) (hval 2 23 v2 rfl rfl) h2
 obtain⟨a2,k2⟩:=Af3 tV (cs:=Va0 .i64 3 y2) rfl
 obtain⟨n3,y3,_,e3⟩:=Td2 (ρ:=fun _=>⟨0,0,0⟩) (H:=[]) (d:=9) (k:=.i64) (es:=4) Tryz.underlying24 (by kernel_rfl) (by kernel_rfl) (by omega) (hval 3 24 v3 rfl rfl) h3
 obtain⟨a3,k3⟩:=ve0 tP n3 y3 (fun g=>⟨⟨g 0,g 1,g 2⟩,g 3⟩) fun _=>rfl
 obtain⟨y4,x4,e4⟩:=of3 (ρ:=fun _=>⟨0,0,0⟩) (H:=[]) (F:=Jc0 W) Tryz.underlying5 (hval 4 5 v4 rfl rfl)
 obtain⟨a4,k4,z4⟩:=of4 y4 x4
 have hlaw:=mg8 k0 k1 k2 k3 k4 (k:=fun x0 x1 x2 x3 x4=>.guard (Ea7 x0 x1 x2 x3 x4) (.ret ((Go.Ev.L.one r1B).enc (Ea6 x0 x1 x2 x3 x4),[]))) (Pf2 (Ve6 _ _ _ _ _ z4) (Ve5 _ _ _ _ _ z4))
 refine (Ve0 (P:=Tryz.prog) (G:=Go.Ev.Ce.G) (f:=7) Ac0 (args:=[v0,v1,v2,v3,v4]) ⟨_,hlaw⟩ rfl (fun i x x' hx hx'=>?_) (fun g c x hx=>by simp[Go.Ev.Ce.G] at hx)).mono fun e W' ⟨he,hs⟩=>?_
 ·match i,hx,hx' with
  | 0,hx,hx'=>cases hx;cases hx';exact e0
  | 1,hx,hx'=>cases hx;cases hx';exact e1
  | 2,hx,hx'=>cases hx;cases hx';exact e2
  | 3,hx,hx'=>cases hx;cases hx';exact e3
  | 4,hx,hx'=>cases hx;cases hx';exact e4
  | i+5,hx,hx'=>cases hx
 ·subst he
  exact⟨_,rfl,mf5 (kids_rows Bf7 Bf8) ag4 (by rw[Tryz.params7];simp) hW' rfl (tb:=4) (by kernel_rfl) Tryz.underlying4 rfl rfl rfl hs⟩
noncomputable def Lb5 (os:Os):World:=World.holding Tryz.prog os ⟨#[],#[],[]⟩
noncomputable def fd4:Array Value:=#[.slice none 0 0,.slice none 0 0,.agg (Array.replicate 3 (.int .i64 0)),.slice none 0 0,.int .u8 0]
theorem of6 (os:Os):laidMet Tryz.prog Rows.solidFormsRow.laid ((Lb5 os).forCall (fun _ _=>0) ⟨#[],fd4,[]⟩).memory :=
 laidMet_of_run' 8 (by kernel_rfl) (by kernel_rfl)
theorem reads (os:Os) {H:Type} (enc:TypeId×Value→H):∃ x,DataW.whole enc Tryz.prog ((Lb5 os).forCall (fun _ _=>0) ⟨#[],fd4,[]⟩).memory Tryz.f7.params.toList Rows.solidFormsSpec.vars false fd4.toList 8=some x:=by
 cases h:DataW.whole enc Tryz.prog ((Lb5 os).forCall (fun _ _=>0) ⟨#[],fd4,[]⟩).memory Tryz.f7.params.toList Rows.solidFormsSpec.vars false fd4.toList 8 with
 | some x=>exact⟨x,rfl⟩
 | none =>
  have e:(DataW.whole enc Tryz.prog ((Lb5 os).forCall (fun _ _=>0) ⟨#[],fd4,[]⟩).memory Tryz.f7.params.toList Rows.solidFormsSpec.vars false fd4.toList 8).isSome=true:=by kernel_rfl
  rw[h] at e;cases e
theorem Pf8 (os : Os) (started : os.Started) (H : Type) (enc : TypeId × Value → H) (F : Stop.Interp) :
  ReturnsInHanded {} Tryz.checked os 7 .any ((OpenSpec.ofChange Rows.solidFormsSpec).preRow enc Tryz.prog Tryz.f7 Rows.solidFormsRow.domain false Rows.solidFormsRow.laid) (((OpenSpec.ofChange Rows.solidFormsSpec).at F).post enc Tryz.prog Tryz.f7 false true false false):=by
 obtain⟨x,hx⟩:=reads os enc
 refine returnsInHanded_of_row (C:=Tryz.checked) (s:=OpenSpec.ofChange Rows.solidFormsSpec) own started (by kernel_rfl) Tryz.func7
  (witness_row_at (enc:=enc) (C:=Tryz.checked) false (Lb5 os) fd4 rfl (by kernel_rfl) (by kernel_rfl) (by kernel_rfl)
   (OpenSpec.preRow_of_cond 8 hx (by kernel_rfl) (fun k hk=>by cases hk) (by kernel_rfl) (of6 os))) ?_
 intro W base args ds gs before hval hW _ _ _ hL _ _
 exact of5 H enc W base args ds gs before hval hW
theorem solidForms_holds:Rows.SolidFormsSaid :=
 OpenClaim.holds_of_cond 7 Tryz.f7 rfl rfl rfl rfl rfl rfl rfl ⟨rfl,rfl,rfl,rfl,rfl⟩ rfl rfl rfl rfl rfl (by kernel_rfl) Tryz.func7 (by kernel_rfl)
  (of_decide_eq_true (by kernel_rfl)) (by unfold Func.isWrapper;first | (rw[if_pos (by decide +kernel)];kernel_rfl) | (rw[if_neg (by decide +kernel)];exact⟨rfl,rfl⟩))
  (fun os started H enc _ F=>by rw[OpenClaim.pre_eq_preRow];exact Pf8 os started H enc F)
end Go.Proofs.YtekgjjgbdcgldaaGreat
