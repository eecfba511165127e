/- SolidHalves: both parts into which a plane divides a cell cover it together, and are the same solid; one of them alone covers it exactly if the other one is not full; for every input the law returns true, and each argument reads as before. Conditions: none. -/
import Derived.Test.YtekgjjgbdcgldaaGreatRows
import Derived.Test.YtekgjjgbdcgldaaGreatEvOXE
import Derived.WalkKit
import Derived.ProofKit
import Derived.Deep.DeepHandedRow
import Derived.Lib.LaidTab
import Derived.Carry
set_option linter.all false
namespace Go.Proofs.YtekgjjgbdcgldaaGreat
open Go Go.Ev Go.Ev.L Go.Ev.Ce Go.ChangeShapes Go.RowKit
set_option maxRecDepth 100000
theorem own:ownKnob Tryz.prog.godebug=none:=by kernel_rfl
theorem df1:laidOutB Tryz.prog=true:=by kernel_rfl
theorem df2:mapsRowed Tryz.prog=true:=by kernel_rfl
theorem sf2:((List.range Tryz.prog.types.size).all fun t=>match Tryz.prog.underlying t with | some (.slice e)=>Nat.blt 0 (Tryz.prog.cellsOf e) | _=>true)=true:=by kernel_rfl
theorem Cf1 {t e:TypeId} (ht:t < Tryz.prog.types.size) (hu:Tryz.prog.underlying t=some (.slice e)):0 < Tryz.prog.cellsOf e:=by
 have h:=List.all_eq_true.1 sf2 t (by simpa using ht)
 rw[hu] at h
 exact Nat.le_of_ble_eq_true h
theorem Qe9 (H : Type) (enc : TypeId × Value → H) (W : World) (bs : Nat) (args : Array Value) (ds gs : List (DataW H)) (before : List MemPlace)
  (hval:∀ (j:Nat) t v,Tryz.f8.params[j]?=some t→args[j]?=some v→Value.okWide Tryz.prog W .any bs t v)
  (hW:DataW.Whole enc Tryz.prog Tryz.f8.params.toList Rows.solidHalvesSpec.vars false W args.toList ds gs before) :
  Calls Tryz.prog 8 args W fun e W'=>∃ v,e=.returned v∧Rows.solidHalvesSpec.post enc Tryz.prog Tryz.f8 false true false false W args v W':=by
 have hW':=hW
 obtain⟨p,q,hA0,hV,rfl,hfz,hnd⟩:=hW
 have hA:DataW.TrodAll enc Tryz.prog W 0 (fun _=>true) true Tryz.f8.params.toList args.toList ds p:=hA0
 rw[Tryz.params8] at hA hval
 obtain⟨v0,r0,d0,s0,w0,q0,a0,rfl,rfl,h0,c0⟩:=trodAll_cons hA
 obtain⟨v1,r1,d1,s1,w1,q1,rfl,rfl,rfl,h1,c1⟩:=trodAll_cons c0
 obtain⟨v2,r2,d2,s2,w2,q2,rfl,rfl,rfl,h2,c2⟩:=trodAll_cons c1
 obtain⟨rfl,rfl,rfl⟩:=trodAll_nil c2
 obtain rfl:args=#[v0,v1,v2]:=by cases args;simp_all
 obtain⟨n0,y0,_,e0⟩:=Jc4 (ρ:=fun _=>⟨0,0,0⟩) (H:=[]) (d:=9) (k:=.i64) (es:=1) Tryz.underlying22 (by kernel_rfl) (by kernel_rfl) (by omega) (hval 0 22 v0 rfl rfl) h0
 obtain⟨a0,k0⟩:=id5 n0 y0
 obtain⟨n1,y1,_,e1⟩:=Jc4 (ρ:=fun _=>⟨0,0,0⟩) (H:=[]) (d:=9) (k:=.i64) (es:=1) Tryz.underlying22 (by kernel_rfl) (by kernel_rfl) (by omega) (hval 1 22 v1 rfl rfl) h1
 obtain⟨a1,k1⟩:=id5 n1 y1
 obtain⟨n2,y2,_,e2⟩:=Jc4 (ρ:=fun _=>⟨0,0,0⟩) (H:=[]) (d:=9) (k:=.i64) (es:=1) Tryz.underlying22 (by kernel_rfl) (by kernel_rfl) (by omega) (hval 2 22 v2 rfl rfl) h2
 obtain⟨a2,k2⟩:=id5 n2 y2
 have hlaw:=Mf8 k0 k1 k2 (k:=fun x0 x1 x2=>.guard (ta5 x0 x1 x2) (.ret ((Go.Ev.L.one r1B).enc (ta4 x0 x1 x2),[]))) (rf9 (Qe8 _ _ _) (Qe7 _ _ _))
 refine (ye1 (P:=Tryz.prog) (G:=Go.Ev.Ce.G) (f:=8) fc3 (args:=[v0,v1,v2]) ⟨_,hlaw⟩ rfl (fun i x x' hx hx'=>?_) (fun g c x hx=>by simp[Go.Ev.Ce.G] at hx)).mono fun e W' ⟨he,hs⟩=>?_
 ·match i,hx,hx' with
  | 0,hx,hx'=>cases hx;cases hx';exact e0
  | 1,hx,hx'=>cases hx;cases hx';exact e1
  | 2,hx,hx'=>cases hx;cases hx';exact e2
  | i+3,hx,hx'=>cases hx
 ·subst he
  exact⟨_,rfl,Pe2 (kids_rows df1 df2) Cf1 (by rw[Tryz.params8];simp) hW' rfl (tb:=4) (by kernel_rfl) Tryz.underlying4 rfl rfl rfl hs⟩
noncomputable def yb6 (os:Os):World:=World.holding Tryz.prog os ⟨#[],#[],[]⟩
noncomputable def Nc7:Array Value:=#[.slice none 0 0,.slice none 0 0,.slice none 0 0]
theorem Re0 (os:Os):laidMet Tryz.prog Rows.solidHalvesRow.laid ((yb6 os).forCall (fun _ _=>0) ⟨#[],Nc7,[]⟩).memory :=
 laidMet_of_run' 8 (by kernel_rfl) (by kernel_rfl)
theorem reads (os:Os) {H:Type} (enc:TypeId×Value→H):∃ x,DataW.whole enc Tryz.prog ((yb6 os).forCall (fun _ _=>0) ⟨#[],Nc7,[]⟩).memory Tryz.f8.params.toList Rows.solidHalvesSpec.vars false Nc7.toList 8=some x:=by
 cases h:DataW.whole enc Tryz.prog ((yb6 os).forCall (fun _ _=>0) ⟨#[],Nc7,[]⟩).memory Tryz.f8.params.toList Rows.solidHalvesSpec.vars false Nc7.toList 8 with
 | some x=>exact⟨x,rfl⟩
 | none =>
  have e:(DataW.whole enc Tryz.prog ((yb6 os).forCall (fun _ _=>0) ⟨#[],Nc7,[]⟩).memory Tryz.f8.params.toList Rows.solidHalvesSpec.vars false Nc7.toList 8).isSome=true:=by kernel_rfl
  rw[h] at e;cases e
theorem sf3 (os : Os) (started : os.Started) (H : Type) (enc : TypeId × Value → H) (F : Stop.Interp) :
  ReturnsInHanded {} Tryz.checked os 8 .any ((OpenSpec.ofChange Rows.solidHalvesSpec).preRow enc Tryz.prog Tryz.f8 Rows.solidHalvesRow.domain false Rows.solidHalvesRow.laid) (((OpenSpec.ofChange Rows.solidHalvesSpec).at F).post enc Tryz.prog Tryz.f8 false true false false):=by
 obtain⟨x,hx⟩:=reads os enc
 refine returnsInHanded_of_row (C:=Tryz.checked) (s:=OpenSpec.ofChange Rows.solidHalvesSpec) own started (by kernel_rfl) Tryz.func8
  (witness_row_at (enc:=enc) (C:=Tryz.checked) false (yb6 os) Nc7 rfl (by kernel_rfl) (by kernel_rfl) (by kernel_rfl)
   (OpenSpec.preRow_of_cond 8 hx (by kernel_rfl) (fun k hk=>by cases hk) (by kernel_rfl) (Re0 os))) ?_
 intro W base args ds gs before hval hW _ _ _ hL _ _
 exact Qe9 H enc W base args ds gs before hval hW
theorem solidHalves_holds:Rows.SolidHalvesSaid :=
 OpenClaim.holds_of_cond 8 Tryz.f8 rfl rfl rfl rfl rfl rfl rfl ⟨rfl,rfl,rfl,rfl,rfl⟩ rfl rfl rfl rfl rfl (by kernel_rfl) Tryz.func8 (by kernel_rfl)
  (of_decide_eq_true (by kernel_rfl)) (by unfold Func.isWrapper;first | (rw[if_pos (by decide +kernel)];kernel_rfl) | (rw[if_neg (by decide +kernel)];exact⟨rfl,rfl⟩))
  (fun os started H enc _ F=>by rw[OpenClaim.pre_eq_preRow];exact sf3 os started H enc F)
end Go.Proofs.YtekgjjgbdcgldaaGreat
