/- StockOnly: of a made part, one cell that is cut is touched and sure, and no other one; after all cells are cut nothing is left, and the verdict is OK exactly if no cell must be kept; for every input the law returns true, and each argument reads as before. Conditions: none. -/
import Derived.Test.YtigadclidanicaaGreatRows
import Derived.Test.YtigadclidanicaaGreatEvOdQ
import Derived.WalkKit
import Derived.ProofKit
import Derived.Deep.DeepHandedRow
import Derived.Lib.LaidTab
import Derived.Carry
set_option linter.all false
namespace Go.Proofs.YtigadclidanicaaGreat
open Go Go.Ev Go.Ev.L Go.Ev.Ce Go.ChangeShapes Go.RowKit
set_option maxRecDepth 100000
theorem own:ownKnob Tryz.prog.godebug=none:=by kernel_rfl
theorem Ef8:laidOutB Tryz.prog=true:=by kernel_rfl
theorem Ef9:mapsRowed Tryz.prog=true:=by kernel_rfl
theorem Uf7:((List.range Tryz.prog.types.size).all fun t=>match Tryz.prog.underlying t with | some (.slice e)=>Nat.blt 0 (Tryz.prog.cellsOf e) | _=>true)=true:=by kernel_rfl
theorem dg7 {t e:TypeId} (ht:t < Tryz.prog.types.size) (hu:Tryz.prog.underlying t=some (.slice e)):0 < Tryz.prog.cellsOf e:=by
 have h:=List.all_eq_true.1 Uf7 t (by simpa using ht)
 rw[hu] at h
 exact Nat.le_of_ble_eq_true h
theorem qf5 (H:Type) (enc:TypeId×Value→H) (W:World) (bs:Nat) (args:Array Value) (ds gs:List (DataW H)) (before:List MemPlace)
  (hval:∀ (j:Nat) t v,Tryz.f8.params[j]?=some t→args[j]?=some v→Value.okWide Tryz.prog W .any bs t v)
  (hW:DataW.Whole enc Tryz.prog Tryz.f8.params.toList Rows.stockOnlySpec.vars false W args.toList ds gs before) :
  Calls Tryz.prog 8 args W fun e W'=>∃ v,e=.returned v∧Rows.stockOnlySpec.post enc Tryz.prog Tryz.f8 false true false false W args v W':=by
 have hW':=hW
 obtain⟨p,q,hA0,hV,rfl,hfz,hnd⟩:=hW
 have hA:DataW.TrodAll enc Tryz.prog W 0 (fun _=>true) true Tryz.f8.params.toList args.toList ds p:=hA0
 rw[Tryz.params8] at hA hval
 obtain⟨v0,r0,d0,s0,w0,q0,a0,rfl,rfl,h0,c0⟩:=trodAll_cons hA
 obtain⟨v1,r1,d1,s1,w1,q1,rfl,rfl,rfl,h1,c1⟩:=trodAll_cons c0
 obtain⟨rfl,rfl,rfl⟩:=trodAll_nil c1
 obtain rfl:args=#[v0,v1]:=by cases args;simp_all
 obtain⟨m0,n0,y0,z0,e0⟩:=Af7 (ρ:=fun _=>⟨0,0,0⟩) (H:=[]) (d:=9) (k:=.i64) (es:=1) Tryz.underlying23 Tryz.underlying22 (by kernel_rfl) (by kernel_rfl) (by kernel_rfl) (by kernel_rfl) (by omega) (hval 0 23 v0 rfl rfl) h0
 obtain⟨a0,k0⟩:=qf4 m0 n0 y0 z0
 obtain⟨y1,x1,e1⟩:=qf2 (ρ:=fun _=>⟨0,0,0⟩) (H:=[]) (F:=be8 W) Tryz.underlying5 (hval 1 5 v1 rfl rfl)
 obtain⟨a1,k1,z1⟩:=qf3 y1 x1
 have hlaw:=ng6 k0 k1 (k:=fun x0 x1=>.guard (Oa7 x0 x1) (.ret ((Go.Ev.L.one r1B).enc (Oa6 x0 x1),[]))) (Rf8 (qf1 _ _ z1) (qf0 _ _ z1))
 refine (Ve0 (P:=Tryz.prog) (G:=Go.Ev.Ce.G) (f:=8) Lc8 (args:=[v0,v1]) ⟨_,hlaw⟩ rfl (fun i x x' hx hx'=>?_) (fun g c x hx=>by simp[Go.Ev.Ce.G] at hx)).mono fun e W' ⟨he,hs⟩=>?_
 ·match i,hx,hx' with
  | 0,hx,hx'=>cases hx;cases hx';exact e0
  | 1,hx,hx'=>cases hx;cases hx';exact e1
  | i+2,hx,hx'=>cases hx
 ·subst he
  exact⟨_,rfl,kf2 (kids_rows Ef8 Ef9) dg7 (by rw[Tryz.params8];simp) hW' rfl (tb:=4) (by kernel_rfl) Tryz.underlying4 rfl rfl rfl hs⟩
noncomputable def Lb7 (os:Os):World:=World.holding Tryz.prog os ⟨#[],#[],[]⟩
noncomputable def jd8:Array Value:=#[.agg #[.slice none 0 0,.slice none 0 0],.int .u8 0]
theorem qf6 (os:Os):laidMet Tryz.prog Rows.stockOnlyRow.laid ((Lb7 os).forCall (fun _ _=>0) ⟨#[],jd8,[]⟩).memory :=
 laidMet_of_run' 8 (by kernel_rfl) (by kernel_rfl)
theorem reads (os:Os) {H:Type} (enc:TypeId×Value→H):∃ x,DataW.whole enc Tryz.prog ((Lb7 os).forCall (fun _ _=>0) ⟨#[],jd8,[]⟩).memory Tryz.f8.params.toList Rows.stockOnlySpec.vars false jd8.toList 8=some x:=by
 cases h:DataW.whole enc Tryz.prog ((Lb7 os).forCall (fun _ _=>0) ⟨#[],jd8,[]⟩).memory Tryz.f8.params.toList Rows.stockOnlySpec.vars false jd8.toList 8 with
 | some x=>exact⟨x,rfl⟩
 | none =>
  have e:(DataW.whole enc Tryz.prog ((Lb7 os).forCall (fun _ _=>0) ⟨#[],jd8,[]⟩).memory Tryz.f8.params.toList Rows.stockOnlySpec.vars false jd8.toList 8).isSome=true:=by kernel_rfl
  rw[h] at e;cases e
theorem Uf8 (os:Os) (started:os.Started) (H:Type) (enc:TypeId×Value→H) (F:Stop.Interp) :
  ReturnsInHanded {} Tryz.checked os 8 .any ((OpenSpec.ofChange Rows.stockOnlySpec).preRow enc Tryz.prog Tryz.f8 Rows.stockOnlyRow.domain false Rows.stockOnlyRow.laid) (((OpenSpec.ofChange Rows.stockOnlySpec).at F).post enc Tryz.prog Tryz.f8 false true false false):=by
 obtain⟨x,hx⟩:=reads os enc
 refine returnsInHanded_of_row (C:=Tryz.checked) (s:=OpenSpec.ofChange Rows.stockOnlySpec) own started (by kernel_rfl) Tryz.func8
  (witness_row_at (enc:=enc) (C:=Tryz.checked) false (Lb7 os) jd8 rfl (by kernel_rfl) (by kernel_rfl) (by kernel_rfl)
   (OpenSpec.preRow_of_cond 8 hx (by kernel_rfl) (fun k hk=>by cases hk) (by kernel_rfl) (qf6 os))) ?_
 intro W base args ds gs before hval hW _ _ _ hL _ _
 exact qf5 H enc W base args ds gs before hval hW
theorem stockOnly_holds:Rows.StockOnlySaid :=
 OpenClaim.holds_of_cond 8 Tryz.f8 rfl rfl rfl rfl rfl rfl rfl ⟨rfl,rfl,rfl,rfl,rfl⟩ rfl rfl rfl rfl rfl (by kernel_rfl) Tryz.func8 (by kernel_rfl)
  (of_decide_eq_true (by kernel_rfl)) (by unfold Func.isWrapper;first | (rw[if_pos (by decide +kernel)];kernel_rfl) | (rw[if_neg (by decide +kernel)];exact⟨rfl,rfl⟩))
  (fun os started H enc _ F=>by rw[OpenClaim.pre_eq_preRow];exact Uf8 os started H enc F)
end Go.Proofs.YtigadclidanicaaGreat
