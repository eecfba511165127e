/- StockWorlds: whatever was really removed, as long as it contains all cuts and lies within the cuts and the touches: if the verdict is OK, all cells that must be kept are apart from it, and all that must be removed are covered by it; if the verdict is ErrSpoilt, a cell that must be kept is not apart from it; for every input the law returns true, and each argument reads as before. Conditions: none. -/
import Derived.Test.YtigadclidanicaaGreatRows
import Derived.Test.YtigadclidanicaaGreatEvOdV
import Derived.WalkKit
import Derived.ProofKit
import Derived.Deep.DeepHandedRow
import Derived.Lib.LaidTab
import Derived.Carry
set_option linter.all false
namespace Go.Proofs.YtigadclidanicaaGreat
open Go Go.Ev Go.Ev.L Go.Ev.Ce Go.ChangeShapes Go.RowKit
set_option maxRecDepth 100000
theorem own:ownKnob Tryz.prog.godebug=none:=by kernel_rfl
theorem Gf9:laidOutB Tryz.prog=true:=by kernel_rfl
theorem Hf0:mapsRowed Tryz.prog=true:=by kernel_rfl
theorem Xf1:((List.range Tryz.prog.types.size).all fun t=>match Tryz.prog.underlying t with | some (.slice e)=>Nat.blt 0 (Tryz.prog.cellsOf e) | _=>true)=true:=by kernel_rfl
theorem gg8 {t e:TypeId} (ht:t < Tryz.prog.types.size) (hu:Tryz.prog.underlying t=some (.slice e)):0 < Tryz.prog.cellsOf e:=by
 have h:=List.all_eq_true.1 Xf1 t (by simpa using ht)
 rw[hu] at h
 exact Nat.le_of_ble_eq_true h
theorem tf3 (H:Type) (enc:TypeId×Value→H) (W:World) (bs:Nat) (args:Array Value) (ds gs:List (DataW H)) (before:List MemPlace)
  (hval:∀ (j:Nat) t v,Tryz.f6.params[j]?=some t→args[j]?=some v→Value.okWide Tryz.prog W .any bs t v)
  (hW:DataW.Whole enc Tryz.prog Tryz.f6.params.toList Rows.stockWorldsSpec.vars false W args.toList ds gs before) :
  Calls Tryz.prog 6 args W fun e W'=>∃ v,e=.returned v∧Rows.stockWorldsSpec.post enc Tryz.prog Tryz.f6 false true false false W args v W':=by
 have hW':=hW
 obtain⟨p,q,hA0,hV,rfl,hfz,hnd⟩:=hW
 have hA:DataW.TrodAll enc Tryz.prog W 0 (fun _=>true) true Tryz.f6.params.toList args.toList ds p:=hA0
 rw[Tryz.params6] at hA hval
 obtain⟨v0,r0,d0,s0,w0,q0,a0,rfl,rfl,h0,c0⟩:=trodAll_cons hA
 obtain⟨v1,r1,d1,s1,w1,q1,rfl,rfl,rfl,h1,c1⟩:=trodAll_cons c0
 obtain⟨rfl,rfl,rfl⟩:=trodAll_nil c1
 obtain rfl:args=#[v0,v1]:=by cases args;simp_all
 obtain⟨y0,x0,e0⟩:=tf1 (ρ:=fun _=>⟨0,0,0⟩) (H:=[]) (d:=9) Tryz.underlying29 ⟨rfl,rfl⟩ ⟨rfl,rfl⟩ ⟨rfl,rfl⟩ ⟨rfl,rfl⟩ Tryz.underlying23 Tryz.underlying22 Tryz.underlying25 Tryz.underlying24 ⟨by kernel_rfl,by kernel_rfl,by kernel_rfl,by kernel_rfl,by kernel_rfl,by kernel_rfl,by kernel_rfl⟩ (by kernel_rfl) (by kernel_rfl) (hval 0 29 v0 rfl rfl) h0
 obtain⟨a0,k0⟩:=tf2 x0
 obtain⟨y1,x1,e1⟩:=sf8 (ρ:=fun _=>⟨0,0,0⟩) (H:=[]) (F:=de9 W) Tryz.underlying5 (hval 1 5 v1 rfl rfl)
 obtain⟨a1,k1,z1⟩:=sf9 y1 x1
 have hlaw:=qg8 k0 k1 (k:=fun x0 x1=>.guard (Da7 x0 x1) (.ret ((Go.Ev.L.one r1B).enc (Da6 x0 x1),[]))) (Tf9 (Ge7 _ _) (Ge6 _ _))
 refine (We4 (P:=Tryz.prog) (G:=Go.Ev.Ce.G) (f:=6) Dc5 (args:=[v0,v1]) ⟨_,hlaw⟩ rfl (fun i x x' hx hx'=>?_) (fun g c x hx=>by simp[Go.Ev.Ce.G] at hx)).mono fun e W' ⟨he,hs⟩=>?_
 ·match i,hx,hx' with
  | 0,hx,hx'=>cases hx;cases hx';exact e0
  | 1,hx,hx'=>cases hx;cases hx';exact e1
  | i+2,hx,hx'=>cases hx
 ·subst he
  exact⟨_,rfl,mf6 (kids_rows Gf9 Hf0) gg8 (by rw[Tryz.params6];simp) hW' rfl (tb:=4) (by kernel_rfl) Tryz.underlying4 rfl rfl rfl hs⟩
noncomputable def Tb9 (os:Os):World:=World.holding Tryz.prog os ⟨#[],#[],[]⟩
noncomputable def pd0:Array Value:=#[.agg #[.slice none 0 0,.slice none 0 0,.slice none 0 0,.slice none 0 0,.slice none 0 0,.slice none 0 0,.int .i64 0,.int .i64 0,.int .i64 0,.int .i64 0,.int .i64 0,.int .i64 0],.int .u8 0]
theorem tf4 (os:Os):laidMet Tryz.prog Rows.stockWorldsRow.laid ((Tb9 os).forCall (fun _ _=>0) ⟨#[],pd0,[]⟩).memory :=
 laidMet_of_run' 8 (by kernel_rfl) (by kernel_rfl)
theorem reads (os:Os) {H:Type} (enc:TypeId×Value→H):∃ x,DataW.whole enc Tryz.prog ((Tb9 os).forCall (fun _ _=>0) ⟨#[],pd0,[]⟩).memory Tryz.f6.params.toList Rows.stockWorldsSpec.vars false pd0.toList 8=some x:=by
 cases h:DataW.whole enc Tryz.prog ((Tb9 os).forCall (fun _ _=>0) ⟨#[],pd0,[]⟩).memory Tryz.f6.params.toList Rows.stockWorldsSpec.vars false pd0.toList 8 with
 | some x=>exact⟨x,rfl⟩
 | none =>
  have e:(DataW.whole enc Tryz.prog ((Tb9 os).forCall (fun _ _=>0) ⟨#[],pd0,[]⟩).memory Tryz.f6.params.toList Rows.stockWorldsSpec.vars false pd0.toList 8).isSome=true:=by kernel_rfl
  rw[h] at e;cases e
theorem Xf2 (os:Os) (started:os.Started) (H:Type) (enc:TypeId×Value→H) (F:Stop.Interp) :
  ReturnsInHanded {} Tryz.checked os 6 .any ((OpenSpec.ofChange Rows.stockWorldsSpec).preRow enc Tryz.prog Tryz.f6 Rows.stockWorldsRow.domain false Rows.stockWorldsRow.laid) (((OpenSpec.ofChange Rows.stockWorldsSpec).at F).post enc Tryz.prog Tryz.f6 false true false false):=by
 obtain⟨x,hx⟩:=reads os enc
 refine returnsInHanded_of_row (C:=Tryz.checked) (s:=OpenSpec.ofChange Rows.stockWorldsSpec) own started (by kernel_rfl) Tryz.func6
  (witness_row_at (enc:=enc) (C:=Tryz.checked) false (Tb9 os) pd0 rfl (by kernel_rfl) (by kernel_rfl) (by kernel_rfl)
   (OpenSpec.preRow_of_cond 8 hx (by kernel_rfl) (fun k hk=>by cases hk) (by kernel_rfl) (tf4 os))) ?_
 intro W base args ds gs before hval hW _ _ _ hL _ _
 exact tf3 H enc W base args ds gs before hval hW
theorem stockWorlds_holds:Rows.StockWorldsSaid :=
 OpenClaim.holds_of_cond 6 Tryz.f6 rfl rfl rfl rfl rfl rfl rfl ⟨rfl,rfl,rfl,rfl,rfl⟩ rfl rfl rfl rfl rfl (by kernel_rfl) Tryz.func6 (by kernel_rfl)
  (of_decide_eq_true (by kernel_rfl)) (by unfold Func.isWrapper;first | (rw[if_pos (by decide +kernel)];kernel_rfl) | (rw[if_neg (by decide +kernel)];exact⟨rfl,rfl⟩))
  (fun os started H enc _ F=>by rw[OpenClaim.pre_eq_preRow];exact Xf2 os started H enc F)
end Go.Proofs.YtigadclidanicaaGreat
