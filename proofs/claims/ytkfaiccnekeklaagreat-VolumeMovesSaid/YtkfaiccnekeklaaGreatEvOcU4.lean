/- VolumeMoves: Six is the same for points that are moved, turned, mirrored and sheared, as long as they stay in the workspace, and eight times as great for twice the coordinates; for every input the law returns true, and each argument reads as before. Conditions: none. -/
import Derived.Test.YtkfaiccnekeklaaGreatRows
import Derived.Test.YtkfaiccnekeklaaGreatEvOcQ
import Derived.WalkKit
import Derived.ProofKit
import Derived.Deep.DeepHandedRow
import Derived.Lib.LaidTab
import Derived.Carry
set_option linter.all false
namespace Go.Proofs.YtkfaiccnekeklaaGreat
open Go Go.Ev Go.Ev.L Go.Ev.Ce Go.ChangeShapes Go.RowKit
set_option maxRecDepth 100000
theorem own:ownKnob Tryz.prog.godebug=none:=by kernel_rfl
theorem fe8:laidOutB Tryz.prog=true:=by kernel_rfl
theorem fe9:mapsRowed Tryz.prog=true:=by kernel_rfl
theorem te5:((List.range Tryz.prog.types.size).all fun t=>match Tryz.prog.underlying t with | some (.slice e)=>Nat.blt 0 (Tryz.prog.cellsOf e) | _=>true)=true:=by kernel_rfl
theorem Ae6 {t e:TypeId} (ht:t < Tryz.prog.types.size) (hu:Tryz.prog.underlying t=some (.slice e)):0 < Tryz.prog.cellsOf e:=by
 have h:=List.all_eq_true.1 te5 t (by simpa using ht)
 rw[hu] at h
 exact Nat.le_of_ble_eq_true h
theorem Td0 (H : Type) (enc : TypeId × Value → H) (W : World) (bs : Nat) (args : Array Value) (ds gs : List (DataW H)) (before : List MemPlace)
  (hval:∀ (j:Nat) t v,Tryz.f4.params[j]?=some t→args[j]?=some v→Value.okWide Tryz.prog W .any bs t v)
  (hW:DataW.Whole enc Tryz.prog Tryz.f4.params.toList Rows.volumeMovesSpec.vars false W args.toList ds gs before) :
  Calls Tryz.prog 4 args W fun e W'=>∃ v,e=.returned v∧Rows.volumeMovesSpec.post enc Tryz.prog Tryz.f4 false true false false W args v W':=by
 have hW':=hW
 obtain⟨p,q,hA0,hV,rfl,hfz,hnd⟩:=hW
 have hA:DataW.TrodAll enc Tryz.prog W 0 (fun _=>true) true Tryz.f4.params.toList args.toList ds p:=hA0
 rw[Tryz.params4] at hA hval
 obtain⟨v0,r0,d0,s0,w0,q0,a0,rfl,rfl,h0,c0⟩:=trodAll_cons hA
 obtain⟨v1,r1,d1,s1,w1,q1,rfl,rfl,rfl,h1,c1⟩:=trodAll_cons c0
 obtain⟨v2,r2,d2,s2,w2,q2,rfl,rfl,rfl,h2,c2⟩:=trodAll_cons c1
 obtain⟨rfl,rfl,rfl⟩:=trodAll_nil c2
 obtain rfl:args=#[v0,v1,v2]:=by cases args;simp_all
 obtain⟨n0,y0,_,e0⟩:=Bd7 (ρ:=fun _=>⟨0,0,0⟩) (H:=[]) (d:=9) (k:=.i64) (es:=1) Tryz.underlying22 (by kernel_rfl) (by kernel_rfl) (by omega) (hval 0 22 v0 rfl rfl) h0
 obtain⟨a0,k0⟩:=Sd1 n0 y0
 obtain⟨y1,x1,e1⟩:=fe7 (ρ:=fun _=>⟨0,0,0⟩) (H:=[]) (F:=Pc4 W) (d:=9) Tryz.underlying38 Tryz.underlying5 (by kernel_rfl) (by kernel_rfl) (by kernel_rfl) (hval 1 38 v1 rfl rfl) h1
 obtain⟨a1,k1,z1⟩:=Cd4 y1 x1
 obtain⟨y2,x2,e2⟩:=te4 (ρ:=fun _=>⟨0,0,0⟩) (H:=[]) (F:=Pc4 W) (d:=9) Tryz.underlying39 Tryz.underlying5 (by kernel_rfl) (by kernel_rfl) (by kernel_rfl) (hval 2 39 v2 rfl rfl) h2
 obtain⟨a2,k2,z2⟩:=Cd5 y2 x2
 have hlaw:=Ge7 k0 k1 k2 (k:=fun x0 x1 x2=>.guard (ea8 x0 x1 x2) (.ret ((Go.Ev.L.one r1B).enc (ea7 x0 x1 x2),[]))) (se5 (fe6 _ _ _ z1 z2) (fe5 _ _ _ z1 z2))
 refine (Bd6 (P:=Tryz.prog) (G:=Go.Ev.Ce.G) (f:=4) sb7 (args:=[v0,v1,v2]) ⟨_,hlaw⟩ rfl (fun i x x' hx hx'=>?_) (fun g c x hx=>by simp[Go.Ev.Ce.G] at hx)).mono fun e W' ⟨he,hs⟩=>?_
 ·match i,hx,hx' with
  | 0,hx,hx'=>cases hx;cases hx';exact e0
  | 1,hx,hx'=>cases hx;cases hx';exact e1
  | 2,hx,hx'=>cases hx;cases hx';exact e2
  | i+3,hx,hx'=>cases hx
 ·subst he
  exact⟨_,rfl,Rd5 (kids_rows fe8 fe9) Ae6 (by rw[Tryz.params4];simp) hW' rfl (tb:=4) (by kernel_rfl) Tryz.underlying4 rfl rfl rfl hs⟩
noncomputable def Ta5 (os:Os):World:=World.holding Tryz.prog os ⟨#[],#[],[]⟩
noncomputable def Zb4:Array Value:=#[.slice none 0 0,.agg (Array.replicate 3 (.int .u8 0)),.agg (Array.replicate 4 (.int .u8 0))]
theorem Td1 (os:Os):laidMet Tryz.prog Rows.volumeMovesRow.laid ((Ta5 os).forCall (fun _ _=>0) ⟨#[],Zb4,[]⟩).memory :=
 laidMet_of_run' 8 (by kernel_rfl) (by kernel_rfl)
theorem reads (os:Os) {H:Type} (enc:TypeId×Value→H):∃ x,DataW.whole enc Tryz.prog ((Ta5 os).forCall (fun _ _=>0) ⟨#[],Zb4,[]⟩).memory Tryz.f4.params.toList Rows.volumeMovesSpec.vars false Zb4.toList 8=some x:=by
 cases h:DataW.whole enc Tryz.prog ((Ta5 os).forCall (fun _ _=>0) ⟨#[],Zb4,[]⟩).memory Tryz.f4.params.toList Rows.volumeMovesSpec.vars false Zb4.toList 8 with
 | some x=>exact⟨x,rfl⟩
 | none =>
  have e:(DataW.whole enc Tryz.prog ((Ta5 os).forCall (fun _ _=>0) ⟨#[],Zb4,[]⟩).memory Tryz.f4.params.toList Rows.volumeMovesSpec.vars false Zb4.toList 8).isSome=true:=by kernel_rfl
  rw[h] at e;cases e
theorem te6 (os : Os) (started : os.Started) (H : Type) (enc : TypeId × Value → H) (F : Stop.Interp) :
  ReturnsInHanded {} Tryz.checked os 4 .any ((OpenSpec.ofChange Rows.volumeMovesSpec).preRow enc Tryz.prog Tryz.f4 Rows.volumeMovesRow.domain false Rows.volumeMovesRow.laid) (((OpenSpec.ofChange Rows.volumeMovesSpec).at F).post enc Tryz.prog Tryz.f4 false true false false):=by
 obtain⟨x,hx⟩:=reads os enc
 refine returnsInHanded_of_row (C:=Tryz.checked) (s:=OpenSpec.ofChange Rows.volumeMovesSpec) own started (by kernel_rfl) Tryz.func4
  (witness_row_at (enc:=enc) (C:=Tryz.checked) false (Ta5 os) Zb4 rfl (by kernel_rfl) (by kernel_rfl) (by kernel_rfl)
   (OpenSpec.preRow_of_cond 8 hx (by kernel_rfl) (fun k hk=>by cases hk) (by kernel_rfl) (Td1 os))) ?_
 intro W base args ds gs before hval hW _ _ _ hL _ _
 exact Td0 H enc W base args ds gs before hval hW
theorem volumeMoves_holds:Rows.VolumeMovesSaid :=
 OpenClaim.holds_of_cond 4 Tryz.f4 rfl rfl rfl rfl rfl rfl rfl ⟨rfl,rfl,rfl,rfl,rfl⟩ rfl rfl rfl rfl rfl (by kernel_rfl) Tryz.func4 (by kernel_rfl)
  (of_decide_eq_true (by kernel_rfl)) (by unfold Func.isWrapper;first | (rw[if_pos (by decide +kernel)];kernel_rfl) | (rw[if_neg (by decide +kernel)];exact⟨rfl,rfl⟩))
  (fun os started H enc _ F=>by rw[OpenClaim.pre_eq_preRow];exact te6 os started H enc F)
end Go.Proofs.YtkfaiccnekeklaaGreat
