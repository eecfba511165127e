/- VolumeKeeps: neither the order of points, nor points twice, nor points that are no vertices change Six; with a further point it is not less, and it is greater exactly if this point does not lie in the hull; for every input the law returns true, and each argument reads as before. Conditions: none. -/
import Derived.Test.YtkfaiccnekeklaaGreatRows
import Derived.Test.YtkfaiccnekeklaaGreatEvOcJ
import Derived.WalkKit
import Derived.ProofKit
import Derived.Deep.DeepHandedRow
import Derived.Lib.LaidTab
import Derived.Carry
set_option linter.all false
namespace Go.Proofs.YtkfaiccnekeklaaGreat
open Go Go.Ev Go.Ev.L Go.Ev.Ce Go.ChangeShapes Go.RowKit
set_option maxRecDepth 100000
theorem own:ownKnob Tryz.prog.godebug=none:=by kernel_rfl
theorem ge8:laidOutB Tryz.prog=true:=by kernel_rfl
theorem ge9:mapsRowed Tryz.prog=true:=by kernel_rfl
theorem ue0:((List.range Tryz.prog.types.size).all fun t=>match Tryz.prog.underlying t with | some (.slice e)=>Nat.blt 0 (Tryz.prog.cellsOf e) | _=>true)=true:=by kernel_rfl
theorem Ae9 {t e:TypeId} (ht:t < Tryz.prog.types.size) (hu:Tryz.prog.underlying t=some (.slice e)):0 < Tryz.prog.cellsOf e:=by
 have h:=List.all_eq_true.1 ue0 t (by simpa using ht)
 rw[hu] at h
 exact Nat.le_of_ble_eq_true h
theorem Td8 (H : Type) (enc : TypeId × Value → H) (W : World) (bs : Nat) (args : Array Value) (ds gs : List (DataW H)) (before : List MemPlace)
  (hval:∀ (j:Nat) t v,Tryz.f7.params[j]?=some t→args[j]?=some v→Value.okWide Tryz.prog W .any bs t v)
  (hW:DataW.Whole enc Tryz.prog Tryz.f7.params.toList Rows.volumeKeepsSpec.vars false W args.toList ds gs before) :
  Calls Tryz.prog 7 args W fun e W'=>∃ v,e=.returned v∧Rows.volumeKeepsSpec.post enc Tryz.prog Tryz.f7 false true false false W args v W':=by
 have hW':=hW
 obtain⟨p,q,hA0,hV,rfl,hfz,hnd⟩:=hW
 have hA:DataW.TrodAll enc Tryz.prog W 0 (fun _=>true) true Tryz.f7.params.toList args.toList ds p:=hA0
 rw[Tryz.params7] at hA hval
 obtain⟨v0,r0,d0,s0,w0,q0,a0,rfl,rfl,h0,c0⟩:=trodAll_cons hA
 obtain⟨v1,r1,d1,s1,w1,q1,rfl,rfl,rfl,h1,c1⟩:=trodAll_cons c0
 obtain⟨v2,r2,d2,s2,w2,q2,rfl,rfl,rfl,h2,c2⟩:=trodAll_cons c1
 obtain⟨rfl,rfl,rfl⟩:=trodAll_nil c2
 obtain rfl:args=#[v0,v1,v2]:=by cases args;simp_all
 obtain⟨n0,y0,_,e0⟩:=Cd1 (ρ:=fun _=>⟨0,0,0⟩) (H:=[]) (d:=9) (k:=.i64) (es:=1) Tryz.underlying22 (by kernel_rfl) (by kernel_rfl) (by omega) (hval 0 22 v0 rfl rfl) h0
 obtain⟨a0,k0⟩:=Sd4 n0 y0
 obtain⟨y1,x1,e1⟩:=Td6 (ρ:=fun _=>⟨0,0,0⟩) (H:=[]) (F:=Qc3 W) Tryz.underlying5 (hval 1 5 v1 rfl rfl)
 obtain⟨a1,k1,z1⟩:=Td7 y1 x1
 obtain⟨y2,e2⟩:=fe8 (ρ:=fun _=>⟨0,0,0⟩) (H:=[]) (F:=Qc3 W) (d:=9) (k:=.i64) (es:=3) (t:=25) (by kernel_rfl) (by kernel_rfl) (by kernel_rfl) (hval 2 25 v2 rfl rfl) h2
 obtain⟨a2,k2⟩:=fe9 tV (cs:=sa7 .i64 3 y2) rfl
 have hlaw:=He3 k0 k1 k2 (k:=fun x0 x1 x2=>.guard (fa6 x0 x1 x2) (.ret ((Go.Ev.L.one r1B).enc (fa5 x0 x1 x2),[]))) (te1 (ge7 _ _ _ z1) (ge6 _ _ _ z1))
 refine (Cd0 (P:=Tryz.prog) (G:=Go.Ev.Ce.G) (f:=7) ub5 (args:=[v0,v1,v2]) ⟨_,hlaw⟩ rfl (fun i x x' hx hx'=>?_) (fun g c x hx=>by simp[Go.Ev.Ce.G] at hx)).mono fun e W' ⟨he,hs⟩=>?_
 ·match i,hx,hx' with
  | 0,hx,hx'=>cases hx;cases hx';exact e0
  | 1,hx,hx'=>cases hx;cases hx';exact e1
  | 2,hx,hx'=>cases hx;cases hx';exact e2
  | i+3,hx,hx'=>cases hx
 ·subst he
  exact⟨_,rfl,Rd8 (kids_rows ge8 ge9) Ae9 (by rw[Tryz.params7];simp) hW' rfl (tb:=4) (by kernel_rfl) Tryz.underlying4 rfl rfl rfl hs⟩
noncomputable def Va6 (os:Os):World:=World.holding Tryz.prog os ⟨#[],#[],[]⟩
noncomputable def ac8:Array Value:=#[.slice none 0 0,.int .u8 0,.agg (Array.replicate 3 (.int .i64 0))]
theorem Td9 (os:Os):laidMet Tryz.prog Rows.volumeKeepsRow.laid ((Va6 os).forCall (fun _ _=>0) ⟨#[],ac8,[]⟩).memory :=
 laidMet_of_run' 8 (by kernel_rfl) (by kernel_rfl)
theorem reads (os:Os) {H:Type} (enc:TypeId×Value→H):∃ x,DataW.whole enc Tryz.prog ((Va6 os).forCall (fun _ _=>0) ⟨#[],ac8,[]⟩).memory Tryz.f7.params.toList Rows.volumeKeepsSpec.vars false ac8.toList 8=some x:=by
 cases h:DataW.whole enc Tryz.prog ((Va6 os).forCall (fun _ _=>0) ⟨#[],ac8,[]⟩).memory Tryz.f7.params.toList Rows.volumeKeepsSpec.vars false ac8.toList 8 with
 | some x=>exact⟨x,rfl⟩
 | none =>
  have e:(DataW.whole enc Tryz.prog ((Va6 os).forCall (fun _ _=>0) ⟨#[],ac8,[]⟩).memory Tryz.f7.params.toList Rows.volumeKeepsSpec.vars false ac8.toList 8).isSome=true:=by kernel_rfl
  rw[h] at e;cases e
theorem ue1 (os : Os) (started : os.Started) (H : Type) (enc : TypeId × Value → H) (F : Stop.Interp) :
  ReturnsInHanded {} Tryz.checked os 7 .any ((OpenSpec.ofChange Rows.volumeKeepsSpec).preRow enc Tryz.prog Tryz.f7 Rows.volumeKeepsRow.domain false Rows.volumeKeepsRow.laid) (((OpenSpec.ofChange Rows.volumeKeepsSpec).at F).post enc Tryz.prog Tryz.f7 false true false false):=by
 obtain⟨x,hx⟩:=reads os enc
 refine returnsInHanded_of_row (C:=Tryz.checked) (s:=OpenSpec.ofChange Rows.volumeKeepsSpec) own started (by kernel_rfl) Tryz.func7
  (witness_row_at (enc:=enc) (C:=Tryz.checked) false (Va6 os) ac8 rfl (by kernel_rfl) (by kernel_rfl) (by kernel_rfl)
   (OpenSpec.preRow_of_cond 8 hx (by kernel_rfl) (fun k hk=>by cases hk) (by kernel_rfl) (Td9 os))) ?_
 intro W base args ds gs before hval hW _ _ _ hL _ _
 exact Td8 H enc W base args ds gs before hval hW
theorem volumeKeeps_holds:Rows.VolumeKeepsSaid :=
 OpenClaim.holds_of_cond 7 Tryz.f7 rfl rfl rfl rfl rfl rfl rfl ⟨rfl,rfl,rfl,rfl,rfl⟩ rfl rfl rfl rfl rfl (by kernel_rfl) Tryz.func7 (by kernel_rfl)
  (of_decide_eq_true (by kernel_rfl)) (by unfold Func.isWrapper;first | (rw[if_pos (by decide +kernel)];kernel_rfl) | (rw[if_neg (by decide +kernel)];exact⟨rfl,rfl⟩))
  (fun os started H enc _ F=>by rw[OpenClaim.pre_eq_preRow];exact ue1 os started H enc F)
end Go.Proofs.YtkfaiccnekeklaaGreat
