/- VolumeMost: six times the number of unit cubes that lie in the hull and in a box is at most Most; this is at most Six, and at most six times the volume of the box; and it is Six if the box has the whole hull; for every input the law returns true, and each argument reads as before. Conditions: none. -/
import Derived.Test.YtkfaiccnekeklaaGreatRows
import Derived.Test.YtkfaiccnekeklaaGreatEvOcJ
import Derived.WalkKit
import Derived.ProofKit
import Derived.Deep.DeepHandedRow
import Derived.Lib.LaidTab
import Derived.Carry
set_option linter.all false
namespace Go.Proofs.YtkfaiccnekeklaaGreat
open Go Go.Ev Go.Ev.L Go.Ev.Ce Go.ChangeShapes Go.RowKit
set_option maxRecDepth 100000
theorem own:ownKnob Tryz.prog.godebug=none:=by kernel_rfl
theorem qe2:laidOutB Tryz.prog=true:=by kernel_rfl
theorem qe3:mapsRowed Tryz.prog=true:=by kernel_rfl
theorem Fe3:((List.range Tryz.prog.types.size).all fun t=>match Tryz.prog.underlying t with | some (.slice e)=>Nat.blt 0 (Tryz.prog.cellsOf e) | _=>true)=true:=by kernel_rfl
theorem Me6 {t e:TypeId} (ht:t < Tryz.prog.types.size) (hu:Tryz.prog.underlying t=some (.slice e)):0 < Tryz.prog.cellsOf e:=by
 have h:=List.all_eq_true.1 Fe3 t (by simpa using ht)
 rw[hu] at h
 exact Nat.le_of_ble_eq_true h
theorem ce6 (H : Type) (enc : TypeId × Value → H) (W : World) (bs : Nat) (args : Array Value) (ds gs : List (DataW H)) (before : List MemPlace)
  (hval:∀ (j:Nat) t v,Tryz.f5.params[j]?=some t→args[j]?=some v→Value.okWide Tryz.prog W .any bs t v)
  (hW:DataW.Whole enc Tryz.prog Tryz.f5.params.toList Rows.volumeMostSpec.vars false W args.toList ds gs before) :
  Calls Tryz.prog 5 args W fun e W'=>∃ v,e=.returned v∧Rows.volumeMostSpec.post enc Tryz.prog Tryz.f5 false true false false W args v W':=by
 have hW':=hW
 obtain⟨p,q,hA0,hV,rfl,hfz,hnd⟩:=hW
 have hA:DataW.TrodAll enc Tryz.prog W 0 (fun _=>true) true Tryz.f5.params.toList args.toList ds p:=hA0
 rw[Tryz.params5] at hA hval
 obtain⟨v0,r0,d0,s0,w0,q0,a0,rfl,rfl,h0,c0⟩:=trodAll_cons hA
 obtain⟨v1,r1,d1,s1,w1,q1,rfl,rfl,rfl,h1,c1⟩:=trodAll_cons c0
 obtain⟨v2,r2,d2,s2,w2,q2,rfl,rfl,rfl,h2,c2⟩:=trodAll_cons c1
 obtain⟨rfl,rfl,rfl⟩:=trodAll_nil c2
 obtain rfl:args=#[v0,v1,v2]:=by cases args;simp_all
 obtain⟨n0,y0,_,e0⟩:=Kd5 (ρ:=fun _=>⟨0,0,0⟩) (H:=[]) (d:=9) (k:=.i64) (es:=1) Tryz.underlying22 (by kernel_rfl) (by kernel_rfl) (by omega) (hval 0 22 v0 rfl rfl) h0
 obtain⟨a0,k0⟩:=ae0 n0 y0
 obtain⟨y1,e1⟩:=Ad9 (ρ:=fun _=>⟨0,0,0⟩) (H:=[]) (F:=Wc5 W) (d:=9) (k:=.i64) (es:=3) (t:=25) (by kernel_rfl) (by kernel_rfl) (by kernel_rfl) (hval 1 25 v1 rfl rfl) h1
 obtain⟨a1,k1⟩:=oe7 tV (cs:=fa5 .i64 3 y1) rfl
 obtain⟨y2,x2,e2⟩:=qe1 (ρ:=fun _=>⟨0,0,0⟩) (H:=[]) (F:=Wc5 W) (d:=9) Tryz.underlying38 Tryz.underlying5 (by kernel_rfl) (by kernel_rfl) (by kernel_rfl) (hval 2 38 v2 rfl rfl) h2
 obtain⟨a2,k2,z2⟩:=Ld2 y2 x2
 have hlaw:=Se7 k0 k1 k2 (k:=fun x0 x1 x2=>.guard (ja9 x0 x1 x2) (.ret ((Go.Ev.L.one r1B).enc (ja8 x0 x1 x2),[]))) (De2 (ce5 _ _ _ z2) (ce4 _ _ _ z2))
 refine (Kd4 (P:=Tryz.prog) (G:=Go.Ev.Ce.G) (f:=5) Cb4 (args:=[v0,v1,v2]) ⟨_,hlaw⟩ rfl (fun i x x' hx hx'=>?_) (fun g c x hx=>by simp[Go.Ev.Ce.G] at hx)).mono fun e W' ⟨he,hs⟩=>?_
 ·match i,hx,hx' with
  | 0,hx,hx'=>cases hx;cases hx';exact e0
  | 1,hx,hx'=>cases hx;cases hx';exact e1
  | 2,hx,hx'=>cases hx;cases hx';exact e2
  | i+3,hx,hx'=>cases hx
 ·subst he
  exact⟨_,rfl,Zd4 (kids_rows qe2 qe3) Me6 (by rw[Tryz.params5];simp) hW' rfl (tb:=4) (by kernel_rfl) Tryz.underlying4 rfl rfl rfl hs⟩
noncomputable def Xa8 (os:Os):World:=World.holding Tryz.prog os ⟨#[],#[],[]⟩
noncomputable def gc8:Array Value:=#[.slice none 0 0,.agg (Array.replicate 3 (.int .i64 0)),.agg (Array.replicate 3 (.int .u8 0))]
theorem ce7 (os:Os):laidMet Tryz.prog Rows.volumeMostRow.laid ((Xa8 os).forCall (fun _ _=>0) ⟨#[],gc8,[]⟩).memory :=
 laidMet_of_run' 8 (by kernel_rfl) (by kernel_rfl)
theorem reads (os:Os) {H:Type} (enc:TypeId×Value→H):∃ x,DataW.whole enc Tryz.prog ((Xa8 os).forCall (fun _ _=>0) ⟨#[],gc8,[]⟩).memory Tryz.f5.params.toList Rows.volumeMostSpec.vars false gc8.toList 8=some x:=by
 cases h:DataW.whole enc Tryz.prog ((Xa8 os).forCall (fun _ _=>0) ⟨#[],gc8,[]⟩).memory Tryz.f5.params.toList Rows.volumeMostSpec.vars false gc8.toList 8 with
 | some x=>exact⟨x,rfl⟩
 | none =>
  have e:(DataW.whole enc Tryz.prog ((Xa8 os).forCall (fun _ _=>0) ⟨#[],gc8,[]⟩).memory Tryz.f5.params.toList Rows.volumeMostSpec.vars false gc8.toList 8).isSome=true:=by kernel_rfl
  rw[h] at e;cases e
theorem Fe4 (os : Os) (started : os.Started) (H : Type) (enc : TypeId × Value → H) (F : Stop.Interp) :
  ReturnsInHanded {} Tryz.checked os 5 .any ((OpenSpec.ofChange Rows.volumeMostSpec).preRow enc Tryz.prog Tryz.f5 Rows.volumeMostRow.domain false Rows.volumeMostRow.laid) (((OpenSpec.ofChange Rows.volumeMostSpec).at F).post enc Tryz.prog Tryz.f5 false true false false):=by
 obtain⟨x,hx⟩:=reads os enc
 refine returnsInHanded_of_row (C:=Tryz.checked) (s:=OpenSpec.ofChange Rows.volumeMostSpec) own started (by kernel_rfl) Tryz.func5
  (witness_row_at (enc:=enc) (C:=Tryz.checked) false (Xa8 os) gc8 rfl (by kernel_rfl) (by kernel_rfl) (by kernel_rfl)
   (OpenSpec.preRow_of_cond 8 hx (by kernel_rfl) (fun k hk=>by cases hk) (by kernel_rfl) (ce7 os))) ?_
 intro W base args ds gs before hval hW _ _ _ hL _ _
 exact ce6 H enc W base args ds gs before hval hW
theorem volumeMost_holds:Rows.VolumeMostSaid :=
 OpenClaim.holds_of_cond 5 Tryz.f5 rfl rfl rfl rfl rfl rfl rfl ⟨rfl,rfl,rfl,rfl,rfl⟩ rfl rfl rfl rfl rfl (by kernel_rfl) Tryz.func5 (by kernel_rfl)
  (of_decide_eq_true (by kernel_rfl)) (by unfold Func.isWrapper;first | (rw[if_pos (by decide +kernel)];kernel_rfl) | (rw[if_neg (by decide +kernel)];exact⟨rfl,rfl⟩))
  (fun os started H enc _ F=>by rw[OpenClaim.pre_eq_preRow];exact Fe4 os started H enc F)
end Go.Proofs.YtkfaiccnekeklaaGreat
