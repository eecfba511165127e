/- VolumeForms: Six, Box and Most return what the reference returns, for made points, such with others, and any, and for any boxes; for every input the law returns true, and each argument reads as before. Conditions: none. -/
import Derived.Test.YtkfaiccnekeklaaGreatRows
import Derived.Test.YtkfaiccnekeklaaGreatEvOcM
import Derived.WalkKit
import Derived.ProofKit
import Derived.Deep.DeepHandedRow
import Derived.Lib.LaidTab
import Derived.Carry
set_option linter.all false
namespace Go.Proofs.YtkfaiccnekeklaaGreat
open Go Go.Ev Go.Ev.L Go.Ev.Ce Go.ChangeShapes Go.RowKit
set_option maxRecDepth 100000
theorem own:ownKnob Tryz.prog.godebug=none:=by kernel_rfl
theorem Pe2:laidOutB Tryz.prog=true:=by kernel_rfl
theorem Pe3:mapsRowed Tryz.prog=true:=by kernel_rfl
theorem cf4:((List.range Tryz.prog.types.size).all fun t=>match Tryz.prog.underlying t with | some (.slice e)=>Nat.blt 0 (Tryz.prog.cellsOf e) | _=>true)=true:=by kernel_rfl
theorem lf1 {t e:TypeId} (ht:t < Tryz.prog.types.size) (hu:Tryz.prog.underlying t=some (.slice e)):0 < Tryz.prog.cellsOf e:=by
 have h:=List.all_eq_true.1 cf4 t (by simpa using ht)
 rw[hu] at h
 exact Nat.le_of_ble_eq_true h
theorem De8 (H : Type) (enc : TypeId × Value → H) (W : World) (bs : Nat) (args : Array Value) (ds gs : List (DataW H)) (before : List MemPlace)
  (hval:∀ (j:Nat) t v,Tryz.f3.params[j]?=some t→args[j]?=some v→Value.okWide Tryz.prog W .any bs t v)
  (hW:DataW.Whole enc Tryz.prog Tryz.f3.params.toList Rows.volumeFormsSpec.vars false W args.toList ds gs before) :
  Calls Tryz.prog 3 args W fun e W'=>∃ v,e=.returned v∧Rows.volumeFormsSpec.post enc Tryz.prog Tryz.f3 false true false false W args v W':=by
 have hW':=hW
 obtain⟨p,q,hA0,hV,rfl,hfz,hnd⟩:=hW
 have hA:DataW.TrodAll enc Tryz.prog W 0 (fun _=>true) true Tryz.f3.params.toList args.toList ds p:=hA0
 rw[Tryz.params3] at hA hval
 obtain⟨v0,r0,d0,s0,w0,q0,a0,rfl,rfl,h0,c0⟩:=trodAll_cons hA
 obtain⟨v1,r1,d1,s1,w1,q1,rfl,rfl,rfl,h1,c1⟩:=trodAll_cons c0
 obtain⟨v2,r2,d2,s2,w2,q2,rfl,rfl,rfl,h2,c2⟩:=trodAll_cons c1
 obtain⟨v3,r3,d3,s3,w3,q3,rfl,rfl,rfl,h3,c3⟩:=trodAll_cons c2
 obtain⟨rfl,rfl,rfl⟩:=trodAll_nil c3
 obtain rfl:args=#[v0,v1,v2,v3]:=by cases args;simp_all
 obtain⟨n0,y0,_,e0⟩:=md3 (ρ:=fun _=>⟨0,0,0⟩) (H:=[]) (d:=9) (k:=.i64) (es:=1) Tryz.underlying22 (by kernel_rfl) (by kernel_rfl) (by omega) (hval 0 22 v0 rfl rfl) h0
 obtain⟨a0,k0⟩:=Ce5 n0 y0
 obtain⟨n1,y1,_,e1⟩:=md3 (ρ:=fun _=>⟨0,0,0⟩) (H:=[]) (d:=9) (k:=.i64) (es:=3) Tryz.underlying23 (by kernel_rfl) (by kernel_rfl) (by omega) (hval 1 23 v1 rfl rfl) h1
 obtain⟨a1,k1⟩:=Ld2 tV n1 y1 (fun g=>⟨g 0,g 1,g 2⟩) fun _=>rfl
 obtain⟨y2,e2⟩:=de6 (ρ:=fun _=>⟨0,0,0⟩) (H:=[]) (F:=wd5 W) (d:=9) (k:=.i64) (es:=3) (t:=25) (by kernel_rfl) (by kernel_rfl) (by kernel_rfl) (hval 2 25 v2 rfl rfl) h2
 obtain⟨a2,k2⟩:=de7 tV (cs:=Aa7 .i64 3 y2) rfl
 obtain⟨y3,e3⟩:=de6 (ρ:=fun _=>⟨0,0,0⟩) (H:=[]) (F:=wd5 W) (d:=9) (k:=.i64) (es:=3) (t:=25) (by kernel_rfl) (by kernel_rfl) (by kernel_rfl) (hval 3 25 v3 rfl rfl) h3
 obtain⟨a3,k3⟩:=de7 tV (cs:=Aa7 .i64 3 y3) rfl
 have hlaw:=sf4 k0 k1 k2 k3 (k:=fun x0 x1 x2 x3=>.guard (oa8 x0 x1 x2 x3) (.ret ((Go.Ev.L.one r1B).enc (oa7 x0 x1 x2 x3),[]))) (bf1 (ne7 _ _ _ _) (ne6 _ _ _ _))
 refine (me9 (P:=Tryz.prog) (G:=Go.Ev.Ce.G) (f:=3) Qb3 (args:=[v0,v1,v2,v3]) ⟨_,hlaw⟩ rfl (fun i x x' hx hx'=>?_) (fun g c x hx=>by simp[Go.Ev.Ce.G] at hx)).mono fun e W' ⟨he,hs⟩=>?_
 ·match i,hx,hx' with
  | 0,hx,hx'=>cases hx;cases hx';exact e0
  | 1,hx,hx'=>cases hx;cases hx';exact e1
  | 2,hx,hx'=>cases hx;cases hx';exact e2
  | 3,hx,hx'=>cases hx;cases hx';exact e3
  | i+4,hx,hx'=>cases hx
 ·subst he
  exact⟨_,rfl,Ce0 (kids_rows Pe2 Pe3) lf1 (by rw[Tryz.params3];simp) hW' rfl (tb:=4) (by kernel_rfl) Tryz.underlying4 rfl rfl rfl hs⟩
noncomputable def lb0 (os:Os):World:=World.holding Tryz.prog os ⟨#[],#[],[]⟩
noncomputable def Bc0:Array Value:=#[.slice none 0 0,.slice none 0 0,.agg (Array.replicate 3 (.int .i64 0)),.agg (Array.replicate 3 (.int .i64 0))]
theorem De9 (os:Os):laidMet Tryz.prog Rows.volumeFormsRow.laid ((lb0 os).forCall (fun _ _=>0) ⟨#[],Bc0,[]⟩).memory :=
 laidMet_of_run' 8 (by kernel_rfl) (by kernel_rfl)
theorem reads (os:Os) {H:Type} (enc:TypeId×Value→H):∃ x,DataW.whole enc Tryz.prog ((lb0 os).forCall (fun _ _=>0) ⟨#[],Bc0,[]⟩).memory Tryz.f3.params.toList Rows.volumeFormsSpec.vars false Bc0.toList 8=some x:=by
 cases h:DataW.whole enc Tryz.prog ((lb0 os).forCall (fun _ _=>0) ⟨#[],Bc0,[]⟩).memory Tryz.f3.params.toList Rows.volumeFormsSpec.vars false Bc0.toList 8 with
 | some x=>exact⟨x,rfl⟩
 | none =>
  have e:(DataW.whole enc Tryz.prog ((lb0 os).forCall (fun _ _=>0) ⟨#[],Bc0,[]⟩).memory Tryz.f3.params.toList Rows.volumeFormsSpec.vars false Bc0.toList 8).isSome=true:=by kernel_rfl
  rw[h] at e;cases e
theorem cf5 (os : Os) (started : os.Started) (H : Type) (enc : TypeId × Value → H) (F : Stop.Interp) :
  ReturnsInHanded {} Tryz.checked os 3 .any ((OpenSpec.ofChange Rows.volumeFormsSpec).preRow enc Tryz.prog Tryz.f3 Rows.volumeFormsRow.domain false Rows.volumeFormsRow.laid) (((OpenSpec.ofChange Rows.volumeFormsSpec).at F).post enc Tryz.prog Tryz.f3 false true false false):=by
 obtain⟨x,hx⟩:=reads os enc
 refine returnsInHanded_of_row (C:=Tryz.checked) (s:=OpenSpec.ofChange Rows.volumeFormsSpec) own started (by kernel_rfl) Tryz.func3
  (witness_row_at (enc:=enc) (C:=Tryz.checked) false (lb0 os) Bc0 rfl (by kernel_rfl) (by kernel_rfl) (by kernel_rfl)
   (OpenSpec.preRow_of_cond 8 hx (by kernel_rfl) (fun k hk=>by cases hk) (by kernel_rfl) (De9 os))) ?_
 intro W base args ds gs before hval hW _ _ _ hL _ _
 exact De8 H enc W base args ds gs before hval hW
theorem volumeForms_holds:Rows.VolumeFormsSaid :=
 OpenClaim.holds_of_cond 3 Tryz.f3 rfl rfl rfl rfl rfl rfl rfl ⟨rfl,rfl,rfl,rfl,rfl⟩ rfl rfl rfl rfl rfl (by kernel_rfl) Tryz.func3 (by kernel_rfl)
  (of_decide_eq_true (by kernel_rfl)) (by unfold Func.isWrapper;first | (rw[if_pos (by decide +kernel)];kernel_rfl) | (rw[if_neg (by decide +kernel)];exact⟨rfl,rfl⟩))
  (fun os started H enc _ F=>by rw[OpenClaim.pre_eq_preRow];exact cf5 os started H enc F)
end Go.Proofs.YtkfaiccnekeklaaGreat
