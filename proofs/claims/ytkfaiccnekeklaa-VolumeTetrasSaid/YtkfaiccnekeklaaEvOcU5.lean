/- VolumeTetras: Six of four points is the absolute value of the determinant of the three differences; ErrFlat exactly if this is 0; and a pyramid over a fifth point is not less; for every input the law returns true, and each argument reads as before. Conditions: none. -/
import Derived.Test.YtkfaiccnekeklaaRows
import Derived.Test.YtkfaiccnekeklaaEvOcY
import Derived.WalkKit
import Derived.ProofKit
import Derived.Deep.DeepHandedRow
import Derived.Lib.LaidTab
import Derived.Carry
set_option linter.all false
namespace Go.Proofs.Ytkfaiccnekeklaa
open Go Go.Ev Go.Ev.L Go.Ev.Ce Go.ChangeShapes Go.RowKit
set_option maxRecDepth 100000
theorem own:ownKnob Try.prog.godebug=none:=by kernel_rfl
theorem Pd9:laidOutB Try.prog=true:=by kernel_rfl
theorem Qd0:mapsRowed Try.prog=true:=by kernel_rfl
theorem ce2:((List.range Try.prog.types.size).all fun t=>match Try.prog.underlying t with | some (.slice e)=>Nat.blt 0 (Try.prog.cellsOf e) | _=>true)=true:=by kernel_rfl
theorem je1 {t e:TypeId} (ht:t < Try.prog.types.size) (hu:Try.prog.underlying t=some (.slice e)):0 < Try.prog.cellsOf e:=by
 have h:=List.all_eq_true.1 ce2 t (by simpa using ht)
 rw[hu] at h
 exact Nat.le_of_ble_eq_true h
theorem Ed1 (H : Type) (enc : TypeId × Value → H) (W : World) (bs : Nat) (args : Array Value) (ds gs : List (DataW H)) (before : List MemPlace)
  (hval:∀ (j:Nat) t v,Try.f3.params[j]?=some t→args[j]?=some v→Value.okWide Try.prog W .any bs t v)
  (hW:DataW.Whole enc Try.prog Try.f3.params.toList Rows.volumeTetrasSpec.vars false W args.toList ds gs before) :
  Calls Try.prog 3 args W fun e W'=>∃ v,e=.returned v∧Rows.volumeTetrasSpec.post enc Try.prog Try.f3 false true false false W args v W':=by
 have hW':=hW
 obtain⟨p,q,hA0,hV,rfl,hfz,hnd⟩:=hW
 have hA:DataW.TrodAll enc Try.prog W 0 (fun _=>true) true Try.f3.params.toList args.toList ds p:=hA0
 rw[Try.params3] at hA hval
 obtain⟨v0,r0,d0,s0,w0,q0,a0,rfl,rfl,h0,c0⟩:=trodAll_cons hA
 obtain⟨rfl,rfl,rfl⟩:=trodAll_nil c0
 obtain rfl:args=#[v0]:=by cases args;simp_all
 obtain⟨n0,y0,_,e0⟩:=nd9 (ρ:=fun _=>⟨0,0,0⟩) (H:=[]) (d:=9) (k:=.i64) (es:=1) Try.underlying22 (by kernel_rfl) (by kernel_rfl) (by omega) (hval 0 22 v0 rfl rfl) h0
 obtain⟨a0,k0⟩:=Cd6 n0 y0
 have hlaw:=ne9 k0 (k:=fun x0=>.guard (Z0 x0) (.ret ((Go.Ev.L.one r1B).enc (Y9 x0),[]))) (be5 (Ed0 _) (Dd9 _))
 refine (nd8 (P:=Try.prog) (G:=Go.Ev.Ce.G) (f:=3) fb5 (args:=[v0]) ⟨_,hlaw⟩ rfl (fun i x x' hx hx'=>?_) (fun g c x hx=>by simp[Go.Ev.Ce.G] at hx)).mono fun e W' ⟨he,hs⟩=>?_
 ·match i,hx,hx' with
  | 0,hx,hx'=>cases hx;cases hx';exact e0
  | i+1,hx,hx'=>cases hx
 ·subst he
  exact⟨_,rfl,Cd0 (kids_rows Pd9 Qd0) je1 (by rw[Try.params3];simp) hW' rfl (tb:=4) (by kernel_rfl) Try.underlying4 rfl rfl rfl hs⟩
noncomputable def Oa0 (os:Os):World:=World.holding Try.prog os ⟨#[],#[],[]⟩
noncomputable def Rb2:Array Value:=#[.slice none 0 0]
theorem Ed2 (os:Os):laidMet Try.prog Rows.volumeTetrasRow.laid ((Oa0 os).forCall (fun _ _=>0) ⟨#[],Rb2,[]⟩).memory :=
 laidMet_of_run' 8 (by kernel_rfl) (by kernel_rfl)
theorem reads (os:Os) {H:Type} (enc:TypeId×Value→H):∃ x,DataW.whole enc Try.prog ((Oa0 os).forCall (fun _ _=>0) ⟨#[],Rb2,[]⟩).memory Try.f3.params.toList Rows.volumeTetrasSpec.vars false Rb2.toList 8=some x:=by
 cases h:DataW.whole enc Try.prog ((Oa0 os).forCall (fun _ _=>0) ⟨#[],Rb2,[]⟩).memory Try.f3.params.toList Rows.volumeTetrasSpec.vars false Rb2.toList 8 with
 | some x=>exact⟨x,rfl⟩
 | none =>
  have e:(DataW.whole enc Try.prog ((Oa0 os).forCall (fun _ _=>0) ⟨#[],Rb2,[]⟩).memory Try.f3.params.toList Rows.volumeTetrasSpec.vars false Rb2.toList 8).isSome=true:=by kernel_rfl
  rw[h] at e;cases e
theorem ce3 (os : Os) (started : os.Started) (H : Type) (enc : TypeId × Value → H) (F : Stop.Interp) :
  ReturnsInHanded {} Try.checked os 3 .any ((OpenSpec.ofChange Rows.volumeTetrasSpec).preRow enc Try.prog Try.f3 Rows.volumeTetrasRow.domain false Rows.volumeTetrasRow.laid) (((OpenSpec.ofChange Rows.volumeTetrasSpec).at F).post enc Try.prog Try.f3 false true false false):=by
 obtain⟨x,hx⟩:=reads os enc
 refine returnsInHanded_of_row (C:=Try.checked) (s:=OpenSpec.ofChange Rows.volumeTetrasSpec) own started (by kernel_rfl) Try.func3
  (witness_row_at (enc:=enc) (C:=Try.checked) false (Oa0 os) Rb2 rfl (by kernel_rfl) (by kernel_rfl) (by kernel_rfl)
   (OpenSpec.preRow_of_cond 8 hx (by kernel_rfl) (fun k hk=>by cases hk) (by kernel_rfl) (Ed2 os))) ?_
 intro W base args ds gs before hval hW _ _ _ hL _ _
 exact Ed1 H enc W base args ds gs before hval hW
theorem volumeTetras_holds:Rows.VolumeTetrasSaid :=
 OpenClaim.holds_of_cond 3 Try.f3 rfl rfl rfl rfl rfl rfl rfl ⟨rfl,rfl,rfl,rfl,rfl⟩ rfl rfl rfl rfl rfl (by kernel_rfl) Try.func3 (by kernel_rfl)
  (of_decide_eq_true (by kernel_rfl)) (by unfold Func.isWrapper;first | (rw[if_pos (by decide +kernel)];kernel_rfl) | (rw[if_neg (by decide +kernel)];exact⟨rfl,rfl⟩))
  (fun os started H enc _ F=>by rw[OpenClaim.pre_eq_preRow];exact ce3 os started H enc F)
end Go.Proofs.Ytkfaiccnekeklaa
