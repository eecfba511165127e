/- BendForms: Bend and Total return what the reference returns, for any numbers; for every input the law returns true, and each argument reads as before. Conditions: the package variables unicode/utf8.acceptRanges and unicode/utf8.first hold what the row lists (the card ties this to the text); the law does not depend on them. -/
import Derived.Test.YtgphembaimondaaGreatDoorCards
import Derived.Test.YtgphembaimondaaGreatDoorTie
import Derived.Test.YtgphembaimondaaGreatDoorEvOkV
import Derived.WalkKit
import Derived.ProofKit
import Derived.Deep.DeepHandedRow
import Derived.Lib.LaidTab
import Derived.Carry
set_option linter.all false
namespace Go.Proofs.YtgphembaimondaaGreatDoor
open Go Go.Ev Go.Ev.L Go.Ev.Ce Go.ChangeShapes Go.RowKit
set_option maxRecDepth 100000
theorem own:ownKnob Tryz.prog.godebug=none:=by kernel_rfl
theorem Id5:laidOutB Tryz.prog=true:=by kernel_rfl
theorem Id6:mapsRowed Tryz.prog=true:=by kernel_rfl
theorem ee2:((List.range Tryz.prog.types.size).all fun t=>match Tryz.prog.underlying t with | some (.slice e)=>Nat.blt 0 (Tryz.prog.cellsOf e) | _=>true)=true:=by kernel_rfl
theorem ue4 {t e:TypeId} (ht:t < Tryz.prog.types.size) (hu:Tryz.prog.underlying t=some (.slice e)):0 < Tryz.prog.cellsOf e:=by
 have h:=List.all_eq_true.1 ee2 t (by simpa using ht)
 rw[hu] at h
 exact Nat.le_of_ble_eq_true h
theorem td7 (H:Type) (enc:TypeId×Value→H) (W:World) (bs:Nat) (args:Array Value) (ds gs:List (DataW H)) (before:List MemPlace)
  (hval:∀ (j:Nat) t v,Tryz.f3.params[j]?=some t→args[j]?=some v→Value.okWide Tryz.prog W .any bs t v)
  (hW:DataW.Whole enc Tryz.prog Tryz.f3.params.toList Rows.bendFormsSpec.vars false W args.toList ds gs before) :
  Calls Tryz.prog 3 args W fun e W'=>∃ v,e=.returned v∧Rows.bendFormsSpec.post enc Tryz.prog Tryz.f3 false true false false W args v W':=by
 have hW':=hW
 obtain⟨p,q,hA0,hV,rfl,hfz,hnd⟩:=hW
 have hA:DataW.TrodAll enc Tryz.prog W 0 (fun _=>true) true Tryz.f3.params.toList args.toList ds p:=hA0
 rw[Tryz.params3] at hA hval
 obtain⟨v0,r0,d0,s0,w0,q0,a0,rfl,rfl,h0,c0⟩:=trodAll_cons hA
 obtain⟨v1,r1,d1,s1,w1,q1,rfl,rfl,rfl,h1,c1⟩:=trodAll_cons c0
 obtain⟨v2,r2,d2,s2,w2,q2,rfl,rfl,rfl,h2,c2⟩:=trodAll_cons c1
 obtain⟨v3,r3,d3,s3,w3,q3,rfl,rfl,rfl,h3,c3⟩:=trodAll_cons c2
 obtain⟨rfl,rfl,rfl⟩:=trodAll_nil c3
 obtain rfl:args=#[v0,v1,v2,v3]:=by cases args;simp_all
 obtain⟨y0,e0⟩:=Sc4 (ρ:=fun _=>⟨0,0,0⟩) (H:=[]) (F:=Cc1 W) Tryz.underlying3 (hval 0 3 v0 rfl rfl)
 obtain⟨a0,k0⟩:=Rc6 y0
 obtain⟨y1,e1⟩:=Sc4 (ρ:=fun _=>⟨0,0,0⟩) (H:=[]) (F:=Cc1 W) Tryz.underlying3 (hval 1 3 v1 rfl rfl)
 obtain⟨a1,k1⟩:=Rc6 y1
 obtain⟨y2,e2⟩:=Rc4 (ρ:=fun _=>⟨0,0,0⟩) (H:=[]) (F:=Cc1 W) (d:=9) (k:=.i64) (es:=3) (t:=23) (by kernel_rfl) (by kernel_rfl) (by kernel_rfl) (hval 2 23 v2 rfl rfl) h2
 obtain⟨a2,k2⟩:=Rc5 tV (cs:=Db1 .i64 3 y2) rfl
 obtain⟨y3,e3⟩:=Rc4 (ρ:=fun _=>⟨0,0,0⟩) (H:=[]) (F:=Cc1 W) (d:=9) (k:=.i64) (es:=3) (t:=24) (by kernel_rfl) (by kernel_rfl) (by kernel_rfl) (hval 3 24 v3 rfl rfl) h3
 obtain⟨a3,k3⟩:=Rc5 tN (cs:=Db1 .i64 3 y3) rfl
 have hlaw:=Be9 k0 k1 k2 k3 (k:=fun x0 x1 x2 x3=>.guard (aa9 x0 x1 x2 x3) (.ret ((Go.Ev.L.one r1B).enc (aa8 x0 x1 x2 x3),[]))) (Zd0 (bd2 _ _ _ _) (bd1 _ _ _ _))
 refine (ad8 (P:=Tryz.prog) (G:=Go.Ev.Ce.G) (f:=3) nb9 (args:=[v0,v1,v2,v3]) ⟨_,hlaw⟩ rfl (fun i x x' hx hx'=>?_) (fun g c x hx=>by simp[Go.Ev.Ce.G] at hx)).mono fun e W' ⟨he,hs⟩=>?_
 ·match i,hx,hx' with
  | 0,hx,hx'=>cases hx;cases hx';exact e0
  | 1,hx,hx'=>cases hx;cases hx';exact e1
  | 2,hx,hx'=>cases hx;cases hx';exact e2
  | 3,hx,hx'=>cases hx;cases hx';exact e3
  | i+4,hx,hx'=>cases hx
 ·subst he
  exact⟨_,rfl,qd4 (kids_rows Id5 Id6) ue4 (by rw[Tryz.params3];simp) hW' rfl (tb:=4) (by kernel_rfl) Tryz.underlying4 rfl rfl rfl hs⟩
noncomputable def Fa5 (os:Os):World :=
 let w0:=World.holding Tryz.prog os ⟨#[],#[],[]⟩
 let put (h:Array Obj) (g:Nat) (cs:Array Value):Array Obj:=h.modify g fun
  | .cells _ t frozen=>.cells cs t frozen
  | o=>o
 let h1:=put w0.heap 0 (Go.Pinned.utf8FirstZ.map fun z=>Value.int .u8 (Int.ofNat z)).toArray
 let h2:=put h1 1 (([128,191,160,191,128,159,144,191,128,143]:List Int).map (fun z=>Value.int .u8 z)++List.replicate 22 (Value.int .u8 0)).toArray
 { w0 with heap:=h2 }
noncomputable def Gb3:Array Value:=#[.int .i64 0,.int .i64 0,.agg (Array.replicate 3 (.int .i64 0)),.agg (Array.replicate 3 (.int .i64 0))]
theorem td8 (os:Os):laidMet Tryz.prog Rows.bendFormsRow.laid ((Fa5 os).forCall (fun _ _=>0) ⟨#[],Gb3,[]⟩).memory :=
 laidMet_of_run' 8 (by kernel_rfl) (by kernel_rfl)
theorem reads (os:Os) {H:Type} (enc:TypeId×Value→H):∃ x,DataW.whole enc Tryz.prog ((Fa5 os).forCall (fun _ _=>0) ⟨#[],Gb3,[]⟩).memory Tryz.f3.params.toList Rows.bendFormsSpec.vars false Gb3.toList 8=some x:=by
 cases h:DataW.whole enc Tryz.prog ((Fa5 os).forCall (fun _ _=>0) ⟨#[],Gb3,[]⟩).memory Tryz.f3.params.toList Rows.bendFormsSpec.vars false Gb3.toList 8 with
 | some x=>exact⟨x,rfl⟩
 | none =>
  have e:(DataW.whole enc Tryz.prog ((Fa5 os).forCall (fun _ _=>0) ⟨#[],Gb3,[]⟩).memory Tryz.f3.params.toList Rows.bendFormsSpec.vars false Gb3.toList 8).isSome=true:=by kernel_rfl
  rw[h] at e;cases e
theorem ee3 (os:Os) (started:os.Started) (H:Type) (enc:TypeId×Value→H) (F:Stop.Interp) :
  ReturnsInHanded {} Tryz.checked os 3 .any ((OpenSpec.ofChange Rows.bendFormsSpec).preRow enc Tryz.prog Tryz.f3 Rows.bendFormsRow.domain false Rows.bendFormsRow.laid) (((OpenSpec.ofChange Rows.bendFormsSpec).at F).post enc Tryz.prog Tryz.f3 false true false false):=by
 obtain⟨x,hx⟩:=reads os enc
 refine returnsInHanded_of_row (C:=Tryz.checked) (s:=OpenSpec.ofChange Rows.bendFormsSpec) own started (by kernel_rfl) Tryz.func3
  (witness_row_at (enc:=enc) (C:=Tryz.checked) false (Fa5 os) Gb3 rfl (by kernel_rfl) (by kernel_rfl) (by kernel_rfl)
   (OpenSpec.preRow_of_cond 8 hx (by kernel_rfl) (fun k hk=>by cases hk) (by kernel_rfl) (td8 os))) ?_
 intro W base args ds gs before hval hW _ _ _ hL _ _
 exact td7 H enc W base args ds gs before hval hW
theorem Fe4:Rows.BendFormsSaid :=
 OpenClaim.holds_of_cond 3 Tryz.f3 rfl rfl rfl rfl rfl rfl rfl ⟨rfl,rfl,rfl,rfl,rfl⟩ rfl rfl rfl rfl rfl (by kernel_rfl) Tryz.func3 (by kernel_rfl)
  (of_decide_eq_true (by kernel_rfl)) (by unfold Func.isWrapper;first | (rw[if_pos (by decide +kernel)];kernel_rfl) | (rw[if_neg (by decide +kernel)];exact⟨rfl,rfl⟩))
  (fun os started H enc _ F=>by rw[OpenClaim.pre_eq_preRow];exact ee3 os started H enc F)
theorem plain (f:FuncId) (fn:Func) (hf:Tryz.pinned.checked.prog.funcNamed "collet/colletlaw24.BendForms" = some f) (hfn:Tryz.pinned.checked.prog.funcs[f]?=some fn) :
  false=Tryz.pinned.checked.prog.looks []∧∀ (j:Nat) t,fn.params[j]?=some t→Tryz.pinned.checked.prog.wantsStandIn t=false:=by
 obtain rfl:f=3:=Option.some.inj ((show Tryz.prog.funcNamed "collet/colletlaw24.BendForms" = some 3 by kernel_rfl).symm.trans hf) |>.symm
 obtain rfl:fn=Tryz.f3:=(Option.some.inj (Tryz.func3.symm.trans hfn)).symm
 refine⟨by kernel_rfl,fun j t ht=>?_⟩
 rw[Tryz.params3] at ht
 have h:t∈[3,3,23,24]:=by simpa using Array.mem_of_getElem? ht
 have e:([3,3,23,24].all fun t=>!(Tryz.prog.wantsStandIn t))=true:=by kernel_rfl
 have e2:=List.all_eq_true.1 e t h
 cases h2:Tryz.prog.wantsStandIn t with
 | false=>exact h2
 | true=>rw[h2] at e2;cases e2
theorem bendForms_holds:Rows.BendFormsCardSaid :=
 Claim7.holds_tied_plain_at .later [] _ _ _ _ Fe4 (fun _ h=>by cases h) (by kernel_rfl) (fun _ h=>by cases h) bendForms_row_tie rfl ⟨rfl,rfl⟩ (by kernel_rfl) rfl plain (by kernel_rfl)
end Go.Proofs.YtgphembaimondaaGreatDoor
