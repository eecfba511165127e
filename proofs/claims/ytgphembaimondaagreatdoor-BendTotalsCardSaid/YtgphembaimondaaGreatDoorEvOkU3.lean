/- BendTotals: Total stays within the bound, and a made cell that is grown by it is the cell grown by its parts one after another; for every input the law returns true, and each argument reads as before. Conditions: the package variables unicode/utf8.acceptRanges and unicode/utf8.first hold what the row lists (the card ties this to the text); the law does not depend on them. -/
import Derived.Test.YtgphembaimondaaGreatDoorCards
import Derived.Test.YtgphembaimondaaGreatDoorTie
import Derived.Test.YtgphembaimondaaGreatDoorEvOkV
import Derived.WalkKit
import Derived.ProofKit
import Derived.Deep.DeepHandedRow
import Derived.Lib.LaidTab
import Derived.Carry
set_option linter.all false
namespace Go.Proofs.YtgphembaimondaaGreatDoor
open Go Go.Ev Go.Ev.L Go.Ev.Ce Go.ChangeShapes Go.RowKit
set_option maxRecDepth 100000
theorem own:ownKnob Tryz.prog.godebug=none:=by kernel_rfl
theorem Le4:laidOutB Tryz.prog=true:=by kernel_rfl
theorem Le5:mapsRowed Tryz.prog=true:=by kernel_rfl
theorem if5:((List.range Tryz.prog.types.size).all fun t=>match Tryz.prog.underlying t with | some (.slice e)=>Nat.blt 0 (Tryz.prog.cellsOf e) | _=>true)=true:=by kernel_rfl
theorem Bf2 {t e:TypeId} (ht:t < Tryz.prog.types.size) (hu:Tryz.prog.underlying t=some (.slice e)):0 < Tryz.prog.cellsOf e:=by
 have h:=List.all_eq_true.1 if5 t (by simpa using ht)
 rw[hu] at h
 exact Nat.le_of_ble_eq_true h
theorem ve7 (H:Type) (enc:TypeId×Value→H) (W:World) (bs:Nat) (args:Array Value) (ds gs:List (DataW H)) (before:List MemPlace)
  (hval:∀ (j:Nat) t v,Tryz.f5.params[j]?=some t→args[j]?=some v→Value.okWide Tryz.prog W .any bs t v)
  (hW:DataW.Whole enc Tryz.prog Tryz.f5.params.toList Rows.bendTotalsSpec.vars false W args.toList ds gs before) :
  Calls Tryz.prog 5 args W fun e W'=>∃ v,e=.returned v∧Rows.bendTotalsSpec.post enc Tryz.prog Tryz.f5 false true false false W args v W':=by
 have hW':=hW
 obtain⟨p,q,hA0,hV,rfl,hfz,hnd⟩:=hW
 have hA:DataW.TrodAll enc Tryz.prog W 0 (fun _=>true) true Tryz.f5.params.toList args.toList ds p:=hA0
 rw[Tryz.params5] at hA hval
 obtain⟨v0,r0,d0,s0,w0,q0,a0,rfl,rfl,h0,c0⟩:=trodAll_cons hA
 obtain⟨v1,r1,d1,s1,w1,q1,rfl,rfl,rfl,h1,c1⟩:=trodAll_cons c0
 obtain⟨v2,r2,d2,s2,w2,q2,rfl,rfl,rfl,h2,c2⟩:=trodAll_cons c1
 obtain⟨rfl,rfl,rfl⟩:=trodAll_nil c2
 obtain rfl:args=#[v0,v1,v2]:=by cases args;simp_all
 obtain⟨n0,y0,_,e0⟩:=ae1 (ρ:=fun _=>⟨0,0,0⟩) (H:=[]) (d:=9) (k:=.i64) (es:=1) Tryz.underlying41 (by kernel_rfl) (by kernel_rfl) (by omega) (hval 0 41 v0 rfl rfl) h0
 obtain⟨a0,k0⟩:=se4 n0 y0
 obtain⟨y1,x1,e1⟩:=Qd9 (ρ:=fun _=>⟨0,0,0⟩) (H:=[]) (F:=hd8 W) (d:=9) Tryz.underlying42 Tryz.underlying5 (by kernel_rfl) (by kernel_rfl) (by kernel_rfl) (hval 1 42 v1 rfl rfl) h1
 obtain⟨a1,k1,z1⟩:=Xc5 y1 x1
 obtain⟨y2,x2,e2⟩:=Qd9 (ρ:=fun _=>⟨0,0,0⟩) (H:=[]) (F:=hd8 W) (d:=9) Tryz.underlying42 Tryz.underlying5 (by kernel_rfl) (by kernel_rfl) (by kernel_rfl) (hval 2 42 v2 rfl rfl) h2
 obtain⟨a2,k2,z2⟩:=Xc5 y2 x2
 have hlaw:=Kf7 k0 k1 k2 (k:=fun x0 x1 x2=>.guard (ha9 x0 x1 x2) (.ret ((Go.Ev.L.one r1B).enc (ha8 x0 x1 x2),[]))) (df3 (Hd6 _ _ _ z1 z2) (Hd5 _ _ _ z1 z2))
 refine (ae0 (P:=Tryz.prog) (G:=Go.Ev.Ce.G) (f:=5) Jb7 (args:=[v0,v1,v2]) ⟨_,hlaw⟩ rfl (fun i x x' hx hx'=>?_) (fun g c x hx=>by simp[Go.Ev.Ce.G] at hx)).mono fun e W' ⟨he,hs⟩=>?_
 ·match i,hx,hx' with
  | 0,hx,hx'=>cases hx;cases hx';exact e0
  | 1,hx,hx'=>cases hx;cases hx';exact e1
  | 2,hx,hx'=>cases hx;cases hx';exact e2
  | i+3,hx,hx'=>cases hx
 ·subst he
  exact⟨_,rfl,re8 (kids_rows Le4 Le5) Bf2 (by rw[Tryz.params5];simp) hW' rfl (tb:=4) (by kernel_rfl) Tryz.underlying4 rfl rfl rfl hs⟩
noncomputable def Za3 (os:Os):World :=
 let w0:=World.holding Tryz.prog os ⟨#[],#[],[]⟩
 let put (h:Array Obj) (g:Nat) (cs:Array Value):Array Obj:=h.modify g fun
  | .cells _ t frozen=>.cells cs t frozen
  | o=>o
 let h1:=put w0.heap 0 (Go.Pinned.utf8FirstZ.map fun z=>Value.int .u8 (Int.ofNat z)).toArray
 let h2:=put h1 1 (([128,191,160,191,128,159,144,191,128,143]:List Int).map (fun z=>Value.int .u8 z)++List.replicate 22 (Value.int .u8 0)).toArray
 { w0 with heap:=h2 }
noncomputable def oc7:Array Value:=#[.slice none 0 0,.agg (Array.replicate 3 (.int .u8 0)),.agg (Array.replicate 3 (.int .u8 0))]
theorem ve8 (os:Os):laidMet Tryz.prog Rows.bendTotalsRow.laid ((Za3 os).forCall (fun _ _=>0) ⟨#[],oc7,[]⟩).memory :=
 laidMet_of_run' 8 (by kernel_rfl) (by kernel_rfl)
theorem reads (os:Os) {H:Type} (enc:TypeId×Value→H):∃ x,DataW.whole enc Tryz.prog ((Za3 os).forCall (fun _ _=>0) ⟨#[],oc7,[]⟩).memory Tryz.f5.params.toList Rows.bendTotalsSpec.vars false oc7.toList 8=some x:=by
 cases h:DataW.whole enc Tryz.prog ((Za3 os).forCall (fun _ _=>0) ⟨#[],oc7,[]⟩).memory Tryz.f5.params.toList Rows.bendTotalsSpec.vars false oc7.toList 8 with
 | some x=>exact⟨x,rfl⟩
 | none =>
  have e:(DataW.whole enc Tryz.prog ((Za3 os).forCall (fun _ _=>0) ⟨#[],oc7,[]⟩).memory Tryz.f5.params.toList Rows.bendTotalsSpec.vars false oc7.toList 8).isSome=true:=by kernel_rfl
  rw[h] at e;cases e
theorem if6 (os:Os) (started:os.Started) (H:Type) (enc:TypeId×Value→H) (F:Stop.Interp) :
  ReturnsInHanded {} Tryz.checked os 5 .any ((OpenSpec.ofChange Rows.bendTotalsSpec).preRow enc Tryz.prog Tryz.f5 Rows.bendTotalsRow.domain false Rows.bendTotalsRow.laid) (((OpenSpec.ofChange Rows.bendTotalsSpec).at F).post enc Tryz.prog Tryz.f5 false true false false):=by
 obtain⟨x,hx⟩:=reads os enc
 refine returnsInHanded_of_row (C:=Tryz.checked) (s:=OpenSpec.ofChange Rows.bendTotalsSpec) own started (by kernel_rfl) Tryz.func5
  (witness_row_at (enc:=enc) (C:=Tryz.checked) false (Za3 os) oc7 rfl (by kernel_rfl) (by kernel_rfl) (by kernel_rfl)
   (OpenSpec.preRow_of_cond 8 hx (by kernel_rfl) (fun k hk=>by cases hk) (by kernel_rfl) (ve8 os))) ?_
 intro W base args ds gs before hval hW _ _ _ hL _ _
 exact ve7 H enc W base args ds gs before hval hW
theorem Of2:Rows.BendTotalsSaid :=
 OpenClaim.holds_of_cond 5 Tryz.f5 rfl rfl rfl rfl rfl rfl rfl ⟨rfl,rfl,rfl,rfl,rfl⟩ rfl rfl rfl rfl rfl (by kernel_rfl) Tryz.func5 (by kernel_rfl)
  (of_decide_eq_true (by kernel_rfl)) (by unfold Func.isWrapper;first | (rw[if_pos (by decide +kernel)];kernel_rfl) | (rw[if_neg (by decide +kernel)];exact⟨rfl,rfl⟩))
  (fun os started H enc _ F=>by rw[OpenClaim.pre_eq_preRow];exact if6 os started H enc F)
theorem plain (f:FuncId) (fn:Func) (hf:Tryz.pinned.checked.prog.funcNamed "collet/colletlaw24.BendTotals" = some f) (hfn:Tryz.pinned.checked.prog.funcs[f]?=some fn) :
  false=Tryz.pinned.checked.prog.looks []∧∀ (j:Nat) t,fn.params[j]?=some t→Tryz.pinned.checked.prog.wantsStandIn t=false:=by
 obtain rfl:f=5:=Option.some.inj ((show Tryz.prog.funcNamed "collet/colletlaw24.BendTotals" = some 5 by kernel_rfl).symm.trans hf) |>.symm
 obtain rfl:fn=Tryz.f5:=(Option.some.inj (Tryz.func5.symm.trans hfn)).symm
 refine⟨by kernel_rfl,fun j t ht=>?_⟩
 rw[Tryz.params5] at ht
 have h:t∈[41,42,42]:=by simpa using Array.mem_of_getElem? ht
 have e:([41,42,42].all fun t=>!(Tryz.prog.wantsStandIn t))=true:=by kernel_rfl
 have e2:=List.all_eq_true.1 e t h
 cases h2:Tryz.prog.wantsStandIn t with
 | false=>exact h2
 | true=>rw[h2] at e2;cases e2
theorem bendTotals_holds:Rows.BendTotalsCardSaid :=
 Claim7.holds_tied_plain_at .later [] _ _ _ _ Of2 (fun _ h=>by cases h) (by kernel_rfl) (fun _ h=>by cases h) bendTotals_row_tie rfl ⟨rfl,rfl⟩ (by kernel_rfl) rfl plain (by kernel_rfl)
end Go.Proofs.YtgphembaimondaaGreatDoor
