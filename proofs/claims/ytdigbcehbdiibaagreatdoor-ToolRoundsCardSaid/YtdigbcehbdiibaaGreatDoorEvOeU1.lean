/- ToolRounds: Round returns what the reference returns, for a radius and a height, as they are and modulo 11 and 15, less 1; for every input the law returns true, and each argument reads as before. Conditions: the package variables unicode/utf8.acceptRanges and unicode/utf8.first hold what the row lists (the card ties this to the text); the law does not depend on them. -/
import Derived.Test.YtdigbcehbdiibaaGreatDoorCards
import Derived.Test.YtdigbcehbdiibaaGreatDoorTie
import Derived.Test.YtdigbcehbdiibaaGreatDoorEvOeV
import Derived.WalkKit
import Derived.ProofKit
import Derived.Deep.DeepHandedRow
import Derived.Lib.LaidTab
import Derived.Carry
set_option linter.all false
namespace Go.Proofs.YtdigbcehbdiibaaGreatDoor
open Go Go.Ev Go.Ev.L Go.Ev.Ce Go.ChangeShapes Go.RowKit
set_option maxRecDepth 100000
theorem own:ownKnob Tryz.prog.godebug=none:=by kernel_rfl
theorem uf7:laidOutB Tryz.prog=true:=by kernel_rfl
theorem uf8:mapsRowed Tryz.prog=true:=by kernel_rfl
theorem Jf0:((List.range Tryz.prog.types.size).all fun t=>match Tryz.prog.underlying t with | some (.slice e)=>Nat.blt 0 (Tryz.prog.cellsOf e) | _=>true)=true:=by kernel_rfl
theorem Sf2 {t e:TypeId} (ht:t < Tryz.prog.types.size) (hu:Tryz.prog.underlying t=some (.slice e)):0 < Tryz.prog.cellsOf e:=by
 have h:=List.all_eq_true.1 Jf0 t (by simpa using ht)
 rw[hu] at h
 exact Nat.le_of_ble_eq_true h
theorem if7 (H:Type) (enc:TypeId×Value→H) (W:World) (bs:Nat) (args:Array Value) (ds gs:List (DataW H)) (before:List MemPlace)
  (hval:∀ (j:Nat) t v,Tryz.f5.params[j]?=some t→args[j]?=some v→Value.okWide Tryz.prog W .any bs t v)
  (hW:DataW.Whole enc Tryz.prog Tryz.f5.params.toList Rows.toolRoundsSpec.vars false W args.toList ds gs before) :
  Calls Tryz.prog 5 args W fun e W'=>∃ v,e=.returned v∧Rows.toolRoundsSpec.post enc Tryz.prog Tryz.f5 false true false false W args v W':=by
 have hW':=hW
 obtain⟨p,q,hA0,hV,rfl,hfz,hnd⟩:=hW
 have hA:DataW.TrodAll enc Tryz.prog W 0 (fun _=>true) true Tryz.f5.params.toList args.toList ds p:=hA0
 rw[Tryz.params5] at hA hval
 obtain⟨v0,r0,d0,s0,w0,q0,a0,rfl,rfl,h0,c0⟩:=trodAll_cons hA
 obtain⟨v1,r1,d1,s1,w1,q1,rfl,rfl,rfl,h1,c1⟩:=trodAll_cons c0
 obtain⟨rfl,rfl,rfl⟩:=trodAll_nil c1
 obtain rfl:args=#[v0,v1]:=by cases args;simp_all
 obtain⟨y0,e0⟩:=Ie6 (ρ:=fun _=>⟨0,0,0⟩) (H:=[]) (F:=Qe4 W) Tryz.underlying3 (hval 0 3 v0 rfl rfl)
 obtain⟨a0,k0⟩:=He2 y0
 obtain⟨y1,e1⟩:=Ie6 (ρ:=fun _=>⟨0,0,0⟩) (H:=[]) (F:=Qe4 W) Tryz.underlying3 (hval 1 3 v1 rfl rfl)
 obtain⟨a1,k1⟩:=He2 y1
 have hlaw:=bg4 k0 k1 (k:=fun x0 x1=>.guard (Ca9 x0 x1) (.ret ((Go.Ev.L.one r1B).enc (Ca8 x0 x1),[]))) (Hf0 (Ae9 _ _) (Ae8 _ _))
 refine (Qe6 (P:=Tryz.prog) (G:=Go.Ev.Ce.G) (f:=5) zc5 (args:=[v0,v1]) ⟨_,hlaw⟩ rfl (fun i x x' hx hx'=>?_) (fun g c x hx=>by simp[Go.Ev.Ce.G] at hx)).mono fun e W' ⟨he,hs⟩=>?_
 ·match i,hx,hx' with
  | 0,hx,hx'=>cases hx;cases hx';exact e0
  | 1,hx,hx'=>cases hx;cases hx';exact e1
  | i+2,hx,hx'=>cases hx
 ·subst he
  exact⟨_,rfl,ef9 (kids_rows uf7 uf8) Sf2 (by rw[Tryz.params5];simp) hW' rfl (tb:=4) (by kernel_rfl) Tryz.underlying4 rfl rfl rfl hs⟩
noncomputable def Hb4 (os:Os):World :=
 let w0:=World.holding Tryz.prog os ⟨#[],#[],[]⟩
 let put (h:Array Obj) (g:Nat) (cs:Array Value):Array Obj:=h.modify g fun
  | .cells _ t frozen=>.cells cs t frozen
  | o=>o
 let h1:=put w0.heap 0 (Go.Pinned.utf8FirstZ.map fun z=>Value.int .u8 (Int.ofNat z)).toArray
 let h2:=put h1 1 (([128,191,160,191,128,159,144,191,128,143]:List Int).map (fun z=>Value.int .u8 z)++List.replicate 22 (Value.int .u8 0)).toArray
 { w0 with heap:=h2 }
noncomputable def jd1:Array Value:=#[.int .i64 0,.int .i64 0]
theorem if8 (os:Os):laidMet Tryz.prog Rows.toolRoundsRow.laid ((Hb4 os).forCall (fun _ _=>0) ⟨#[],jd1,[]⟩).memory :=
 laidMet_of_run' 8 (by kernel_rfl) (by kernel_rfl)
theorem reads (os:Os) {H:Type} (enc:TypeId×Value→H):∃ x,DataW.whole enc Tryz.prog ((Hb4 os).forCall (fun _ _=>0) ⟨#[],jd1,[]⟩).memory Tryz.f5.params.toList Rows.toolRoundsSpec.vars false jd1.toList 8=some x:=by
 cases h:DataW.whole enc Tryz.prog ((Hb4 os).forCall (fun _ _=>0) ⟨#[],jd1,[]⟩).memory Tryz.f5.params.toList Rows.toolRoundsSpec.vars false jd1.toList 8 with
 | some x=>exact⟨x,rfl⟩
 | none =>
  have e:(DataW.whole enc Tryz.prog ((Hb4 os).forCall (fun _ _=>0) ⟨#[],jd1,[]⟩).memory Tryz.f5.params.toList Rows.toolRoundsSpec.vars false jd1.toList 8).isSome=true:=by kernel_rfl
  rw[h] at e;cases e
theorem Jf1 (os:Os) (started:os.Started) (H:Type) (enc:TypeId×Value→H) (F:Stop.Interp) :
  ReturnsInHanded {} Tryz.checked os 5 .any ((OpenSpec.ofChange Rows.toolRoundsSpec).preRow enc Tryz.prog Tryz.f5 Rows.toolRoundsRow.domain false Rows.toolRoundsRow.laid) (((OpenSpec.ofChange Rows.toolRoundsSpec).at F).post enc Tryz.prog Tryz.f5 false true false false):=by
 obtain⟨x,hx⟩:=reads os enc
 refine returnsInHanded_of_row (C:=Tryz.checked) (s:=OpenSpec.ofChange Rows.toolRoundsSpec) own started (by kernel_rfl) Tryz.func5
  (witness_row_at (enc:=enc) (C:=Tryz.checked) false (Hb4 os) jd1 rfl (by kernel_rfl) (by kernel_rfl) (by kernel_rfl)
   (OpenSpec.preRow_of_cond 8 hx (by kernel_rfl) (fun k hk=>by cases hk) (by kernel_rfl) (if8 os))) ?_
 intro W base args ds gs before hval hW _ _ _ hL _ _
 exact if7 H enc W base args ds gs before hval hW
theorem cg6:Rows.ToolRoundsSaid :=
 OpenClaim.holds_of_cond 5 Tryz.f5 rfl rfl rfl rfl rfl rfl rfl ⟨rfl,rfl,rfl,rfl,rfl⟩ rfl rfl rfl rfl rfl (by kernel_rfl) Tryz.func5 (by kernel_rfl)
  (of_decide_eq_true (by kernel_rfl)) (by unfold Func.isWrapper;first | (rw[if_pos (by decide +kernel)];kernel_rfl) | (rw[if_neg (by decide +kernel)];exact⟨rfl,rfl⟩))
  (fun os started H enc _ F=>by rw[OpenClaim.pre_eq_preRow];exact Jf1 os started H enc F)
theorem plain (f:FuncId) (fn:Func) (hf:Tryz.pinned.checked.prog.funcNamed "collet/colletlaw14.ToolRounds" = some f) (hfn:Tryz.pinned.checked.prog.funcs[f]?=some fn) :
  false=Tryz.pinned.checked.prog.looks []∧∀ (j:Nat) t,fn.params[j]?=some t→Tryz.pinned.checked.prog.wantsStandIn t=false:=by
 obtain rfl:f=5:=Option.some.inj ((show Tryz.prog.funcNamed "collet/colletlaw14.ToolRounds" = some 5 by kernel_rfl).symm.trans hf) |>.symm
 obtain rfl:fn=Tryz.f5:=(Option.some.inj (Tryz.func5.symm.trans hfn)).symm
 refine⟨by kernel_rfl,fun j t ht=>?_⟩
 rw[Tryz.params5] at ht
 have h:t∈[3,3]:=by simpa using Array.mem_of_getElem? ht
 have e:([3,3].all fun t=>!(Tryz.prog.wantsStandIn t))=true:=by kernel_rfl
 have e2:=List.all_eq_true.1 e t h
 cases h2:Tryz.prog.wantsStandIn t with
 | false=>exact h2
 | true=>rw[h2] at e2;cases e2
theorem toolRounds_holds:Rows.ToolRoundsCardSaid :=
 Claim7.holds_tied_plain_at .later [] _ _ _ _ cg6 (fun _ h=>by cases h) (by kernel_rfl) (fun _ h=>by cases h) toolRounds_row_tie rfl ⟨rfl,rfl⟩ (by kernel_rfl) rfl plain (by kernel_rfl)
end Go.Proofs.YtdigbcehbdiibaaGreatDoor
