/- TurnHulls: the facets of the hull of points that are moved by a made frame are the facets of their hull, moved; so are the vertices; and the inner products of differences stay the same; for every input the law returns true, and each argument reads as before. Conditions: the package variable turn.identity holds what its initialiser lays (the card ties this to the text). -/
import Derived.Test.YtkfaiccnekeklaaGreatDoorCards
import Derived.Test.YtkfaiccnekeklaaGreatDoorTie
import Derived.Test.YtkfaiccnekeklaaGreatDoorEvLx
import Derived.WalkKit
import Derived.ProofKit
import Derived.Deep.DeepHandedRow
import Derived.Lib.LaidTab
import Derived.Carry
set_option linter.all false
namespace Go.Proofs.YtkfaiccnekeklaaGreatDoor
open Go Go.Ev Go.Ev.L Go.Ev.Ce Go.ChangeShapes Go.RowKit
set_option maxRecDepth 100000
theorem own:ownKnob Tryz.prog.godebug=none:=by kernel_rfl
theorem gI:Tryz.prog.globalNamed "collet/turn.identity" = some 0:=by kernel_rfl
theorem ke1:laidOutB Tryz.prog=true:=by kernel_rfl
theorem ke2:mapsRowed Tryz.prog=true:=by kernel_rfl
theorem ue3:((List.range Tryz.prog.types.size).all fun t=>match Tryz.prog.underlying t with | some (.slice e)=>Nat.blt 0 (Tryz.prog.cellsOf e) | _=>true)=true:=by kernel_rfl
theorem Be3 {t e:TypeId} (ht:t < Tryz.prog.types.size) (hu:Tryz.prog.underlying t=some (.slice e)):0 < Tryz.prog.cellsOf e:=by
 have h:=List.all_eq_true.1 ue3 t (by simpa using ht)
 rw[hu] at h
 exact Nat.le_of_ble_eq_true h
theorem identity {tid : TypeId} (hty : (Tryz.prog.globals[0]?).map (·.type) = some tid) (hu : Tryz.prog.underlying tid = some (.array 3 24)) {W : World} (h : laidMetH Tryz.prog Rows.turnHullsRow.laid W) :
  ∀ g (c:Nat) x,(Go.Ev.Ce.GI g)[c]?=some x→x.oneCell'=true∧W.cell? ⟨g,c,none⟩=some x:=by
 obtain⟨ps,⟨g',t',cs,fuel,p,q,hg',ht',hvar,hd,_,_⟩,_⟩:=h
 obtain rfl:=Option.some.inj (gI.symm.trans hg')
 obtain rfl:=Option.some.inj (hty.symm.trans ht')
 have hm:∀ {a b:Nat} {r:List Int} {z:Int},[[1,0,0],[0,1,0],[0,0,(1:Int)]][a]?=some r→r[b]?=some z→W.cell? ⟨0,a*3+b,none⟩=some (.int .i64 z):=fun {a b r z} h1 h2=>by
  have h3:=ue1 (D:=Unit) (m:=3) hu Tryz.underlying24 Tryz.underlying3 (by kernel_rfl) (by kernel_rfl) (L:=[[1,0,0],[0,1,0],[0,0,(1:Int)]]) hd h1 h2
  rw[World.var?_cell gI hvar (a*3+b)]
  simpa using h3
 intro g c x hx
 match g,c,hx with
 | 0,0,hx=>exact⟨by cases hx;rfl,by cases hx;exact hm (a:=0) (b:=0) rfl rfl⟩
 | 0,1,hx=>exact⟨by cases hx;rfl,by cases hx;exact hm (a:=0) (b:=1) rfl rfl⟩
 | 0,2,hx=>exact⟨by cases hx;rfl,by cases hx;exact hm (a:=0) (b:=2) rfl rfl⟩
 | 0,3,hx=>exact⟨by cases hx;rfl,by cases hx;exact hm (a:=1) (b:=0) rfl rfl⟩
 | 0,4,hx=>exact⟨by cases hx;rfl,by cases hx;exact hm (a:=1) (b:=1) rfl rfl⟩
 | 0,5,hx=>exact⟨by cases hx;rfl,by cases hx;exact hm (a:=1) (b:=2) rfl rfl⟩
 | 0,6,hx=>exact⟨by cases hx;rfl,by cases hx;exact hm (a:=2) (b:=0) rfl rfl⟩
 | 0,7,hx=>exact⟨by cases hx;rfl,by cases hx;exact hm (a:=2) (b:=1) rfl rfl⟩
 | 0,8,hx=>exact⟨by cases hx;rfl,by cases hx;exact hm (a:=2) (b:=2) rfl rfl⟩
 | 0,c+9,hx=>cases hx
 | g+1,c,hx=>cases hx
theorem ae8 (H : Type) (enc : TypeId × Value → H) (W : World) (bs : Nat) (args : Array Value) (ds gs : List (DataW H)) (before : List MemPlace)
  (hval:∀ (j:Nat) t v,Tryz.f3.params[j]?=some t→args[j]?=some v→Value.okWide Tryz.prog W .any bs t v)
  (hW:DataW.Whole enc Tryz.prog Tryz.f3.params.toList Rows.turnHullsSpec.vars false W args.toList ds gs before) (hL:laidMetH Tryz.prog Rows.turnHullsRow.laid W) :
  Calls Tryz.prog 3 args W fun e W'=>∃ v,e=.returned v∧Rows.turnHullsSpec.post enc Tryz.prog Tryz.f3 false true false false W args v W':=by
 have hW':=hW
 obtain⟨p,q,hA0,hV,rfl,hfz,hnd⟩:=hW
 have hA:DataW.TrodAll enc Tryz.prog W 0 (fun _=>true) true Tryz.f3.params.toList args.toList ds p:=hA0
 rw[Tryz.params3] at hA hval
 obtain⟨v0,r0,d0,s0,w0,q0,a0,rfl,rfl,h0,c0⟩:=trodAll_cons hA
 obtain⟨v1,r1,d1,s1,w1,q1,rfl,rfl,rfl,h1,c1⟩:=trodAll_cons c0
 obtain⟨rfl,rfl,rfl⟩:=trodAll_nil c1
 obtain rfl:args=#[v0,v1]:=by cases args;simp_all
 obtain⟨n0,y0,_,e0⟩:=Tc3 (ρ:=fun _=>⟨0,0,0⟩) (H:=[]) (d:=9) (k:=.i64) (es:=1) Tryz.underlying22 (by kernel_rfl) (by kernel_rfl) (by omega) (hval 0 22 v0 rfl rfl) h0
 obtain⟨a0,k0⟩:=qd7 n0 y0
 obtain⟨n1,y1,_,e1⟩:=Tc3 (ρ:=fun _=>⟨0,0,0⟩) (H:=[]) (d:=9) (k:=.i64) (es:=1) Tryz.underlying22 (by kernel_rfl) (by kernel_rfl) (by omega) (hval 1 22 v1 rfl rfl) h1
 obtain⟨a1,k1⟩:=qd7 n1 y1
 have hlaw:=Ke0 k0 k1 (k:=fun x0 x1=>.guard (ma3 x0 x1) (.ret ((Go.Ev.L.one r1B).enc (ma2 x0 x1),[]))) (ue2 (je8 _ _) (je7 _ _))
 refine (Nd7 (P:=Tryz.prog) (G:=Go.Ev.Ce.GI) (f:=3) Pb1 (args:=[v0,v1]) ⟨_,hlaw⟩ rfl (fun i x x' hx hx'=>?_) (identity (tid:=72) (by kernel_rfl) (by kernel_rfl) hL)).mono fun e W' ⟨he,hs⟩=>?_
 ·match i,hx,hx' with
  | 0,hx,hx'=>cases hx;cases hx';exact e0
  | 1,hx,hx'=>cases hx;cases hx';exact e1
  | i+2,hx,hx'=>cases hx
 ·subst he
  exact⟨_,rfl,ae2 (kids_rows ke1 ke2) Be3 (by rw[Tryz.params3];simp) hW' rfl (tb:=4) (by kernel_rfl) Tryz.underlying4 rfl rfl rfl hs⟩
noncomputable def kb1 (os:Os):World :=
 { World.holding Tryz.prog os ⟨#[], #[], []⟩ with heap := (World.holding Tryz.prog os ⟨#[], #[], []⟩).heap.modify 0 fun
   | .cells _ t frozen=>.cells #[.int .i64 1,.int .i64 0,.int .i64 0,.int .i64 0,.int .i64 1,.int .i64 0,.int .i64 0,.int .i64 0,.int .i64 1] t frozen
   | o=>o }
noncomputable def lc0:Array Value:=#[.slice none 0 0,.slice none 0 0]
theorem ae9 (os:Os):laidMet Tryz.prog Rows.turnHullsRow.laid ((kb1 os).forCall (fun _ _=>0) ⟨#[],lc0,[]⟩).memory :=
 laidMet_of_run' 8 (by kernel_rfl) (by kernel_rfl)
theorem reads (os:Os) {H:Type} (enc:TypeId×Value→H):∃ x,DataW.whole enc Tryz.prog ((kb1 os).forCall (fun _ _=>0) ⟨#[],lc0,[]⟩).memory Tryz.f3.params.toList Rows.turnHullsSpec.vars false lc0.toList 8=some x:=by
 cases h:DataW.whole enc Tryz.prog ((kb1 os).forCall (fun _ _=>0) ⟨#[],lc0,[]⟩).memory Tryz.f3.params.toList Rows.turnHullsSpec.vars false lc0.toList 8 with
 | some x=>exact⟨x,rfl⟩
 | none =>
  have e:(DataW.whole enc Tryz.prog ((kb1 os).forCall (fun _ _=>0) ⟨#[],lc0,[]⟩).memory Tryz.f3.params.toList Rows.turnHullsSpec.vars false lc0.toList 8).isSome=true:=by kernel_rfl
  rw[h] at e;cases e
theorem ue4 (os : Os) (started : os.Started) (H : Type) (enc : TypeId × Value → H) (F : Stop.Interp) :
  ReturnsInHanded {} Tryz.checked os 3 .any ((OpenSpec.ofChange Rows.turnHullsSpec).preRow enc Tryz.prog Tryz.f3 Rows.turnHullsRow.domain false Rows.turnHullsRow.laid) (((OpenSpec.ofChange Rows.turnHullsSpec).at F).post enc Tryz.prog Tryz.f3 false true false false):=by
 obtain⟨x,hx⟩:=reads os enc
 refine returnsInHanded_of_row (C:=Tryz.checked) (s:=OpenSpec.ofChange Rows.turnHullsSpec) own started (by kernel_rfl) Tryz.func3
  (witness_row_at (enc:=enc) (C:=Tryz.checked) false (kb1 os) lc0 rfl (by kernel_rfl) (by kernel_rfl) (by kernel_rfl)
   (OpenSpec.preRow_of_cond 8 hx (by kernel_rfl) (fun k hk=>by cases hk) (by kernel_rfl) (ae9 os))) ?_
 intro W base args ds gs before hval hW _ _ _ hL _ _
 exact ae8 H enc W base args ds gs before hval hW hL
theorem Ke1:Rows.TurnHullsSaid :=
 OpenClaim.holds_of_cond 3 Tryz.f3 rfl rfl rfl rfl rfl rfl rfl ⟨rfl,rfl,rfl,rfl,rfl⟩ rfl rfl rfl rfl rfl (by kernel_rfl) Tryz.func3 (by kernel_rfl)
  (of_decide_eq_true (by kernel_rfl)) (by unfold Func.isWrapper;first | (rw[if_pos (by decide +kernel)];kernel_rfl) | (rw[if_neg (by decide +kernel)];exact⟨rfl,rfl⟩))
  (fun os started H enc _ F=>by rw[OpenClaim.pre_eq_preRow];exact ue4 os started H enc F)
theorem plain (f : FuncId) (fn : Func) (hf : Tryz.pinned.checked.prog.funcNamed "collet/colletlaw11.TurnHulls" = some f) (hfn : Tryz.pinned.checked.prog.funcs[f]? = some fn) :
  false=Tryz.pinned.checked.prog.looks []∧∀ (j:Nat) t,fn.params[j]?=some t→Tryz.pinned.checked.prog.wantsStandIn t=false:=by
 obtain rfl:f=3:=Option.some.inj ((show Tryz.prog.funcNamed "collet/colletlaw11.TurnHulls" = some 3 by kernel_rfl).symm.trans hf) |>.symm
 obtain rfl:fn=Tryz.f3:=(Option.some.inj (Tryz.func3.symm.trans hfn)).symm
 refine⟨by kernel_rfl,fun j t ht=>?_⟩
 rw[Tryz.params3] at ht
 have:t=22:=by simpa using Array.mem_of_getElem? ht
 subst this
 exact (show Tryz.prog.wantsStandIn 22=false by kernel_rfl)
theorem turnHulls_holds:Rows.TurnHullsCardSaid :=
 Claim7.holds_tied_plain_at .later [] _ _ _ _ Ke1 (fun _ h=>by cases h) (by kernel_rfl) (fun _ h=>by cases h) turnHulls_row_tie rfl ⟨rfl,rfl⟩ (by kernel_rfl) rfl plain (by kernel_rfl)
end Go.Proofs.YtkfaiccnekeklaaGreatDoor
