/- Own work: a part of the proof. -/
import Derived.Test.YtlccibobknidjaaEvBd
import Derived.Test.YtlccibobknidjaaChecked
import Derived.Test.YtlccibobknidjaaEvICePf
import Derived.KernelRfl
import Derived.Test.YtlccibobknidjaaEvSp3
import Derived.Test.YtlccibobknidjaaEvMem
import Derived.Shelf.Spec.SlicesGrow
set_option linter.unusedVariables false
set_option linter.unusedSimpArgs false
set_option linter.unnecessarySimpa false
set_option linter.unusedSectionVars false
section
namespace Go.Ev.Ce
open Go Go.Ev Go.Proofs
set_option maxRecDepth 1000000
theorem mx:(Try.prog).follows .mixedOrders=true:=Checked.mixed Try.checked
theorem b3:E6 Try.prog 3 fun E=>n9 E pf3:=G8 mx Try.func3 (by kernel_rfl) (i9 (by kernel_rfl))
theorem b4:E6 Try.prog 4 fun E=>n9 E pf4:=G8 mx Try.func4 (by kernel_rfl) (i9 (by kernel_rfl))
theorem b5:E6 Try.prog 5 fun E=>n9 E pf5:=G8 mx Try.func5 (by kernel_rfl) (i9 (by kernel_rfl))
theorem b6:E6 Try.prog 6 fun E=>n9 E pf6:=G8 mx Try.func6 (by kernel_rfl) (i9 (by kernel_rfl))
theorem b7:E6 Try.prog 7 fun E=>n9 E pf7:=G8 mx Try.func7 (by kernel_rfl) (i9 (by kernel_rfl))
theorem b8:E6 Try.prog 8 fun E=>n9 E pf8:=G8 mx Try.func8 (by kernel_rfl) (i9 (by kernel_rfl))
theorem b9:E6 Try.prog 9 fun E=>n9 E pf9:=G8 mx Try.func9 (by kernel_rfl) (i9 (by kernel_rfl))
theorem b10:E6 Try.prog 10 fun E=>n9 E Ed1:=G8 mx Try.func10 (by kernel_rfl) (i9 (by kernel_rfl))
theorem b12:E6 Try.prog 12 fun E=>n9 E Ed2:=G8 mx Try.func12 (by kernel_rfl) (i9 (by kernel_rfl))
theorem b13:E6 Try.prog 13 fun E=>n9 E Ed3:=G8 mx Try.func13 (by kernel_rfl) (i9 (by kernel_rfl))
theorem b14:E6 Try.prog 14 fun E=>n9 E Ed4:=G8 mx Try.func14 (by kernel_rfl) (i9 (by kernel_rfl))
theorem b15:E6 Try.prog 15 fun E=>n9 E Ed5:=G8 mx Try.func15 (by kernel_rfl) (i9 (by kernel_rfl))
theorem b16:E6 Try.prog 16 fun E=>n9 E Ed6:=G8 mx Try.func16 (by kernel_rfl) (i9 (by kernel_rfl))
theorem b17:E6 Try.prog 17 fun E=>n9 E Ed7:=G8 mx Try.func17 (by kernel_rfl) (i9 (by kernel_rfl))
theorem b18:E6 Try.prog 18 fun E=>n9 E Ed8:=G8 mx Try.func18 (by kernel_rfl) (i9 (by kernel_rfl))
theorem b19:E6 Try.prog 19 fun E=>n9 E Ed9:=G8 mx Try.func19 (by kernel_rfl) (i9 (by kernel_rfl))
theorem b20:E6 Try.prog 20 fun E=>n9 E Fd0:=G8 mx Try.func20 (by kernel_rfl) (i9 (by kernel_rfl))
theorem b21:E6 Try.prog 21 fun E=>n9 E Fd1:=G8 mx Try.func21 (by kernel_rfl) (i9 (by kernel_rfl))
theorem b22:E6 Try.prog 22 fun E=>n9 E zd9:=G8 mx Try.func22 (by kernel_rfl) (i9 (by kernel_rfl))
theorem b23:E6 Try.prog 23 fun E=>n9 E Ad0:=G8 mx Try.func23 (by kernel_rfl) (i9 (by kernel_rfl))
theorem b24:E6 Try.prog 24 fun E=>n9 E Fd2:=G8 mx Try.func24 (by kernel_rfl) (i9 (by kernel_rfl))
theorem b25:E6 Try.prog 25 fun E=>n9 E Fd3:=G8 mx Try.func25 (by kernel_rfl) (i9 (by kernel_rfl))
theorem b26:E6 Try.prog 26 fun E=>n9 E Fd4:=G8 mx Try.func26 (by kernel_rfl) (i9 (by kernel_rfl))
theorem b27:E6 Try.prog 27 fun E=>n9 E Fd5:=G8 mx Try.func27 (by kernel_rfl) (i9 (by kernel_rfl))
theorem b28:E6 Try.prog 28 fun E=>ib5 E kd1:=pd3 (h:=h28) mx Try.func28 (by kernel_rfl) Try.func72 (by kernel_rfl) (i9 (by kernel_rfl))
theorem b29:E6 Try.prog 29 fun E=>n9 E Ad1:=G8 mx Try.func29 (by kernel_rfl) (i9 (by kernel_rfl))
theorem b30:E6 Try.prog 30 fun E=>n9 E Fd6:=G8 mx Try.func30 (by kernel_rfl) (i9 (by kernel_rfl))
theorem b31:E6 Try.prog 31 fun E=>n9 E Ad2:=G8 mx Try.func31 (by kernel_rfl) (i9 (by kernel_rfl))
theorem b32:E6 Try.prog 32 fun E=>n9 E Fd7:=G8 mx Try.func32 (by kernel_rfl) (i9 (by kernel_rfl))
theorem b34:E6 Try.prog 34 fun E=>n9 E Fd8:=G8 mx Try.func34 (by kernel_rfl) (i9 (by kernel_rfl))
theorem b35:E6 Try.prog 35 fun E=>n9 E td8:=G8 mx Try.func35 (by kernel_rfl) (i9 (by kernel_rfl))
theorem b36:E6 Try.prog 36 fun E=>n9 E Fd9:=G8 mx Try.func36 (by kernel_rfl) (i9 (by kernel_rfl))
theorem b37:E6 Try.prog 37 fun E=>n9 E Gd0:=G8 mx Try.func37 (by kernel_rfl) (i9 (by kernel_rfl))
theorem b38:E6 Try.prog 38 fun E=>n9 E Gd1:=G8 mx Try.func38 (by kernel_rfl) (i9 (by kernel_rfl))
theorem b39:E6 Try.prog 39 fun E=>n9 E Gd2:=G8 mx Try.func39 (by kernel_rfl) (i9 (by kernel_rfl))
theorem b40:E6 Try.prog 40 fun E=>n9 E Gd3:=G8 mx Try.func40 (by kernel_rfl) (i9 (by kernel_rfl))
theorem b41:E6 Try.prog 41 fun E=>n9 E Gd4:=G8 mx Try.func41 (by kernel_rfl) (i9 (by kernel_rfl))
theorem b42:E6 Try.prog 42 fun E=>n9 E Gd5:=G8 mx Try.func42 (by kernel_rfl) (i9 (by kernel_rfl))
theorem b43:E6 Try.prog 43 fun E=>n9 E Gd6:=G8 mx Try.func43 (by kernel_rfl) (i9 (by kernel_rfl))
theorem b44:E6 Try.prog 44 fun E=>n9 E Gd7:=G8 mx Try.func44 (by kernel_rfl) (i9 (by kernel_rfl))
theorem b45:E6 Try.prog 45 fun E=>n9 E Gd8:=G8 mx Try.func45 (by kernel_rfl) (i9 (by kernel_rfl))
theorem b46:E6 Try.prog 46 fun E=>n9 E Gd9:=G8 mx Try.func46 (by kernel_rfl) (i9 (by kernel_rfl))
theorem b47:E6 Try.prog 47 fun E=>n9 E Hd0:=G8 mx Try.func47 (by kernel_rfl) (i9 (by kernel_rfl))
theorem b48:E6 Try.prog 48 fun E=>n9 E Hd1:=G8 mx Try.func48 (by kernel_rfl) (i9 (by kernel_rfl))
theorem b49:E6 Try.prog 49 fun E=>n9 E Hd2:=G8 mx Try.func49 (by kernel_rfl) (i9 (by kernel_rfl))
theorem b50:E6 Try.prog 50 fun E=>n9 E Hd3:=G8 mx Try.func50 (by kernel_rfl) (i9 (by kernel_rfl))
theorem b51:E6 Try.prog 51 fun E=>n9 E Hd4:=G8 mx Try.func51 (by kernel_rfl) (i9 (by kernel_rfl))
theorem b52:E6 Try.prog 52 fun E=>ib5 E td9:=pd3 (h:=h52) mx Try.func52 (by kernel_rfl) Try.func71 (by kernel_rfl) (i9 (by kernel_rfl))
theorem b53:E6 Try.prog 53 fun E=>n9 E Ad3:=G8 mx Try.func53 (by kernel_rfl) (i9 (by kernel_rfl))
theorem b54:E6 Try.prog 54 fun E=>n9 E Hd5:=G8 mx Try.func54 (by kernel_rfl) (i9 (by kernel_rfl))
theorem b55:E6 Try.prog 55 fun E=>n9 E kd2:=G8 mx Try.func55 (by kernel_rfl) (i9 (by kernel_rfl))
theorem b58:E6 Try.prog 58 fun E=>n9 E Hd6:=G8 mx Try.func58 (by kernel_rfl) (i9 (by kernel_rfl))
theorem b59:E6 Try.prog 59 fun E=>n9 E Hd7:=G8 mx Try.func59 (by kernel_rfl) (i9 (by kernel_rfl))
theorem b60:E6 Try.prog 60 fun E=>n9 E Hd8:=G8 mx Try.func60 (by kernel_rfl) (i9 (by kernel_rfl))
theorem b61:E6 Try.prog 61 fun E=>n9 E ud0:=G8 mx Try.func61 (by kernel_rfl) (i9 (by kernel_rfl))
theorem b62:E6 Try.prog 62 fun E=>n9 E Hd9:=G8 mx Try.func62 (by kernel_rfl) (i9 (by kernel_rfl))
theorem b63:E6 Try.prog 63 fun E=>n9 E Ad4:=G8 mx Try.func63 (by kernel_rfl) (i9 (by kernel_rfl))
theorem b64:E6 Try.prog 64 fun E=>n9 E Id0:=G8 mx Try.func64 (by kernel_rfl) (i9 (by kernel_rfl))
theorem b65:E6 Try.prog 65 fun E=>n9 E Ad5:=G8 mx Try.func65 (by kernel_rfl) (i9 (by kernel_rfl))
theorem b66:E6 Try.prog 66 fun E=>n9 E Id1:=G8 mx Try.func66 (by kernel_rfl) (i9 (by kernel_rfl))
theorem b67:E6 Try.prog 67 fun E=>n9 E Id2:=G8 mx Try.func67 (by kernel_rfl) (i9 (by kernel_rfl))
theorem b68:E6 Try.prog 68 fun E=>n9 E Id3:=G8 mx Try.func68 (by kernel_rfl) (i9 (by kernel_rfl))
theorem b69:E6 Try.prog 69 fun E=>n9 E ud1:=G8 mx Try.func69 (by kernel_rfl) (i9 (by kernel_rfl))
theorem b70:E6 Try.prog 70 fun E=>n9 E Ad6:=G8 mx Try.func70 (by kernel_rfl) (i9 (by kernel_rfl))
theorem b72:E6 Try.prog 72 fun E=>n9 E Ad7:=G8 mx Try.func72 (by kernel_rfl) (i9 (by kernel_rfl))
theorem b73:E6 Try.prog 73 fun E=>n9 E Id4:=G8 mx Try.func73 (by kernel_rfl) (i9 (by kernel_rfl))
theorem b74:E6 Try.prog 74 fun E=>n9 E ud2:=G8 mx Try.func74 (by kernel_rfl) (i9 (by kernel_rfl))
theorem b85:E6 Try.prog 85 fun E=>n9 E Ad8:=G8 mx Try.func85 (by kernel_rfl) (i9 (by kernel_rfl))
theorem b86:E6 Try.prog 86 fun E=>n9 E Ad9:=G8 mx Try.func86 (by kernel_rfl) (i9 (by kernel_rfl))
theorem b87:E6 Try.prog 87 fun E=>n9 E Id5:=G8 mx Try.func87 (by kernel_rfl) (i9 (by kernel_rfl))
theorem b88:E6 Try.prog 88 fun E=>n9 E Id6:=G8 mx Try.func88 (by kernel_rfl) (i9 (by kernel_rfl))
end Go.Ev.Ce
end
namespace Go.Ev.L
open Go Go.Ev
noncomputable def ib9:RT→PC→PS2
 | .s a b,.seq x y=>.seq (ib9 a x) (ib9 b y)
 | .c a b,.cond g x y=>.cond g (ib9 a x) (ib9 b y)
 | .b a,.block id x=>.block id (ib9 a x)
 | .i a,.inner f x n c=>.inner f x n (ib9 a c)
 | .u S,_=>.sum S
 | _,c=>.pc c
theorem lc8 {E:Env} {k:Nat} (rt:RT) (c:PC):ta9 (fun x=>∀ s,P4 (x.1 s) (I1 E k x.2 s)) (pb0 rt c)→Y7 E k (ib9 rt c) c:=by
 induction rt generalizing c with
 | p=>intro h;cases c<;>exact .pc _
 | s a b iha ihb =>
  intro h
  cases c with
  | seq x y=>exact .seq (iha x (ta9.app h).1) (ihb y (ta9.app h).2)
  | _=>exact .pc _
 | c a b iha ihb =>
  intro h
  cases c with
  | cond g x y=>exact .cond g (iha x (ta9.app h).1) (ihb y (ta9.app h).2)
  | _=>exact .pc _
 | b a iha =>
  intro h
  cases c with
  | block id x=>exact .block id (iha x h)
  | _=>exact .pc _
 | l a iha=>intro h;cases c<;>exact .pc _
 | i a iha =>
  intro h
  cases c with
  | inner f x n c=>exact .inner f x n (iha c h)
  | _=>exact .pc _
 | u S =>
  intro h
  have:pb0 (.u S) c=[(S,c)]:=by cases c<;>rfl
  rw[this] at h
  cases h with
  | cons h t =>
   have e:ib9 (.u S) c=.sum S:=by cases c<;>rfl
   rw[e]
   exact .sum h
section
variable {π σ:Type} {E:Env} {k:Nat} {keep:List Nat} {alts:List (Al2 π σ)} {enc:π→σ→St} {step:π→σ→Stp σ} {xs:Xs π σ} {body:PS2} {c:PC}
theorem hb7.belowM (hb:Y7 E k body c) (hN:E.N=rounds+1) (w:hb7 wc3 k keep (Fb3 E k body) alts step xs enc) (s:St):P4 (fc0 wc3 k keep alts step xs s) (I1 E k (.loopM keep c) s):=fun r hr=>by
 obtain⟨t,h1,h2⟩:=w.go hr
 rw[Fc9,hN]
 exact Ya1 hb.le _ _ _ (nb2 h1 h2)
theorem hb7.belowML (hb:Y7 E k body c) (hN:E.N=rounds+1) (w:hb7 gb9 k keep (Fb3 E k body) alts step xs enc) (s:St):P4 (fc0 gb9 k keep alts step xs s) (I1 E k (.loop keep c) s):=fun r hr=>by
 obtain⟨t,h1,h2⟩:=w.go hr
 rw[ec9,hN]
 exact Ya1 hb.le _ _ _ (nb2 h1 h2)
end
end Go.Ev.L
namespace Go.Ev.Ab
open Go Go.Ev
@[reducible] def o (d:Nat) (x:PO):PI:=⟨some d,none,[],x⟩
@[reducible] def s (x:PO):PI:=⟨none,none,[],x⟩
@[reducible] def cb (b:Bool):Arg:=.c (.v (.bool b))
@[reducible] def vi (n:Int):a7:=.v (.int .i64 n)
@[reducible] def rep {α:Type} (n:Nat) (x:α):List α:=List.replicate n x
@[reducible] def ki (n:Nat):List CK:=List.replicate n (.int .i64)
@[reducible] def mv (d n:Nat):PI:=o d (.mv (.t n))
@[reducible] def mb (d:Nat) (x:Bool):PI:=o d (.mv (cb x))
@[reducible] def fd (d k n:Nat):PI:=o d (.fld k (.t n))
@[reducible] def ex (d x k:Nat):PI:=o d (.ext (.t x) k)
@[reducible] def so (l:List PI) (x:PC):PC:=.seq (.ops l) x
@[reducible] def ts (l:List Nat):List Arg:=l.map .t
@[reducible] def cl (f:Nat) (l:List Nat):PO:=.call f (ts l)
@[reducible] def sT (k a b:Nat):PI:=s (.store k (.t a) (.t b))
@[reducible] def pa (d c x:Nat):PI:=o d (.pick (.t c) (.t x) (cb false))
@[reducible] def po (d c x:Nat):PI:=o d (.pick (.t c) (cb true) (.t x))
@[reducible] def al (d k:Nat) (n:Int):PI:=o d (.alloc (rep k (vi n)))
@[reducible] def ap (d et es n x y:Nat):PI:=o d (.append et es n (.t x) (.t y))
end Go.Ev.Ab
namespace Go.Ev.L
open Go Go.Ev
def Cps {π σ:Type} (u:∀ {α:Type},(σ→α)→(Nat→α)→α→π→σ→α):Prop :=
 ∀ {α β:Type} (F:α→β) (k:σ→α) (e:Nat→α) (z:α) (p:π) (s:σ),F (u k e z p s)=u (fun x=>F (k x)) (fun t=>F (e t)) (F z) p s
@[reducible] noncomputable def foL {π σ:Type} (en:π→σ→St) (xs:Xs π σ) (p:π) (s:σ):Stp σ→Option (c8×St):=hb5 (fun s'=>some (.normal,en p s')) (fun t=>xOf xs p s t 1) none
structure Lo (π σ:Type) where
 E:Env
 k:Nat
 F:PFn
 at':List Nat
 kp:List Nat
 rt:RT
 al:List (Al2 π σ)
 st:π→σ→Stp σ
 xs:Xs π σ
 en:π→σ→St
namespace Lo
variable {π σ:Type} (L:Lo π σ)
noncomputable def lc:PC:=Dd9 L.at' L.F.body
noncomputable def ls:St→DT (c8×St):=fc0 gb9 L.k L.kp L.al L.st L.xs
noncomputable def lsM:St→DT (c8×St):=fc0 wc3 L.k L.kp L.al L.st L.xs
noncomputable def pr:(St→DT (c8×St))×PC:=(L.ls,.loop L.kp L.lc)
noncomputable def prM:(St→DT (c8×St))×PC:=(L.lsM,.loopM L.kp L.lc)
def Ok:Prop:=∀ s,T3 L.k L.F.res (L.pr.1 s) (I1 L.E L.k L.pr.2 s)
def OkE:Prop:=∀ s,P4 (L.pr.1 s) (I1 L.E L.k L.pr.2 s)
def OkM:Prop:=∀ s,P4 (L.prM.1 s) (I1 L.E L.k L.prM.2 s)
def Rd (hd:St→DT St) (bd:St→DT (c8×St)) (p:π) (s:σ) (a:St) (b:Stp σ):Prop:=(Ya2 hd bd a).run=foL L.en L.xs p s b
def H0:Prop:=∀ p s,L.Rd (gb9 L.k L.kp) (Jc5 L.E L.k L.F.res (Yb5 L.rt L.lc)) p s (L.en p s) (L.st p s)
def H1:Prop:=∀ p s,L.Rd (gb9 L.k L.kp) (Fb3 L.E L.k (ib9 L.rt L.lc)) p s (L.en p s) (L.st p s)
def H2:Prop:=∀ p s,L.Rd (wc3 L.k L.kp) (Fb3 L.E L.k (ib9 L.rt L.lc)) p s (L.en p s) (L.st p s)
def HA:Prop:=ta9 (fun x=>∀ a H,(⟨Qc4 x.sh a,Qc5 x.bl H⟩:St)=L.en (x.rd a H).1 (x.rd a H).2) L.al
variable {L}
theorem Rd.of {hd : St → DT St} {bd : St → DT (c8 × St)} {p : π} {s : σ} {a : St} (u : ∀ {α : Type}, (σ → α) → (Nat → α) → α → π → σ → α)
  (q:Cps @u) (H:(Ya2 hd bd a).run=u (fun x=>foL L.en L.xs p s (.next x)) (fun t=>foL L.en L.xs p s (.exit t)) (foL L.en L.xs p s .fail) p s):L.Rd hd bd p s a (u .next .exit .fail p s) :=
 H.trans (q (foL L.en L.xs p s) Stp.next Stp.exit Stp.fail p s).symm
theorem Rd.sel {hd:St→DT St} {bd:St→DT (c8×St)} {p:π} {s:σ} {a1 a0:St} {b1 b0:Stp σ} (c:Bool) (h1:L.Rd hd bd p s a1 b1) (h0:L.Rd hd bd p s a0 b0):L.Rd hd bd p s (sel c a1 a0) (sel c b1 b0):=by
 cases c with
 | true=>exact h1
 | false=>exact h0
theorem ok (l:List ((St→DT (c8×St))×PC)) (hs:pb0 L.rt L.lc=l) (hl:ta9 (fun x=>∀ s,T3 L.k L.F.res (x.1 s) (I1 L.E L.k x.2 s)) l) (hN:L.E.N=rounds+1) (ha:L.HA) (h:L.H0):L.Ok :=
 hb7.belowC (Kc3 _ _ (by rw[hs];exact hl)) hN ⟨ha,h⟩
theorem okE (l:List ((St→DT (c8×St))×PC)) (hs:pb0 L.rt L.lc=l) (hl:ta9 (fun x=>∀ s,P4 (x.1 s) (I1 L.E L.k x.2 s)) l) (hN:L.E.N=rounds+1) (ha:L.HA) (h:L.H1):L.OkE :=
 hb7.belowML (lc8 _ _ (by rw[hs];exact hl)) hN ⟨ha,h⟩
theorem okM (l:List ((St→DT (c8×St))×PC)) (hs:pb0 L.rt L.lc=l) (hl:ta9 (fun x=>∀ s,P4 (x.1 s) (I1 L.E L.k x.2 s)) l) (hN:L.E.N=rounds+1) (ha:L.HA) (h:L.H2):L.OkM :=
 hb7.belowM (lc8 _ _ (by rw[hs];exact hl)) hN ⟨ha,h⟩
end Lo
theorem db0 {E : Env} {F : PFn} {args : List a7} {blks : List a8} {o : Option (a7 × List a8)} (rt : RT) (l : List ((St → DT (c8 × St)) × PC)) (hs : pb0 rt F.body = l)
  (hl:ta9 (fun x=>∀ s,T3 (len blks) F.res (x.1 s) (I1 E (len blks) x.2 s)) l) (h:(yd8 E F (Yb5 rt F.body) args blks).run=o) (r:a7×List a8) (hr:o=some r):(n9 E F args blks).run=some r :=
 Dc9 (Kc3 rt _ (by rw[hs];exact hl)) r (h.trans hr)
theorem pd4 {E : Env} {F : PFn} {args : List a7} {blks : List a8} {o : Option (a7 × List a8)} (rt : RT) (l : List ((St → DT (c8 × St)) × PC)) (hs : pb0 rt F.body = l)
  (hl:ta9 (fun x=>∀ s,P4 (x.1 s) (I1 E (len blks) x.2 s)) l) (h:(pd2 E F (ib9 rt F.body) args blks).run=o) (r:a7×List a8) (hr:o=some r):(ib5 E F args blks).run=some r :=
 wc2 (lc8 rt _ (by rw[hs];exact hl)) r (h.trans hr)
theorem D2 {A o:Option (a7×List a8)} (h:A=o) (r:a7×List a8) (hr:o=some r):A=some r:=h.trans hr
end Go.Ev.L
namespace Go.Ev.Ce
structure V3 where
 x:Int
 y:Int
 z:Int
structure Pln where
 n:V3
 b:Int
structure Pt where
 px:Int
 py:Int
 pz:Int
 pw:Int
def o5 (a b:V3):V3:=⟨a.y*b.z - a.z*b.y,a.z*b.x - a.x*b.z,a.x*b.y - a.y*b.x⟩
def dot (a b:V3):Int:=a.x*b.x+a.y*b.y+a.z*b.z
def mw (p q r:Pln):Int:=dot p.n (o5 q.n r.n)
end Go.Ev.Ce
namespace Go.Ev.Ce
open Go Go.Ev Go.Ev.L Go.Proofs
@[reducible] noncomputable def prog:Program:=Try.prog
noncomputable def G:Nat→List Value:=fun _=>[]
noncomputable def En (l:List (Nat×Sum)):Env:={ P:=prog,G,fns:=fun _=>none,call:=rd7 l,own:=fun f j=>Bool.and (Aa6 f [29,33,35,55]) (Nat.beq j 0),N:=18446744073709551616 }
@[reducible] def u:a7:=.v (.tuple #[])
theorem Bd0 {l:List (Nat×Sum)} (h:m9 prog G l):∀ f,i7 (En l).P (En l).G f ((En l).call f):=Jc3 h
theorem bd {l:List (Nat×Sum)} {f:FuncId} {R:Env→Sum} (b:E6 prog f R) (h:m9 prog G l):i7 prog G f (R (En l)):=b rfl (Bd0 h)
noncomputable def tV:Ty V3 where
 es:=3
 row x:=[i x.x,i x.y,i x.z]
 rd r:=⟨toI (hdA r),toI (hdA (tlA r)),toI (hdA (tlA (tlA r)))⟩
 ok r:=ja1 3 r
 cks:=List.replicate 3 (.int .i64)
 d:=⟨0,0,0⟩
 h0 _:=rfl
 h1 _:=rfl
 h2 _:=rfl
 h3 _ h:=.of (xa8 h)
 h4 _:=rfl
 h5 _:=rfl
noncomputable def r1V:R1 V3:=r1A tV 3 fun _ h=>h
noncomputable def tP:Ty Pln where
 es:=4
 row x:=[i x.n.x,i x.n.y,i x.n.z,i x.b]
 rd r:=⟨⟨toI (hdA r),toI (hdA (tlA r)),toI (hdA (tlA (tlA r)))⟩,toI (hdA (tlA (tlA (tlA r))))⟩
 ok r:=ja1 4 r
 cks:=List.replicate 4 (.int .i64)
 d:=⟨⟨0,0,0⟩,0⟩
 h0 _:=rfl
 h1 _:=rfl
 h2 _:=rfl
 h3 _ h:=.of (xa8 h)
 h4 _:=rfl
 h5 _:=rfl
noncomputable def r1P:R1 Pln:=r1A tP 4 fun _ h=>h
noncomputable def tX:Ty Pt where
 es:=4
 row x:=[i x.px,i x.py,i x.pz,i x.pw]
 rd r:=⟨toI (hdA r),toI (hdA (tlA r)),toI (hdA (tlA (tlA r))),toI (hdA (tlA (tlA (tlA r))))⟩
 ok r:=ja1 4 r
 cks:=List.replicate 4 (.int .i64)
 d:=⟨0,0,0,0⟩
 h0 _:=rfl
 h1 _:=rfl
 h2 _:=rfl
 h3 _ h:=.of (xa8 h)
 h4 _:=rfl
 h5 _:=rfl
noncomputable def r1X:R1 Pt:=r1A tX 4 fun _ h=>h
structure Tp where
 p:Pln
 q:Pln
 r:Pln
noncomputable def tY:Ty Tp where
 es:=12
 row x:=[i x.p.n.x,i x.p.n.y,i x.p.n.z,i x.p.b,i x.q.n.x,i x.q.n.y,i x.q.n.z,i x.q.b,i x.r.n.x,i x.r.n.y,i x.r.n.z,i x.r.b]
 rd r:=⟨⟨⟨toI (hdA r),toI (hdA (tlA r)),toI (hdA (tlA (tlA r)))⟩,toI (hdA (tlA (tlA (tlA r))))⟩,⟨⟨toI (hdA (tlA (tlA (tlA (tlA r))))),toI (hdA (tlA (tlA (tlA (tlA (tlA r)))))),toI (hdA (tlA (tlA (tlA (tlA (tlA (tlA r)))))))⟩,toI (hdA (tlA (tlA (tlA (tlA (tlA (tlA (tlA r))))))))⟩,⟨⟨toI (hdA (tlA (tlA (tlA (tlA (tlA (tlA (tlA (tlA r))))))))),toI (hdA (tlA (tlA (tlA (tlA (tlA (tlA (tlA (tlA (tlA r)))))))))),toI (hdA (tlA (tlA (tlA (tlA (tlA (tlA (tlA (tlA (tlA (tlA r)))))))))))⟩,toI (hdA (tlA (tlA (tlA (tlA (tlA (tlA (tlA (tlA (tlA (tlA (tlA r))))))))))))⟩⟩
 ok r:=ja1 12 r
 cks:=List.replicate 12 (.int .i64)
 d:=⟨⟨⟨0,0,0⟩,0⟩,⟨⟨0,0,0⟩,0⟩,⟨⟨0,0,0⟩,0⟩⟩
 h0 _:=rfl
 h1 _:=rfl
 h2 _:=rfl
 h3 _ h:=.of (xa8 h)
 h4 _:=rfl
 h5 _:=rfl
structure Q2 where
 a:V3
 b:V3
end Go.Ev.Ce
section
namespace Go.Ev.Ce
open Go Go.Ev Go.Ev.L Go.Proofs
set_option maxRecDepth 100000
noncomputable def Gc0:List (Nat×Sum):=[]
theorem wc4:m9 prog G Gc0:=trivial
noncomputable def nb9 (x:V3) (y:V3):Int:=(W ((W ((W (x.x*y.x))+(W (x.y*y.y))))+(W (x.z*y.z))))
noncomputable def gc0:Sum:=pa0 (ja0 tV) (ja0 tV) (fun x y=>.ret ((one r1I).enc (nb9 x y),[]))
theorem Gc1:i7 prog G 68 gc0:=ta8 (bd b68 wc4) fun x y=>D2 (by kernel_rfl)
noncomputable def lc9:List (Nat×Sum):=[]
theorem Yb6:m9 prog G lc9:=trivial
noncomputable def Aa9 (x:V3) (y:V3):V3:=(⟨(W ((W (x.y*y.z)) - (W (x.z*y.y)))),(W ((W (x.z*y.x)) - (W (x.x*y.z)))),(W ((W (x.x*y.y)) - (W (x.y*y.x))))⟩:V3)
noncomputable def Jb0:Sum:=pa0 (ja0 tV) (ja0 tV) (fun x y=>.ret ((one r1V).enc (Aa9 x y),[]))
theorem mc0:i7 prog G 66 Jb0:=ta8 (bd b66 Yb6) fun x y=>D2 (by kernel_rfl)
noncomputable def Qa1:List (Nat×Sum):=[]
theorem tb4:m9 prog G Qa1:=trivial
@[reducible] noncomputable def xa9:Sum:=n9 (En Qa1) Ad9
theorem Qa2:i7 prog G 86 xa9:=bd b86 tb4
noncomputable def Kb4:List (Nat×Sum):=[]
theorem Fb4:m9 prog G Kb4:=trivial
noncomputable def ka3 (x:Int):Option (a7×List a8):=(sl (decide (x < 0)) (some ((i (W (0 - x))),[])) (some ((i x),[])))
noncomputable def da3 (x:Int):Int:=fa4 (one r1I) (ka3 x)
noncomputable def da4 (x:Int):Bool:=okO (one r1I) (ka3 x)
noncomputable def jb0:Sum:=ra8 cI (fun x=>.guard (da4 x) (.ret ((one r1I).enc (da3 x),[])))
theorem Kb5:i7 prog G 87 jb0:=Ua2 (bd b87 Fb4) (one r1I) (o:=ka3) fun x=>D2 (by kernel_rfl)
noncomputable def Jb1:List (Nat×Sum):=[(87,jb0),(86,xa9)]
theorem mc1:m9 prog G Jb1:=⟨Kb5,Qa2,trivial⟩
structure aa4 where
 is6:Int
 n7:Int
 g7:Int
 n8:Int
 Z0:Int
 Z1:Int
 Z2:Int
structure L3 where
 is5:Int
 is7:Int
noncomputable def Yb7 (p:aa4) (s:L3):St:=⟨(.unk::((.ptr 0 0 0 0)::((.ptr 1 0 0 0)::(.unk::((.ptr 2 0 0 0)::((i s.is5)::((i p.is6)::((i s.is7)::(ra 38 []))))))))),[⟨0,3,[[(i p.n7),(i p.g7),(i p.n8)]],true,false,0⟩,⟨0,3,[[(i 0),(i 0),(i 0)]],true,false,0⟩,⟨0,3,[[(i p.Z0),(i p.Z1),(i p.Z2)]],true,false,0⟩]⟩
noncomputable def ka4 {α:Type} (k:L3→α) (e:Nat→α) (z:α) (p:aa4) (s:L3):α:=(sl (decide (s.is7 > 0)) (sl (s.is7==0) z (k ⟨s.is7,(Int.tmod s.is5 s.is7)⟩)) (e 1))
noncomputable def V8 (p:aa4) (s:L3):Stp L3:=ka4 .next .exit .fail p s
noncomputable def Za0:Lo aa4 L3:=⟨En Jb1,0,Ad5,[1,1,1,0,1,4,4,1,0,4,1,1,4,4],[1,2,4,5,6,7],.p,[⟨((.s (.o .unk))::((.s (.o (.ptr 0 0 0 0)))::((.s (.o (.ptr 1 0 0 0)))::((.s (.o .unk))::((.s (.o (.ptr 2 0 0 0)))::((.s (.o (.int .i64)))::((.s (.o (.int .i64)))::((.s (.o (.int .i64)))::(ru2 38 []))))))))),[⟨0,3,true,(some [[(.o (.int .i64)),(.o (.int .i64)),(.o (.int .i64))]])⟩,⟨0,3,true,(some [[(.o (.lit .i64 0)),(.o (.lit .i64 0)),(.o (.lit .i64 0))]])⟩,⟨0,3,true,(some [[(.o (.int .i64)),(.o (.int .i64)),(.o (.int .i64))]])⟩],fun a H=>(⟨(toI (slT a 6)),(toI (slT (rwT (elT H 0) 0) 0)),(toI (slT (rwT (elT H 0) 0) 1)),(toI (slT (rwT (elT H 0) 0) 2)),(toI (slT (rwT (elT H 2) 0) 0)),(toI (slT (rwT (elT H 2) 0) 1)),(toI (slT (rwT (elT H 2) 0) 2))⟩,⟨(toI (slT a 5)),(toI (slT a 7))⟩)⟩],V8,[(some 2,fun p s=>⟨(.unk::((.ptr 0 0 0 0)::((.ptr 1 0 0 0)::(.unk::((.ptr 2 0 0 0)::((i s.is5)::((i p.is6)::((i s.is7)::(ra 15 ((i s.is7)::((b (decide (s.is7 > 0)))::(ra 21 [])))))))))))),[⟨0,3,[[(i p.n7),(i p.g7),(i p.n8)]],true,false,0⟩,⟨0,3,[[(i 0),(i 0),(i 0)]],true,false,0⟩,⟨0,3,[[(i p.Z0),(i p.Z1),(i p.Z2)]],true,false,0⟩]⟩)],Yb7⟩
theorem Yb8:Za0.Ok:=Lo.ok [] (by kernel_rfl) .nil rfl (.cons (fun a H=>by kernel_rfl) .nil) fun p s=>(.of @ka4 (fun F _ _ _ _ _=>by unfold ka4;(repeat' apply A4 (f:=F))<;>rfl) (by kernel_rfl))
noncomputable def Ka4 (x:V3):Option (a7×List a8):=let t1:=(da3 x.x);let t2:=(lp (V8 (⟨0,x.x,x.y,x.z,x.x,x.y,x.z⟩:aa4)) (⟨0,t1⟩:L3));let t3:=(da3 x.y);let t4:=(lp (V8 (⟨1,x.x,x.y,x.z,x.x,x.y,x.z⟩:aa4)) (⟨t2.2.is5,t3⟩:L3));let t5:=(da3 x.z);let t6:=(lp (V8 (⟨2,x.x,x.y,x.z,x.x,x.y,x.z⟩:aa4)) (⟨t4.2.is5,t5⟩:L3));(sl (x.x==(-9223372036854775808)) (some ((.tup [(.agg [(i 0),(i 0),(i 0)]),(i 0)]),[])) (sl (da4 x.x) (sl (Nat.beq t2.1 1) (sl (x.y==(-9223372036854775808)) (some ((.tup [(.agg [(i 0),(i 0),(i 0)]),(i 0)]),[])) (sl (da4 x.y) (sl (Nat.beq t4.1 1) (sl (x.z==(-9223372036854775808)) (some ((.tup [(.agg [(i 0),(i 0),(i 0)]),(i 0)]),[])) (sl (da4 x.z) (sl (Nat.beq t6.1 1) (sl (t6.2.is5==0) (some ((.tup [(.agg [(i 0),(i 0),(i 0)]),(i 0)]),[])) (sl (t6.2.is5==0) none (sl (t6.2.is5==0) none (sl (t6.2.is5==0) none (some ((.tup [(.agg [(i (W (Int.tdiv x.x t6.2.is5))),(i (W (Int.tdiv x.y t6.2.is5))),(i (W (Int.tdiv x.z t6.2.is5)))]),(i t6.2.is5)]),[])))))) none) none)) none) none)) none) none))
noncomputable def ya0 (x:V3):V3×Int:=fa4 (two r1V r1I) (Ka4 x)
noncomputable def Za1 (x:V3):Bool:=okO (two r1V r1I) (Ka4 x)
noncomputable def Tb7:Sum:=ra8 (ja0 tV) (fun x=>.guard (Za1 x) (.ret ((two r1V r1I).enc (ya0 x),[])))
theorem wc5:i7 prog G 65 Tb7:=Ua2 (bd b65 mc1) (two r1V r1I) (o:=Ka4) fun x=>db0 (.s .p (.s .p (.s .p (.s (.s .p (.b (.l (.s .p (.s (.b (.s .p (.s .p (.b (.u Za0.ls))))) .p))))) .p)))) [Za0.pr] (by kernel_rfl) (.cons Yb8 .nil) (by kernel_rfl)
noncomputable def Gc2:List (Nat×Sum):=[]
theorem wc6:m9 prog G Gc2:=trivial
noncomputable def Ua7 (x:Int) (y:Int):Option (a7×List a8):=(sl (decide (y < 1)) (some ((i 0),[])) (sl (y==0) none (sl (y==0) none (some ((i (Int.tmod (W ((Int.tmod x y)+y)) y)),[])))))
noncomputable def Ua8 (x:Int) (y:Int):Int:=fa4 (one r1I) (Ua7 x y)
noncomputable def Ia6 (x:Int) (y:Int):Bool:=okO (one r1I) (Ua7 x y)
noncomputable def Fb5:Sum:=pa0 cI cI (fun x y=>.guard (Ia6 x y) (.ret ((one r1I).enc (Ua8 x y),[])))
theorem Tb8:i7 prog G 44 Fb5:=Eb4 (bd b44 wc6) (one r1I) (o:=Ua7) fun x y=>D2 (by kernel_rfl)
end Go.Ev.Ce
end
section
namespace Go.Ev.Ce
open Go Go.Ev Go.Ev.L Go.Proofs
set_option maxRecDepth 100000
noncomputable def mc2:List (Nat×Sum):=[]
theorem Yb9:m9 prog G mc2:=trivial
noncomputable def aa5 (x:V3) (y:V3):Int:=(W ((W ((W (x.x*y.x))+(W (x.y*y.y))))+(W (x.z*y.z))))
noncomputable def Qa3:Sum:=pa0 (ja0 tV) (ja0 tV) (fun x y=>.ret ((one r1I).enc (aa5 x y),[]))
theorem Za2:i7 prog G 47 Qa3:=ta8 (bd b47 Yb9) fun x y=>D2 (by kernel_rfl)
noncomputable def mc3:List (Nat×Sum):=[]
theorem Zb0:m9 prog G mc3:=trivial
noncomputable def M0 (x:V3) (y:V3):V3:=(⟨(W (x.x+y.x)),(W (x.y+y.y)),(W (x.z+y.z))⟩:V3)
noncomputable def jb1:Sum:=pa0 (ja0 tV) (ja0 tV) (fun x y=>.ret ((one r1V).enc (M0 x y),[]))
theorem zb4:i7 prog G 6 jb1:=ta8 (bd b6 Zb0) fun x y=>D2 (by kernel_rfl)
noncomputable def Zb1:List (Nat×Sum):=[]
theorem Tb9:m9 prog G Zb1:=trivial
noncomputable def L4 (x:V3) (y:Int):V3:=(⟨(W (x.x*y)),(W (x.y*y)),(W (x.z*y))⟩:V3)
noncomputable def Za3:Sum:=pa0 (ja0 tV) cI (fun x y=>.ret ((one r1V).enc (L4 x y),[]))
theorem qb6:i7 prog G 24 Za3:=ta8 (bd b24 Tb9) fun x y=>D2 (by kernel_rfl)
noncomputable def Ub0:List (Nat×Sum):=[]
theorem Kb6:m9 prog G Ub0:=trivial
noncomputable def L0 (x:V3) (y:V3):V3:=(⟨(W ((W (x.y*y.z)) - (W (x.z*y.y)))),(W ((W (x.z*y.x)) - (W (x.x*y.z)))),(W ((W (x.x*y.y)) - (W (x.y*y.x))))⟩:V3)
noncomputable def qb7:Sum:=pa0 (ja0 tV) (ja0 tV) (fun x y=>.ret ((one r1V).enc (L0 x y),[]))
theorem Ub1:i7 prog G 73 qb7:=ta8 (bd b73 Kb6) fun x y=>D2 (by kernel_rfl)
noncomputable def mc4:List (Nat×Sum):=[(47,Qa3)]
theorem Zb2:m9 prog G mc4:=⟨Za2,trivial⟩
noncomputable def fa5 (x:Pln) (y:Pt):Int:=let t1:=(aa5 x.n (⟨y.px,y.py,y.pz⟩:V3));(W ((W (x.b*y.pw)) - t1))
noncomputable def Qa4:Sum:=pa0 (ja0 tP) (ja0 tX) (fun x y=>.ret ((one r1I).enc (fa5 x y),[]))
theorem Za4:i7 prog G 32 Qa4:=ta8 (bd b32 Zb2) fun x y=>D2 (by kernel_rfl)
noncomputable def jb2:List (Nat×Sum):=[]
theorem mc5:m9 prog G jb2:=trivial
structure na2 where
 oa3:List Int
 is7:Int
 is8:Int
structure aa6 where
 is3:Int
 is5:Int
noncomputable def Zb3 (p:na2) (s:aa6):St:=⟨(ra 3 ((i s.is3)::(.unk::((i s.is5)::((eL tI p.oa3)::((i p.is7)::((i p.is8)::(ra 14 [])))))))),[]⟩
noncomputable def ka5 {α:Type} (k:aa6→α) (e:Nat→α) (z:α) (p:na2) (s:aa6):α:=(sl (s.is5 != 0) (sl (s.is5==0) z (k ⟨s.is5,(Int.tmod s.is3 s.is5)⟩)) (e 1))
noncomputable def pa1 (p:na2) (s:aa6):Stp aa6:=ka5 .next .exit .fail p s
noncomputable def Za5:Lo na2 aa6:=⟨En jb2,0,ud2,[1,1,0,1,4,4,1,1,0,4,1,4,4],[3,5,6,7,8],.p,[⟨(ru2 3 ((.s (.o (.int .i64)))::((.s (.o .unk))::((.s (.o (.int .i64)))::((.s (.c 1 (nL tI)))::((.s (.o (.int .i64)))::((.s (.o (.int .i64)))::(ru2 14 [])))))))),[],fun a H=>(⟨(rL tI (slT a 6)),(toI (slT a 7)),(toI (slT a 8))⟩,⟨(toI (slT a 3)),(toI (slT a 5))⟩)⟩],pa1,[(some 2,fun p s=>⟨(ra 3 ((i s.is3)::(.unk::((i s.is5)::((eL tI p.oa3)::((i p.is7)::((i p.is8)::(ra 3 ((i s.is5)::((b (s.is5 != 0))::(ra 9 []))))))))))),[]⟩)],Zb3⟩
theorem Zb4:Za5.Ok:=Lo.ok [] (by kernel_rfl) .nil rfl (.cons (fun a H=>by kernel_rfl) .nil) fun p s=>(.of @ka5 (fun F _ _ _ _ _=>by unfold ka5;(repeat' apply A4 (f:=F))<;>rfl) (by kernel_rfl))
structure ua1 where
 is7:Int
structure aa7 where
 is3:Int
 oa3:List Int
 is8:Int
noncomputable def Zb5 (p:ua1) (s:aa7):St:=⟨(ra 3 ((i s.is3)::(.unk::(.unk::((eL tI s.oa3)::((i p.is7)::((i s.is8)::(ra 14 [])))))))),[]⟩
noncomputable def ka6 {α:Type} (k:aa7→α) (e:Nat→α) (z:α) (p:ua1) (s:aa7):α:=let t1:=(lp (pa1 (⟨(rt tI s.oa3),p.is7,s.is8⟩:na2)) (⟨s.is3,(gL tI s.oa3 s.is8.toNat)⟩:aa6));(sl (decide (s.is8 < p.is7)) (sl (inB s.is8 (List.length s.oa3)) (sl ((cnE tI s.oa3)&&true) (sl (Nat.beq t1.1 1) (k ⟨t1.2.is3,(rt tI s.oa3),(W (s.is8+1))⟩) z) z) z) (e 1))
noncomputable def ia4 (p:ua1) (s:aa7):Stp aa7:=ka6 .next .exit .fail p s
noncomputable def Za6:Lo ua1 aa7:=⟨En jb2,0,ud2,[1,1,0,1,4,4],[3,6,7,8],(.s .p (.s .p (.s (.b (.s .p (.b (.u Za5.ls)))) .p))),[⟨(ru2 3 ((.s (.o (.int .i64)))::((.s (.o .unk))::((.s (.o .unk))::((.s (.c 1 (nL tI)))::((.s (.o (.int .i64)))::((.s (.o (.int .i64)))::(ru2 14 [])))))))),[],fun a H=>(⟨(toI (slT a 7))⟩,⟨(toI (slT a 3)),(rL tI (slT a 6)),(toI (slT a 8))⟩)⟩],ia4,[(some 0,fun p s=>⟨(ra 3 ((i s.is3)::(.unk::(.unk::((eL tI s.oa3)::((i p.is7)::((i s.is8)::((b (decide (s.is8 < p.is7)))::(ra 13 []))))))))),[]⟩)],Zb5⟩
theorem Zb6:Za6.Ok:=Lo.ok [Za5.pr] (by kernel_rfl) (.cons Zb4 .nil) rfl (.cons (fun a H=>by kernel_rfl) .nil) fun p s=>(.of @ka6 (fun F _ _ _ _ _=>by unfold ka6;(repeat' apply A4 (f:=F))<;>rfl) (by kernel_rfl))
noncomputable def Ka5 (x:List Int):Option (a7×List a8):=let t1:=(lp (ia4 (⟨(↑(List.length x):Int)⟩:ua1)) (⟨0,(rt tI x),0⟩:aa7));(sl ((cnE tI x)&&true) (sl (Nat.beq t1.1 1) (some ((i (if (W (0 - t1.2.is3)) > t1.2.is3 then (W (0 - t1.2.is3)) else t1.2.is3)),[])) none) none)
noncomputable def Za7 (x:List Int):Int:=fa4 (one r1I) (Ka5 x)
noncomputable def Za8 (x:List Int):Bool:=okO (one r1I) (Ka5 x)
noncomputable def Ub2:Sum:=ra8 (Aa8 tI) (fun x=>.guard (Za8 x) (.ret ((one r1I).enc (Za7 x),[])))
theorem wc7:i7 prog G 74 Ub2:=Ua2 (bd b74 mc5) (one r1I) (o:=Ka5) fun x=>db0 (.s .p (.s .p (.s (.s .p (.b (.u Za6.ls))) .p))) [Za6.pr] (by kernel_rfl) (.cons Zb6 .nil) (by kernel_rfl)
noncomputable def mc6:List (Nat×Sum):=[(73,qb7),(47,Qa3),(24,Za3),(6,jb1),(74,Ub2)]
theorem Zb7:m9 prog G mc6:=⟨Ub1,Za2,qb6,zb4,wc7,trivial⟩
noncomputable def Ba0 (x:Tp):Option (a7×List a8):=let t1:=(L0 x.q.n x.r.n);let t3:=(L4 t1 x.p.b);let t4:=(M0 (⟨0,0,0⟩:V3) t3);let t5:=(L0 x.r.n x.p.n);let t7:=(L4 t5 x.q.b);let t8:=(M0 t4 t7);let t9:=(L0 x.p.n x.q.n);let t10:=(aa5 x.r.n t9);let t11:=(L4 t9 x.r.b);let t12:=(M0 t8 t11);let t13:=(Za7 [t12.x,t12.y,t12.z,t10]);(sl (t10==0) (some ((.tup [(.agg [(i 0),(i 0),(i 0),(i 0)]),(b false)]),[])) (sl (Za8 [t12.x,t12.y,t12.z,t10]) (sl (decide (t10 < 0)) (sl ((W (0 - t13))==0) none (sl ((W (0 - t13))==0) none (sl ((W (0 - t13))==0) none (sl ((W (0 - t13))==0) none (some ((.tup [(.agg [(i (W (Int.tdiv t12.x (W (0 - t13))))),(i (W (Int.tdiv t12.y (W (0 - t13))))),(i (W (Int.tdiv t12.z (W (0 - t13))))),(i (W (Int.tdiv t10 (W (0 - t13)))))]),(b true)]),[])))))) (sl (t13==0) none (sl (t13==0) none (sl (t13==0) none (sl (t13==0) none (some ((.tup [(.agg [(i (W (Int.tdiv t12.x t13))),(i (W (Int.tdiv t12.y t13))),(i (W (Int.tdiv t12.z t13))),(i (W (Int.tdiv t10 t13)))]),(b true)]),[]))))))) none))
noncomputable def Ba1 (x:Tp):Pt×Bool:=fa4 (two r1X r1B) (Ba0 x)
noncomputable def Ba2 (x:Tp):Bool:=okO (two r1X r1B) (Ba0 x)
noncomputable def Jb2:Sum:=ra8 (ja0 tY) (fun x=>.guard (Ba2 x) (.ret ((two r1X r1B).enc (Ba1 x),[])))
theorem mc7:i7 prog G 54 Jb2:=Ua2 (bd b54 Zb7) (two r1X r1B) (o:=Ba0) fun x=>D2 (by kernel_rfl)
structure qa8 where
 ma3:Int
 ma4:Int
 ma5:Int
 Ma7:Int
 n7:Int
 g7:Int
 n8:Int
 d8:Int
noncomputable def Fb6:List (Nat×Sum):=[(32,Qa4)]
theorem zb5:m9 prog G Fb6:=⟨Za4,trivial⟩
structure ga7 where
 bs0:Bool
noncomputable def ga8 {α:Type} (kk:ga7→α) (x:qa8):α:=let t1:=(fa5 (⟨(⟨x.ma3,x.ma4,x.ma5⟩:V3),x.Ma7⟩:Pln) (⟨x.n7,x.g7,x.n8,x.d8⟩:Pt));(kk ⟨(decide (t1 < 0))⟩)
noncomputable def Da3 (x:qa8):ga7:=ga8 (fun r=>r) x
noncomputable def ya1 (x:qa8) (r:ga7):DT (a7×List a8):=.ret ((b r.bs0),[⟨0,4,[[(i x.n7),(i x.g7),(i x.n8),(i x.d8)]],true,false,0⟩])
theorem Kb7 {α β:Type} (F:α→β) (kk:ga7→α) (x:qa8):F (ga8 kk x)=ga8 (fun r=>F (kk r)) x:=by unfold ga8;(repeat' apply A4 (f:=F))<;>rfl
noncomputable def cb1:Sum:=Ja9 ⟨[(.agg [(.o (.int .i64)),(.o (.int .i64)),(.o (.int .i64)),(.o (.int .i64))]),(.s (.o (.ptr 0 0 0 0)))],[⟨0,4,true,(some [[(.o (.int .i64)),(.o (.int .i64)),(.o (.int .i64)),(.o (.int .i64))]])⟩],fun a H=>(⟨(toI (slT (cellsOf (slT a 0)) 0)),(toI (slT (cellsOf (slT a 0)) 1)),(toI (slT (cellsOf (slT a 0)) 2)),(toI (slT (cellsOf (slT a 0)) 3)),(toI (slT (rwT (elT H 0) 0) 0)),(toI (slT (rwT (elT H 0) 0) 1)),(toI (slT (rwT (elT H 0) 0) 2)),(toI (slT (rwT (elT H 0) 0) 3))⟩,())⟩ (fun x=>ya1 x (Da3 x))
theorem Fb7:i7 prog G 62 cb1:=M5 (enc:=fun x=>⟨[(.agg [(i x.ma3),(i x.ma4),(i x.ma5),(i x.Ma7)]),(.ptr 0 0 0 0)],[⟨0,4,[[(i x.n7),(i x.g7),(i x.n8),(i x.d8)]],true,false,0⟩]⟩) (fun a H=>by kernel_rfl) (bd b62 zb5) fun x=>D2 (Eq.trans (b:=ga8 (fun r=>(ya1 x r).run) x) (by kernel_rfl) (Kb7 (fun r=>(ya1 x r).run) (fun r=>r) x).symm)
structure M6 where
 w9:List Pln
 n7:Int
 g7:Int
 n8:Int
 d8:Int
noncomputable def ka7:List (Nat×Sum):=[(62,cb1)]
theorem Ga7:m9 prog G ka7:=⟨Fb7,trivial⟩
structure E7 where
 w9:List Pln
 is7:Int
 n7:Int
 g7:Int
 n8:Int
 d8:Int
structure k9 where
 is8:Int
noncomputable def Da4 (p:E7) (s:k9):St:=⟨((eL tP p.w9)::((.fn 62 [(.ptr 0 0 0 0)])::(ra 5 ((i p.is7)::((i s.is8)::(ra 10 [])))))),[⟨0,4,[[(i p.n7),(i p.g7),(i p.n8),(i p.d8)]],true,false,0⟩]⟩
noncomputable def A8 {α:Type} (k:k9→α) (e:Nat→α) (z:α) (p:E7) (s:k9):α:=let t1:=(Da3 ⟨(gL tP p.w9 s.is8.toNat).n.x,(gL tP p.w9 s.is8.toNat).n.y,(gL tP p.w9 s.is8.toNat).n.z,(gL tP p.w9 s.is8.toNat).b,p.n7,p.g7,p.n8,p.d8⟩);(sl (decide (s.is8 < p.is7)) (sl (inB s.is8 (List.length p.w9)) (sl t1.bs0 (e 1) (k ⟨(W (s.is8+1))⟩)) z) (e 2))
noncomputable def D4 (p:E7) (s:k9):Stp k9:=A8 .next .exit .fail p s
noncomputable def T4:Lo E7 k9:=⟨En ka7,1,kd2,[1,0,1,4,4],[0,1,7,8],.p,[⟨((.s (.c 4 (nL tP)))::((.fn 62 [(.o (.ptr 0 0 0 0))])::(ru2 5 ((.s (.o (.int .i64)))::((.s (.o (.int .i64)))::(ru2 10 [])))))),[⟨0,4,true,(some [[(.o (.int .i64)),(.o (.int .i64)),(.o (.int .i64)),(.o (.int .i64))]])⟩],fun a H=>(⟨(rL tP (slT a 0)),(toI (slT a 7)),(toI (slT (rwT (elT H 0) 0) 0)),(toI (slT (rwT (elT H 0) 0) 1)),(toI (slT (rwT (elT H 0) 0) 2)),(toI (slT (rwT (elT H 0) 0) 3))⟩,⟨(toI (slT a 8))⟩)⟩],D4,[(none,fun p s=>⟨[(i s.is8)],[⟨0,4,[[(i p.n7),(i p.g7),(i p.n8),(i p.d8)]],true,false,0⟩]⟩),(some 0,fun p s=>⟨((eL tP p.w9)::((.fn 62 [(.ptr 0 0 0 0)])::(ra 5 ((i p.is7)::((i s.is8)::((b (decide (s.is8 < p.is7)))::(ra 9 []))))))),[⟨0,4,[[(i p.n7),(i p.g7),(i p.n8),(i p.d8)]],true,false,0⟩]⟩)],Da4⟩
theorem Da5:T4.Ok:=Lo.ok [] (by kernel_rfl) .nil rfl (.cons (fun a H=>by kernel_rfl) .nil) fun p s=>(.of @A8 (fun F _ _ _ _ _=>by unfold A8;(repeat' apply A4 (f:=F))<;>rfl) (by kernel_rfl))
structure M7 where
 alt:Nat
 is0:Int
noncomputable def B8 {α:Type} (kk:M7→α) (x:M6):α:=let t1:=(lp (D4 (⟨(rt tP x.w9),(↑(List.length x.w9):Int),x.n7,x.g7,x.n8,x.d8⟩:E7)) (⟨0⟩:k9));(sl ((cnE tP x.w9)&&true) (sl (Nat.beq t1.1 1) (kk ⟨1,t1.2.is8⟩) (sl (Nat.beq t1.1 2) (kk ⟨1,(-1)⟩) (kk ⟨0,0⟩))) (kk ⟨0,0⟩))
noncomputable def M8 (x:M6):M7:=B8 (fun r=>r) x
noncomputable def W9 (x:M6) (r:M7):DT (a7×List a8):=(.ite (Nat.beq r.alt 1) (.ret ((i r.is0),[⟨0,4,[[(i x.n7),(i x.g7),(i x.n8),(i x.d8)]],true,false,0⟩])) .fail)
theorem Ma8 {α β:Type} (F:α→β) (kk:M7→α) (x:M6):F (B8 kk x)=B8 (fun r=>F (kk r)) x:=by unfold B8;(repeat' apply A4 (f:=F))<;>rfl
noncomputable def na5:Sum:=Ja9 ⟨[(.s (.c 4 (nL tP))),(.fn 62 [(.o (.ptr 0 0 0 0))])],[⟨0,4,true,(some [[(.o (.int .i64)),(.o (.int .i64)),(.o (.int .i64)),(.o (.int .i64))]])⟩],fun a H=>(⟨(rL tP (slT a 0)),(toI (slT (rwT (elT H 0) 0) 0)),(toI (slT (rwT (elT H 0) 0) 1)),(toI (slT (rwT (elT H 0) 0) 2)),(toI (slT (rwT (elT H 0) 0) 3))⟩,())⟩ (fun x=>W9 x (M8 x))
theorem Ka6:i7 prog G 55 na5:=M5 (enc:=fun x=>⟨[(eL tP x.w9),(.fn 62 [(.ptr 0 0 0 0)])],[⟨0,4,[[(i x.n7),(i x.g7),(i x.n8),(i x.d8)]],true,false,0⟩]⟩) (fun a H=>by kernel_rfl) (bd b55 Ga7) fun x=>db0 (.s .p (.s (.s .p (.b (.u T4.ls))) .p)) [T4.pr] (by kernel_rfl) (.cons Da5 .nil) (Eq.trans (b:=B8 (fun r=>(W9 x r).run) x) (by kernel_rfl) (Ma8 (fun r=>(W9 x r).run) (fun r=>r) x).symm)
structure I9 where
 w9:List Pln
 n7:Int
 g7:Int
 n8:Int
 d8:Int
noncomputable def Ba3:List (Nat×Sum):=[(55,na5)]
theorem ya2:m9 prog G Ba3:=⟨Ka6,trivial⟩
structure J0 where
 alt:Nat
 bs0:Bool
noncomputable def y5 {α:Type} (kk:J0→α) (x:I9):α:=let t1:=(M8 ⟨(rt tP x.w9),x.n7,x.g7,x.n8,x.d8⟩);(sl ((cnE tP x.w9)&&true) (sl (Nat.beq t1.alt 1) (kk ⟨1,(decide (t1.is0≥0))⟩) (kk ⟨0,false⟩)) (kk ⟨0,false⟩))
noncomputable def S1 (x:I9):J0:=y5 (fun r=>r) x
noncomputable def Q5 (x:I9) (r:J0):DT (a7×List a8):=(.ite (Nat.beq r.alt 1) (.ret ((b r.bs0),[⟨0,4,[[(i x.n7),(i x.g7),(i x.n8),(i x.d8)]],true,false,0⟩])) .fail)
theorem Da6 {α β:Type} (F:α→β) (kk:J0→α) (x:I9):F (y5 kk x)=y5 (fun r=>F (kk r)) x:=by unfold y5;(repeat' apply A4 (f:=F))<;>rfl
noncomputable def ga9:Sum:=Ja9 ⟨[(.s (.c 4 (nL tP))),(.fn 62 [(.o (.ptr 0 0 0 0))])],[⟨0,4,true,(some [[(.o (.int .i64)),(.o (.int .i64)),(.o (.int .i64)),(.o (.int .i64))]])⟩],fun a H=>(⟨(rL tP (slT a 0)),(toI (slT (rwT (elT H 0) 0) 0)),(toI (slT (rwT (elT H 0) 0) 1)),(toI (slT (rwT (elT H 0) 0) 2)),(toI (slT (rwT (elT H 0) 0) 3))⟩,())⟩ (fun x=>Q5 x (S1 x))
theorem Ba4:i7 prog G 48 ga9:=M5 (enc:=fun x=>⟨[(eL tP x.w9),(.fn 62 [(.ptr 0 0 0 0)])],[⟨0,4,[[(i x.n7),(i x.g7),(i x.n8),(i x.d8)]],true,false,0⟩]⟩) (fun a H=>by kernel_rfl) (bd b48 ya2) fun x=>D2 (Eq.trans (b:=y5 (fun r=>(Q5 x r).run) x) (by kernel_rfl) (Da6 (fun r=>(Q5 x r).run) (fun r=>r) x).symm)
noncomputable def Ub3:List (Nat×Sum):=[(48,ga9)]
theorem Kb8:m9 prog G Ub3:=⟨Ba4,trivial⟩
noncomputable def pa2 (x:List Pln) (y:Pt):Option (a7×List a8):=let t1:=(S1 ⟨(rt tP x),y.px,y.py,y.pz,y.pw⟩);(sl ((cnE tP x)&&true) (sl (Nat.beq t1.alt 1) (some ((b (!t1.bs0)),[])) none) none)
noncomputable def P6 (x:List Pln) (y:Pt):Bool:=fa4 (one r1B) (pa2 x y)
noncomputable def P7 (x:List Pln) (y:Pt):Bool:=okO (one r1B) (pa2 x y)
noncomputable def za8:Sum:=pa0 (Aa8 tP) (ja0 tX) (fun x y=>.guard (P7 x y) (.ret ((one r1B).enc (P6 x y),[])))
theorem Ka7:i7 prog G 39 za8:=Eb4 (bd b39 Kb8) (one r1B) (o:=pa2) fun x y=>D2 (by kernel_rfl)
noncomputable def pa3:List (Nat×Sum):=[]
theorem Ma9:m9 prog G pa3:=trivial
@[reducible] noncomputable def sa6:Sum:=n9 (En pa3) Ad7
theorem Ra5:i7 prog G 72 sa6:=bd b72 Ma9
noncomputable def ua2:List (Nat×Sum):=[(72,sa6)]
theorem Ua9:m9 prog G ua2:=⟨Ra5,trivial⟩
@[reducible] noncomputable def wa8:Sum:=n9 (En ua2) Ad3
theorem Za9:i7 prog G 53 wa8:=bd b53 Ua9
noncomputable def T5:List (Nat×Sum):=[(54,Jb2),(39,za8),(53,wa8)]
theorem Va0:m9 prog G T5:=⟨mc7,Ka7,Za9,trivial⟩
structure e7 where
 is3:Int
 K9:List Pln
 wa7:Int
 P0:Int
 Cb6:Nat
 Ia1:Nat→List a7
 Y5:Int
 fa1:Int
 Ic1:Nat
 Fa8:Nat→List a7
 pc5:Int
 c9:List Pln
 Q0:Int
 Q1:Int
 Q3:Int
 Q4:Int
 Z0:Int
 Z1:Int
 Z2:Int
 Ia2:Int
 fa2:List Pln
structure e8 where
 ph:Nat
 ha8:Int
 Aa4:Nat
 eh6:List (List a7)
 eh7:List (List a7)
noncomputable def Na0 (p:e7) (s:e8):St:=⟨(.unk::((.ptr 0 0 0 0)::(.unk::((i p.is3)::((.ptr 1 0 0 0)::(.unk::((.ptr 2 0 0 0)::(.unk::(.unk::((eL tP p.K9)::((i p.wa7)::((i p.P0)::(ra 7 ((.tree 4 p.Cb6 p.Ia1)::((i p.Y5)::((i p.fa1)::(ra 9 ((.tree 4 p.Ic1 p.Fa8)::((i p.pc5)::((i s.ha8)::(ra 13 ((i 0)::(.unk::((.ptr 3 0 0 0)::((.v (.slice none 0 0))::((.ptr 4 0 0 0)::((.ptr 5 0 0 0)::(ra 31 [])))))))))))))))))))))))))))),[⟨0,1,[[(eL tP p.c9)]],true,false,0⟩,⟨0,4,[[(i p.Q0),(i p.Q1),(i p.Q3),(i p.Q4)]],true,false,0⟩,⟨0,4,[[(i p.Z0),(i p.Z1),(i p.Z2),(i p.Ia2)]],true,false,0⟩,⟨0,1,[[(eL tP p.fa2)]],true,false,0⟩,⟨0,0,[[(.v (.slice none 0 0))]],true,false,0⟩,⟨0,0,[[(.ptr 6 0 0 0)]],true,false,0⟩,⟨84,0,[],true,false,0⟩]⟩
noncomputable def Na1 (p:e7) (s:e8):St:=⟨(.unk::((.ptr 0 0 0 0)::(.unk::((i p.is3)::((.ptr 1 0 0 0)::(.unk::((.ptr 2 0 0 0)::(.unk::(.unk::((eL tP p.K9)::((i p.wa7)::((i p.P0)::(ra 7 ((.tree 4 p.Cb6 p.Ia1)::((i p.Y5)::((i p.fa1)::(ra 9 ((.tree 4 p.Ic1 p.Fa8)::((i p.pc5)::((i s.ha8)::(ra 13 ((i 0)::(.unk::((.ptr 3 0 0 0)::((.v (.slice none 0 0))::((.ptr 4 0 0 0)::((.ptr 5 0 0 0)::(ra 31 [])))))))))))))))))))))))))))),[⟨0,1,[[(eL tP p.c9)]],true,false,0⟩,⟨0,4,[[(i p.Q0),(i p.Q1),(i p.Q3),(i p.Q4)]],true,false,0⟩,⟨0,4,[[(i p.Z0),(i p.Z1),(i p.Z2),(i p.Ia2)]],true,false,0⟩,⟨0,1,[[(eL tP p.fa2)]],true,false,0⟩,⟨0,0,[[(.sl 6 0 s.Aa4 0)]],true,false,0⟩,⟨0,0,[[(.ptr 7 0 0 0)]],true,false,0⟩,⟨53,4,s.eh6,true,false,0⟩,⟨84,0,s.eh7,true,false,0⟩]⟩
noncomputable def Ra6 (p:e7) (s:e8):St:=(sel (Nat.beq s.ph 1) (Na1 p s) (Na0 p s))
noncomputable def s8 {α:Type} (k:e8→α) (e:Nat→α) (z:α) (p:e7) (s:e8):α:=let t1:=(Ba1 (⟨(⟨(⟨p.Q0,p.Q1,p.Q3⟩:V3),p.Q4⟩:Pln),(⟨(⟨p.Z0,p.Z1,p.Z2⟩:V3),p.Ia2⟩:Pln),(⟨(⟨(toI (hdA (p.Fa8 s.ha8.toNat))),(toI (hdA (tlA (p.Fa8 s.ha8.toNat)))),(toI (hdA (tlA (tlA (p.Fa8 s.ha8.toNat)))))⟩:V3),(toI (hdA (tlA (tlA (tlA (p.Fa8 s.ha8.toNat))))))⟩:Pln)⟩:Tp));let t2:=(P6 (rt tP p.fa2) t1.1);(sl (decide (s.ha8 < p.pc5)) (sl (inB s.ha8 p.Ic1) (sl ((Nat.ble 4 (len (p.Fa8 s.ha8.toNat)))&&(Pa1 [(CK.int .i64),(CK.int .i64),(CK.int .i64),(CK.int .i64)] (p.Fa8 s.ha8.toNat))) (sl (Ba2 (⟨(⟨(⟨p.Q0,p.Q1,p.Q3⟩:V3),p.Q4⟩:Pln),(⟨(⟨p.Z0,p.Z1,p.Z2⟩:V3),p.Ia2⟩:Pln),(⟨(⟨(toI (hdA (p.Fa8 s.ha8.toNat))),(toI (hdA (tlA (p.Fa8 s.ha8.toNat)))),(toI (hdA (tlA (tlA (p.Fa8 s.ha8.toNat)))))⟩:V3),(toI (hdA (tlA (tlA (tlA (p.Fa8 s.ha8.toNat))))))⟩:Pln)⟩:Tp)) (sl t1.2 (sl (!(vb9 4 [(0,(.int .i64)),(1,(.int .i64)),(2,(.int .i64)),(3,(.int .i64))] [(i t1.1.px),(i t1.1.py),(i t1.1.pz),(i t1.1.pw)] [])) (sl (okE tP p.fa2) (sl (P7 (rt tP p.fa2) t1.1) (sl t2 (k ⟨1,(W (s.ha8+1)),1,[[(i t1.1.px),(i t1.1.py),(i t1.1.pz),(i t1.1.pw)]],(Qa8 [(0,(.int .i64)),(1,(.int .i64)),(2,(.int .i64)),(3,(.int .i64))] [(i t1.1.px),(i t1.1.py),(i t1.1.pz),(i t1.1.pw)] [(i t1.1.px),(i t1.1.py),(i t1.1.pz),(i t1.1.pw),(b true)] [])⟩) (k ⟨0,(W (s.ha8+1)),0,[],[]⟩)) z) z) (k ⟨0,(W (s.ha8+1)),0,[],[]⟩)) (k ⟨0,(W (s.ha8+1)),0,[],[]⟩)) z) z) z) (e 1))
noncomputable def s9 {α:Type} (k:e8→α) (e:Nat→α) (z:α) (p:e7) (s:e8):α:=let t1:=(Ba1 (⟨(⟨(⟨p.Q0,p.Q1,p.Q3⟩:V3),p.Q4⟩:Pln),(⟨(⟨p.Z0,p.Z1,p.Z2⟩:V3),p.Ia2⟩:Pln),(⟨(⟨(toI (hdA (p.Fa8 s.ha8.toNat))),(toI (hdA (tlA (p.Fa8 s.ha8.toNat)))),(toI (hdA (tlA (tlA (p.Fa8 s.ha8.toNat)))))⟩:V3),(toI (hdA (tlA (tlA (tlA (p.Fa8 s.ha8.toNat))))))⟩:Pln)⟩:Tp));let t2:=(P6 (rt tP p.fa2) t1.1);(sl (decide (s.ha8 < p.pc5)) (sl (inB s.ha8 p.Ic1) (sl ((Nat.ble 4 (len (p.Fa8 s.ha8.toNat)))&&(Pa1 [(CK.int .i64),(CK.int .i64),(CK.int .i64),(CK.int .i64)] (p.Fa8 s.ha8.toNat))) (sl (Ba2 (⟨(⟨(⟨p.Q0,p.Q1,p.Q3⟩:V3),p.Q4⟩:Pln),(⟨(⟨p.Z0,p.Z1,p.Z2⟩:V3),p.Ia2⟩:Pln),(⟨(⟨(toI (hdA (p.Fa8 s.ha8.toNat))),(toI (hdA (tlA (p.Fa8 s.ha8.toNat)))),(toI (hdA (tlA (tlA (p.Fa8 s.ha8.toNat)))))⟩:V3),(toI (hdA (tlA (tlA (tlA (p.Fa8 s.ha8.toNat))))))⟩:Pln)⟩:Tp)) (sl t1.2 (sl (!(vb9 4 [(0,(.int .i64)),(1,(.int .i64)),(2,(.int .i64)),(3,(.int .i64))] [(i t1.1.px),(i t1.1.py),(i t1.1.pz),(i t1.1.pw)] s.eh7)) (sl (okE tP p.fa2) (sl (P7 (rt tP p.fa2) t1.1) (sl t2 (sl (Nat.beq s.Aa4 (len s.eh6)&&Nat.ble ((s.Aa4+1)*32) room) (k ⟨1,(W (s.ha8+1)),(s.Aa4+1),(app s.eh6 [[(i t1.1.px),(i t1.1.py),(i t1.1.pz),(i t1.1.pw)]]),(Qa8 [(0,(.int .i64)),(1,(.int .i64)),(2,(.int .i64)),(3,(.int .i64))] [(i t1.1.px),(i t1.1.py),(i t1.1.pz),(i t1.1.pw)] [(i t1.1.px),(i t1.1.py),(i t1.1.pz),(i t1.1.pw),(b true)] s.eh7)⟩) z) (k ⟨1,(W (s.ha8+1)),s.Aa4,s.eh6,s.eh7⟩)) z) z) (k ⟨1,(W (s.ha8+1)),s.Aa4,s.eh6,s.eh7⟩)) (k ⟨1,(W (s.ha8+1)),s.Aa4,s.eh6,s.eh7⟩)) z) z) z) (e 2))
noncomputable def p7 (p:e7) (s:e8):Stp e8:=(sel (Nat.beq s.ph 1) (s9 .next .exit .fail p s) (s8 .next .exit .fail p s))
noncomputable def da5:Lo e7 e8:=⟨En T5,0,kd1,[1,1,1,0,1,4,4,1,4,4,1,1,0,4,1,1,4,4,1,1,0,4,1,1,4,4],[1,3,4,6,9,10,11,19,20,21,31,32,33,47,49,50,51,52],.p,[⟨((.s (.o .unk))::((.s (.o (.ptr 0 0 0 0)))::((.s (.o .unk))::((.s (.o (.int .i64)))::((.s (.o (.ptr 1 0 0 0)))::((.s (.o .unk))::((.s (.o (.ptr 2 0 0 0)))::((.s (.o .unk))::((.s (.o .unk))::((.s (.c 4 (nL tP)))::((.s (.o (.int .i64)))::((.s (.o (.int .i64)))::(ru2 7 ((.s (.o (.tree 4)))::((.s (.o (.int .i64)))::((.s (.o (.int .i64)))::(ru2 9 ((.s (.o (.tree 4)))::((.s (.o (.int .i64)))::((.s (.o (.int .i64)))::(ru2 13 ((.s (.o (.lit .i64 0)))::((.s (.o .unk))::((.s (.o (.ptr 3 0 0 0)))::((.s (.o .nil))::((.s (.o (.ptr 4 0 0 0)))::((.s (.o (.ptr 5 0 0 0)))::(ru2 31 [])))))))))))))))))))))))))))),[⟨0,1,true,(some [[(.c 4 (nL tP))]])⟩,⟨0,4,true,(some [[(.o (.int .i64)),(.o (.int .i64)),(.o (.int .i64)),(.o (.int .i64))]])⟩,⟨0,4,true,(some [[(.o (.int .i64)),(.o (.int .i64)),(.o (.int .i64)),(.o (.int .i64))]])⟩,⟨0,1,true,(some [[(.c 4 (nL tP))]])⟩,⟨0,0,true,(some [[(.o .nil)]])⟩,⟨0,0,true,(some [[(.o (.ptr 6 0 0 0))]])⟩,⟨84,0,true,(some [])⟩],fun a H=>(⟨(toI (slT a 3)),(rL tP (slT a 9)),(toI (slT a 10)),(toI (slT a 11)),(toN (slT a 19)),(toG (slT a 19)),(toI (slT a 20)),(toI (slT a 21)),(toN (slT a 31)),(toG (slT a 31)),(toI (slT a 32)),(rL tP (slT (rwT (elT H 0) 0) 0)),(toI (slT (rwT (elT H 1) 0) 0)),(toI (slT (rwT (elT H 1) 0) 1)),(toI (slT (rwT (elT H 1) 0) 2)),(toI (slT (rwT (elT H 1) 0) 3)),(toI (slT (rwT (elT H 2) 0) 0)),(toI (slT (rwT (elT H 2) 0) 1)),(toI (slT (rwT (elT H 2) 0) 2)),(toI (slT (rwT (elT H 2) 0) 3)),(rL tP (slT (rwT (elT H 3) 0) 0))⟩,⟨0,(toI (slT a 33)),0,[],[]⟩)⟩,⟨((.s (.o .unk))::((.s (.o (.ptr 0 0 0 0)))::((.s (.o .unk))::((.s (.o (.int .i64)))::((.s (.o (.ptr 1 0 0 0)))::((.s (.o .unk))::((.s (.o (.ptr 2 0 0 0)))::((.s (.o .unk))::((.s (.o .unk))::((.s (.c 4 (nL tP)))::((.s (.o (.int .i64)))::((.s (.o (.int .i64)))::(ru2 7 ((.s (.o (.tree 4)))::((.s (.o (.int .i64)))::((.s (.o (.int .i64)))::(ru2 9 ((.s (.o (.tree 4)))::((.s (.o (.int .i64)))::((.s (.o (.int .i64)))::(ru2 13 ((.s (.o (.lit .i64 0)))::((.s (.o .unk))::((.s (.o (.ptr 3 0 0 0)))::((.s (.o .nil))::((.s (.o (.ptr 4 0 0 0)))::((.s (.o (.ptr 5 0 0 0)))::(ru2 31 [])))))))))))))))))))))))))))),[⟨0,1,true,(some [[(.c 4 (nL tP))]])⟩,⟨0,4,true,(some [[(.o (.int .i64)),(.o (.int .i64)),(.o (.int .i64)),(.o (.int .i64))]])⟩,⟨0,4,true,(some [[(.o (.int .i64)),(.o (.int .i64)),(.o (.int .i64)),(.o (.int .i64))]])⟩,⟨0,1,true,(some [[(.c 4 (nL tP))]])⟩,⟨0,0,true,(some [[(.o (.sl 6 0 (some 0) none))]])⟩,⟨0,0,true,(some [[(.o (.ptr 7 0 0 0))]])⟩,⟨53,4,true,none⟩,⟨84,0,true,none⟩],fun a H=>(⟨(toI (slT a 3)),(rL tP (slT a 9)),(toI (slT a 10)),(toI (slT a 11)),(toN (slT a 19)),(toG (slT a 19)),(toI (slT a 20)),(toI (slT a 21)),(toN (slT a 31)),(toG (slT a 31)),(toI (slT a 32)),(rL tP (slT (rwT (elT H 0) 0) 0)),(toI (slT (rwT (elT H 1) 0) 0)),(toI (slT (rwT (elT H 1) 0) 1)),(toI (slT (rwT (elT H 1) 0) 2)),(toI (slT (rwT (elT H 1) 0) 3)),(toI (slT (rwT (elT H 2) 0) 0)),(toI (slT (rwT (elT H 2) 0) 1)),(toI (slT (rwT (elT H 2) 0) 2)),(toI (slT (rwT (elT H 2) 0) 3)),(rL tP (slT (rwT (elT H 3) 0) 0))⟩,⟨1,(toI (slT a 33)),(slN (slT (rwT (elT H 4) 0) 0)),(elT H 6),(elT H 7)⟩)⟩],p7,[(some 4,fun p s=>⟨(.unk::((.ptr 0 0 0 0)::(.unk::((i p.is3)::((.ptr 1 0 0 0)::(.unk::((.ptr 2 0 0 0)::(.unk::(.unk::((eL tP p.K9)::((i p.wa7)::((i p.P0)::(ra 7 ((.tree 4 p.Cb6 p.Ia1)::((i p.Y5)::((i p.fa1)::(ra 9 ((.tree 4 p.Ic1 p.Fa8)::((i p.pc5)::((i s.ha8)::((b (decide (s.ha8 < p.pc5)))::(ra 12 ((i 0)::(.unk::((.ptr 3 0 0 0)::((.v (.slice none 0 0))::((.ptr 4 0 0 0)::((.ptr 5 0 0 0)::(ra 31 []))))))))))))))))))))))))))))),[⟨0,1,[[(eL tP p.c9)]],true,false,0⟩,⟨0,4,[[(i p.Q0),(i p.Q1),(i p.Q3),(i p.Q4)]],true,false,0⟩,⟨0,4,[[(i p.Z0),(i p.Z1),(i p.Z2),(i p.Ia2)]],true,false,0⟩,⟨0,1,[[(eL tP p.fa2)]],true,false,0⟩,⟨0,0,[[(.v (.slice none 0 0))]],true,false,0⟩,⟨0,0,[[(.ptr 6 0 0 0)]],true,false,0⟩,⟨84,0,[],true,false,0⟩]⟩),(some 4,fun p s=>⟨(.unk::((.ptr 0 0 0 0)::(.unk::((i p.is3)::((.ptr 1 0 0 0)::(.unk::((.ptr 2 0 0 0)::(.unk::(.unk::((eL tP p.K9)::((i p.wa7)::((i p.P0)::(ra 7 ((.tree 4 p.Cb6 p.Ia1)::((i p.Y5)::((i p.fa1)::(ra 9 ((.tree 4 p.Ic1 p.Fa8)::((i p.pc5)::((i s.ha8)::((b (decide (s.ha8 < p.pc5)))::(ra 12 ((i 0)::(.unk::((.ptr 3 0 0 0)::((.v (.slice none 0 0))::((.ptr 4 0 0 0)::((.ptr 5 0 0 0)::(ra 31 []))))))))))))))))))))))))))))),[⟨0,1,[[(eL tP p.c9)]],true,false,0⟩,⟨0,4,[[(i p.Q0),(i p.Q1),(i p.Q3),(i p.Q4)]],true,false,0⟩,⟨0,4,[[(i p.Z0),(i p.Z1),(i p.Z2),(i p.Ia2)]],true,false,0⟩,⟨0,1,[[(eL tP p.fa2)]],true,false,0⟩,⟨0,0,[[(.sl 6 0 s.Aa4 0)]],true,false,0⟩,⟨0,0,[[(.ptr 7 0 0 0)]],true,false,0⟩,⟨53,4,s.eh6,true,false,0⟩,⟨84,0,s.eh7,true,false,0⟩]⟩)],Ra6⟩
theorem Ra7:da5.OkM:=Lo.okM [] (by kernel_rfl) .nil rfl (.cons (fun a H=>by kernel_rfl) (.cons (fun a H=>by kernel_rfl) .nil)) fun p s=>(.sel (Nat.beq s.ph 1) (.of @s9 (fun F _ _ _ _ _=>by unfold s9;(repeat' apply A4 (f:=F))<;>rfl) (by kernel_rfl)) (.of @s8 (fun F _ _ _ _ _=>by unfold s8;(repeat' apply A4 (f:=F))<;>rfl) (by kernel_rfl)))
structure f0 where
 is3:Int
 wa7:Int
 P0:Int
 Cb6:Nat
 Ia1:Nat→List a7
 Y5:Int
 Q0:Int
 Q1:Int
 Q3:Int
 Q4:Int
structure g9 where
 ph:Nat
 K9:List Pln
 fa1:Int
 c9:List Pln
 L8:List Pln
 Cb7:Nat
 eh5:List (List a7)
 eh6:List (List a7)
noncomputable def Na2 (p:f0) (s:g9):St:=⟨(.unk::((.ptr 0 0 0 0)::(.unk::((i p.is3)::((.ptr 1 0 0 0)::(ra 4 ((eL tP s.K9)::((i p.wa7)::((i p.P0)::(ra 7 ((.tree 4 p.Cb6 p.Ia1)::((i p.Y5)::((i s.fa1)::(ra 25 ((i 0)::(.unk::((.ptr 2 0 0 0)::((.v (.slice none 0 0))::((.ptr 3 0 0 0)::((.ptr 4 0 0 0)::(ra 31 []))))))))))))))))))))),[⟨0,1,[[(eL tP s.c9)]],true,false,0⟩,⟨0,4,[[(i p.Q0),(i p.Q1),(i p.Q3),(i p.Q4)]],true,false,0⟩,⟨0,1,[[(eL tP s.L8)]],true,false,0⟩,⟨0,0,[[(.v (.slice none 0 0))]],true,false,0⟩,⟨0,0,[[(.ptr 5 0 0 0)]],true,false,0⟩,⟨84,0,[],true,false,0⟩]⟩
noncomputable def Na3 (p:f0) (s:g9):St:=⟨(.unk::((.ptr 0 0 0 0)::(.unk::((i p.is3)::((.ptr 1 0 0 0)::(ra 4 ((eL tP s.K9)::((i p.wa7)::((i p.P0)::(ra 7 ((.tree 4 p.Cb6 p.Ia1)::((i p.Y5)::((i s.fa1)::(ra 25 ((i 0)::(.unk::((.ptr 2 0 0 0)::((.v (.slice none 0 0))::((.ptr 3 0 0 0)::((.ptr 4 0 0 0)::(ra 31 []))))))))))))))))))))),[⟨0,1,[[(eL tP s.c9)]],true,false,0⟩,⟨0,4,[[(i p.Q0),(i p.Q1),(i p.Q3),(i p.Q4)]],true,false,0⟩,⟨0,1,[[(eL tP s.L8)]],true,false,0⟩,⟨0,0,[[(.sl 5 0 s.Cb7 0)]],true,false,0⟩,⟨0,0,[[(.ptr 6 0 0 0)]],true,false,0⟩,⟨53,4,s.eh5,true,false,0⟩,⟨84,0,s.eh6,true,false,0⟩]⟩
noncomputable def Ra8 (p:f0) (s:g9):St:=(sel (Nat.beq s.ph 1) (Na3 p s) (Na2 p s))
noncomputable def u9 {α:Type} (k:g9→α) (e:Nat→α) (z:α) (p:f0) (s:g9):α:=let t1:=(lp (p7 (⟨p.is3,(rt tP s.K9),p.wa7,p.P0,p.Cb6,p.Ia1,p.Y5,s.fa1,((List.length s.c9) - (W ((W (p.is3+s.fa1))+2)).toNat),(fun k=>(fun k=>(tP).row (gL tP s.c9 k)) ((W ((W (p.is3+s.fa1))+2)).toNat+k)),(↑((List.length s.c9) - (W ((W (p.is3+s.fa1))+2)).toNat):Int),(rt tP s.c9),p.Q0,p.Q1,p.Q3,p.Q4,(toI (hdA (p.Ia1 s.fa1.toNat))),(toI (hdA (tlA (p.Ia1 s.fa1.toNat)))),(toI (hdA (tlA (tlA (p.Ia1 s.fa1.toNat))))),(toI (hdA (tlA (tlA (tlA (p.Ia1 s.fa1.toNat)))))),(rt tP s.L8)⟩:e7)) (⟨0,0,0,[],[]⟩:e8));(sl (decide (s.fa1 < p.Y5)) (sl (inB s.fa1 p.Cb6) (sl ((Nat.ble 4 (len (p.Ia1 s.fa1.toNat)))&&(Pa1 [(CK.int .i64),(CK.int .i64),(CK.int .i64),(CK.int .i64)] (p.Ia1 s.fa1.toNat))) (sl (inB (W ((W (p.is3+s.fa1))+2)) ((List.length s.c9)+1)) (sl ((cnE tP s.K9)&&((cnE tP s.c9)&&((cnE tP s.L8)&&true))) (sl (Nat.beq t1.1 1) (k ⟨0,(rt tP s.K9),(W (s.fa1+1)),(rt tP s.c9),(rt tP s.L8),0,[],[]⟩) (sl (Nat.beq t1.1 2) (k ⟨1,(rt tP s.K9),(W (s.fa1+1)),(rt tP s.c9),(rt tP s.L8),t1.2.Aa4,t1.2.eh6,t1.2.eh7⟩) z)) z) z) z) z) (e 1))
noncomputable def v7 {α:Type} (k:g9→α) (e:Nat→α) (z:α) (p:f0) (s:g9):α:=let t1:=(lp (p7 (⟨p.is3,(rt tP s.K9),p.wa7,p.P0,p.Cb6,p.Ia1,p.Y5,s.fa1,((List.length s.c9) - (W ((W (p.is3+s.fa1))+2)).toNat),(fun k=>(fun k=>(tP).row (gL tP s.c9 k)) ((W ((W (p.is3+s.fa1))+2)).toNat+k)),(↑((List.length s.c9) - (W ((W (p.is3+s.fa1))+2)).toNat):Int),(rt tP s.c9),p.Q0,p.Q1,p.Q3,p.Q4,(toI (hdA (p.Ia1 s.fa1.toNat))),(toI (hdA (tlA (p.Ia1 s.fa1.toNat)))),(toI (hdA (tlA (tlA (p.Ia1 s.fa1.toNat))))),(toI (hdA (tlA (tlA (tlA (p.Ia1 s.fa1.toNat)))))),(rt tP s.L8)⟩:e7)) (⟨1,0,s.Cb7,s.eh5,s.eh6⟩:e8));(sl (decide (s.fa1 < p.Y5)) (sl (inB s.fa1 p.Cb6) (sl ((Nat.ble 4 (len (p.Ia1 s.fa1.toNat)))&&(Pa1 [(CK.int .i64),(CK.int .i64),(CK.int .i64),(CK.int .i64)] (p.Ia1 s.fa1.toNat))) (sl (inB (W ((W (p.is3+s.fa1))+2)) ((List.length s.c9)+1)) (sl ((cnE tP s.K9)&&((cnE tP s.c9)&&((cnE tP s.L8)&&true))) (sl (Nat.beq t1.1 1) (k ⟨0,(rt tP s.K9),(W (s.fa1+1)),(rt tP s.c9),(rt tP s.L8),0,[],[]⟩) (sl (Nat.beq t1.1 2) (k ⟨1,(rt tP s.K9),(W (s.fa1+1)),(rt tP s.c9),(rt tP s.L8),t1.2.Aa4,t1.2.eh6,t1.2.eh7⟩) z)) z) z) z) z) (e 2))
noncomputable def p8 (p:f0) (s:g9):Stp g9:=(sel (Nat.beq s.ph 1) (v7 .next .exit .fail p s) (u9 .next .exit .fail p s))
noncomputable def da6:Lo f0 g9:=⟨En T5,0,kd1,[1,1,1,0,1,4,4,1,4,4,1,1,0,4,1,1,4,4],[1,3,4,9,10,11,19,20,21,47,49,50,51,52],(.s .p (.s .p (.s (.b (.s .p (.s .p (.b (.u da5.lsM))))) .p))),[⟨((.s (.o .unk))::((.s (.o (.ptr 0 0 0 0)))::((.s (.o .unk))::((.s (.o (.int .i64)))::((.s (.o (.ptr 1 0 0 0)))::(ru2 4 ((.s (.c 4 (nL tP)))::((.s (.o (.int .i64)))::((.s (.o (.int .i64)))::(ru2 7 ((.s (.o (.tree 4)))::((.s (.o (.int .i64)))::((.s (.o (.int .i64)))::(ru2 25 ((.s (.o (.lit .i64 0)))::((.s (.o .unk))::((.s (.o (.ptr 2 0 0 0)))::((.s (.o .nil))::((.s (.o (.ptr 3 0 0 0)))::((.s (.o (.ptr 4 0 0 0)))::(ru2 31 []))))))))))))))))))))),[⟨0,1,true,(some [[(.c 4 (nL tP))]])⟩,⟨0,4,true,(some [[(.o (.int .i64)),(.o (.int .i64)),(.o (.int .i64)),(.o (.int .i64))]])⟩,⟨0,1,true,(some [[(.c 4 (nL tP))]])⟩,⟨0,0,true,(some [[(.o .nil)]])⟩,⟨0,0,true,(some [[(.o (.ptr 5 0 0 0))]])⟩,⟨84,0,true,(some [])⟩],fun a H=>(⟨(toI (slT a 3)),(toI (slT a 10)),(toI (slT a 11)),(toN (slT a 19)),(toG (slT a 19)),(toI (slT a 20)),(toI (slT (rwT (elT H 1) 0) 0)),(toI (slT (rwT (elT H 1) 0) 1)),(toI (slT (rwT (elT H 1) 0) 2)),(toI (slT (rwT (elT H 1) 0) 3))⟩,⟨0,(rL tP (slT a 9)),(toI (slT a 21)),(rL tP (slT (rwT (elT H 0) 0) 0)),(rL tP (slT (rwT (elT H 2) 0) 0)),0,[],[]⟩)⟩,⟨((.s (.o .unk))::((.s (.o (.ptr 0 0 0 0)))::((.s (.o .unk))::((.s (.o (.int .i64)))::((.s (.o (.ptr 1 0 0 0)))::(ru2 4 ((.s (.c 4 (nL tP)))::((.s (.o (.int .i64)))::((.s (.o (.int .i64)))::(ru2 7 ((.s (.o (.tree 4)))::((.s (.o (.int .i64)))::((.s (.o (.int .i64)))::(ru2 25 ((.s (.o (.lit .i64 0)))::((.s (.o .unk))::((.s (.o (.ptr 2 0 0 0)))::((.s (.o .nil))::((.s (.o (.ptr 3 0 0 0)))::((.s (.o (.ptr 4 0 0 0)))::(ru2 31 []))))))))))))))))))))),[⟨0,1,true,(some [[(.c 4 (nL tP))]])⟩,⟨0,4,true,(some [[(.o (.int .i64)),(.o (.int .i64)),(.o (.int .i64)),(.o (.int .i64))]])⟩,⟨0,1,true,(some [[(.c 4 (nL tP))]])⟩,⟨0,0,true,(some [[(.o (.sl 5 0 (some 0) none))]])⟩,⟨0,0,true,(some [[(.o (.ptr 6 0 0 0))]])⟩,⟨53,4,true,none⟩,⟨84,0,true,none⟩],fun a H=>(⟨(toI (slT a 3)),(toI (slT a 10)),(toI (slT a 11)),(toN (slT a 19)),(toG (slT a 19)),(toI (slT a 20)),(toI (slT (rwT (elT H 1) 0) 0)),(toI (slT (rwT (elT H 1) 0) 1)),(toI (slT (rwT (elT H 1) 0) 2)),(toI (slT (rwT (elT H 1) 0) 3))⟩,⟨1,(rL tP (slT a 9)),(toI (slT a 21)),(rL tP (slT (rwT (elT H 0) 0) 0)),(rL tP (slT (rwT (elT H 2) 0) 0)),(slN (slT (rwT (elT H 3) 0) 0)),(elT H 5),(elT H 6)⟩)⟩],p8,[(some 2,fun p s=>⟨(.unk::((.ptr 0 0 0 0)::(.unk::((i p.is3)::((.ptr 1 0 0 0)::(ra 4 ((eL tP s.K9)::((i p.wa7)::((i p.P0)::(ra 7 ((.tree 4 p.Cb6 p.Ia1)::((i p.Y5)::((i s.fa1)::((b (decide (s.fa1 < p.Y5)))::(ra 24 ((i 0)::(.unk::((.ptr 2 0 0 0)::((.v (.slice none 0 0))::((.ptr 3 0 0 0)::((.ptr 4 0 0 0)::(ra 31 [])))))))))))))))))))))),[⟨0,1,[[(eL tP s.c9)]],true,false,0⟩,⟨0,4,[[(i p.Q0),(i p.Q1),(i p.Q3),(i p.Q4)]],true,false,0⟩,⟨0,1,[[(eL tP s.L8)]],true,false,0⟩,⟨0,0,[[(.v (.slice none 0 0))]],true,false,0⟩,⟨0,0,[[(.ptr 5 0 0 0)]],true,false,0⟩,⟨84,0,[],true,false,0⟩]⟩),(some 2,fun p s=>⟨(.unk::((.ptr 0 0 0 0)::(.unk::((i p.is3)::((.ptr 1 0 0 0)::(ra 4 ((eL tP s.K9)::((i p.wa7)::((i p.P0)::(ra 7 ((.tree 4 p.Cb6 p.Ia1)::((i p.Y5)::((i s.fa1)::((b (decide (s.fa1 < p.Y5)))::(ra 24 ((i 0)::(.unk::((.ptr 2 0 0 0)::((.v (.slice none 0 0))::((.ptr 3 0 0 0)::((.ptr 4 0 0 0)::(ra 31 [])))))))))))))))))))))),[⟨0,1,[[(eL tP s.c9)]],true,false,0⟩,⟨0,4,[[(i p.Q0),(i p.Q1),(i p.Q3),(i p.Q4)]],true,false,0⟩,⟨0,1,[[(eL tP s.L8)]],true,false,0⟩,⟨0,0,[[(.sl 5 0 s.Cb7 0)]],true,false,0⟩,⟨0,0,[[(.ptr 6 0 0 0)]],true,false,0⟩,⟨53,4,s.eh5,true,false,0⟩,⟨84,0,s.eh6,true,false,0⟩]⟩)],Ra8⟩
theorem Ra9:da6.OkM:=Lo.okM [da5.prM] (by kernel_rfl) (.cons Ra7 .nil) rfl (.cons (fun a H=>by kernel_rfl) (.cons (fun a H=>by kernel_rfl) .nil)) fun p s=>(.sel (Nat.beq s.ph 1) (.of @v7 (fun F _ _ _ _ _=>by unfold v7;(repeat' apply A4 (f:=F))<;>rfl) (by kernel_rfl)) (.of @u9 (fun F _ _ _ _ _=>by unfold u9;(repeat' apply A4 (f:=F))<;>rfl) (by kernel_rfl)))
structure o2 where
 wa7:Int
structure i8 where
 ph:Nat
 K9:List Pln
 P0:Int
 c9:List Pln
 sa9:List Pln
 Ob4:Nat
 eh4:List (List a7)
 eh5:List (List a7)
noncomputable def Na4 (p:o2) (s:i8):St:=⟨(.unk::((.ptr 0 0 0 0)::(ra 7 ((eL tP s.K9)::((i p.wa7)::((i s.P0)::(ra 35 ((i 0)::(.unk::((.ptr 1 0 0 0)::((.v (.slice none 0 0))::((.ptr 2 0 0 0)::((.ptr 3 0 0 0)::(ra 31 [])))))))))))))),[⟨0,1,[[(eL tP s.c9)]],true,false,0⟩,⟨0,1,[[(eL tP s.sa9)]],true,false,0⟩,⟨0,0,[[(.v (.slice none 0 0))]],true,false,0⟩,⟨0,0,[[(.ptr 4 0 0 0)]],true,false,0⟩,⟨84,0,[],true,false,0⟩]⟩
noncomputable def Na5 (p:o2) (s:i8):St:=⟨(.unk::((.ptr 0 0 0 0)::(ra 7 ((eL tP s.K9)::((i p.wa7)::((i s.P0)::(ra 35 ((i 0)::(.unk::((.ptr 1 0 0 0)::((.v (.slice none 0 0))::((.ptr 2 0 0 0)::((.ptr 3 0 0 0)::(ra 31 [])))))))))))))),[⟨0,1,[[(eL tP s.c9)]],true,false,0⟩,⟨0,1,[[(eL tP s.sa9)]],true,false,0⟩,⟨0,0,[[(.sl 4 0 s.Ob4 0)]],true,false,0⟩,⟨0,0,[[(.ptr 5 0 0 0)]],true,false,0⟩,⟨53,4,s.eh4,true,false,0⟩,⟨84,0,s.eh5,true,false,0⟩]⟩
noncomputable def Sa0 (p:o2) (s:i8):St:=(sel (Nat.beq s.ph 1) (Na5 p s) (Na4 p s))
noncomputable def v8 {α:Type} (k:i8→α) (e:Nat→α) (z:α) (p:o2) (s:i8):α:=let t1:=(lp (p8 (⟨s.P0,p.wa7,s.P0,((List.length s.c9) - (W (s.P0+1)).toNat),(fun k=>(fun k=>(tP).row (gL tP s.c9 k)) ((W (s.P0+1)).toNat+k)),(↑((List.length s.c9) - (W (s.P0+1)).toNat):Int),(gL tP s.K9 s.P0.toNat).n.x,(gL tP s.K9 s.P0.toNat).n.y,(gL tP s.K9 s.P0.toNat).n.z,(gL tP s.K9 s.P0.toNat).b⟩:f0)) (⟨0,(rt tP s.K9),0,(rt tP s.c9),(rt tP s.sa9),0,[],[]⟩:g9));(sl (decide (s.P0 < p.wa7)) (sl (inB s.P0 (List.length s.K9)) (sl (inB (W (s.P0+1)) ((List.length s.c9)+1)) (sl ((cnE tP s.K9)&&((cnE tP s.c9)&&((cnE tP s.sa9)&&true))) (sl (Nat.beq t1.1 1) (k ⟨0,t1.2.K9,(W (s.P0+1)),t1.2.c9,t1.2.L8,0,[],[]⟩) (sl (Nat.beq t1.1 2) (k ⟨1,t1.2.K9,(W (s.P0+1)),t1.2.c9,t1.2.L8,t1.2.Cb7,t1.2.eh5,t1.2.eh6⟩) z)) z) z) z) (e 1))
noncomputable def w6 {α:Type} (k:i8→α) (e:Nat→α) (z:α) (p:o2) (s:i8):α:=let t1:=(lp (p8 (⟨s.P0,p.wa7,s.P0,((List.length s.c9) - (W (s.P0+1)).toNat),(fun k=>(fun k=>(tP).row (gL tP s.c9 k)) ((W (s.P0+1)).toNat+k)),(↑((List.length s.c9) - (W (s.P0+1)).toNat):Int),(gL tP s.K9 s.P0.toNat).n.x,(gL tP s.K9 s.P0.toNat).n.y,(gL tP s.K9 s.P0.toNat).n.z,(gL tP s.K9 s.P0.toNat).b⟩:f0)) (⟨1,(rt tP s.K9),0,(rt tP s.c9),(rt tP s.sa9),s.Ob4,s.eh4,s.eh5⟩:g9));(sl (decide (s.P0 < p.wa7)) (sl (inB s.P0 (List.length s.K9)) (sl (inB (W (s.P0+1)) ((List.length s.c9)+1)) (sl ((cnE tP s.K9)&&((cnE tP s.c9)&&((cnE tP s.sa9)&&true))) (sl (Nat.beq t1.1 1) (k ⟨0,t1.2.K9,(W (s.P0+1)),t1.2.c9,t1.2.L8,0,[],[]⟩) (sl (Nat.beq t1.1 2) (k ⟨1,t1.2.K9,(W (s.P0+1)),t1.2.c9,t1.2.L8,t1.2.Cb7,t1.2.eh5,t1.2.eh6⟩) z)) z) z) z) (e 2))
noncomputable def p9 (p:o2) (s:i8):Stp i8:=(sel (Nat.beq s.ph 1) (w6 .next .exit .fail p s) (v8 .next .exit .fail p s))
noncomputable def da7:Lo o2 i8:=⟨En T5,0,kd1,[1,1,1,0,1,4,4,1,4,4],[1,9,10,11,47,49,50,51,52],(.s .p (.s .p (.s (.b (.s .p (.s .p (.b (.u da6.lsM))))) .p))),[⟨((.s (.o .unk))::((.s (.o (.ptr 0 0 0 0)))::(ru2 7 ((.s (.c 4 (nL tP)))::((.s (.o (.int .i64)))::((.s (.o (.int .i64)))::(ru2 35 ((.s (.o (.lit .i64 0)))::((.s (.o .unk))::((.s (.o (.ptr 1 0 0 0)))::((.s (.o .nil))::((.s (.o (.ptr 2 0 0 0)))::((.s (.o (.ptr 3 0 0 0)))::(ru2 31 [])))))))))))))),[⟨0,1,true,(some [[(.c 4 (nL tP))]])⟩,⟨0,1,true,(some [[(.c 4 (nL tP))]])⟩,⟨0,0,true,(some [[(.o .nil)]])⟩,⟨0,0,true,(some [[(.o (.ptr 4 0 0 0))]])⟩,⟨84,0,true,(some [])⟩],fun a H=>(⟨(toI (slT a 10))⟩,⟨0,(rL tP (slT a 9)),(toI (slT a 11)),(rL tP (slT (rwT (elT H 0) 0) 0)),(rL tP (slT (rwT (elT H 1) 0) 0)),0,[],[]⟩)⟩,⟨((.s (.o .unk))::((.s (.o (.ptr 0 0 0 0)))::(ru2 7 ((.s (.c 4 (nL tP)))::((.s (.o (.int .i64)))::((.s (.o (.int .i64)))::(ru2 35 ((.s (.o (.lit .i64 0)))::((.s (.o .unk))::((.s (.o (.ptr 1 0 0 0)))::((.s (.o .nil))::((.s (.o (.ptr 2 0 0 0)))::((.s (.o (.ptr 3 0 0 0)))::(ru2 31 [])))))))))))))),[⟨0,1,true,(some [[(.c 4 (nL tP))]])⟩,⟨0,1,true,(some [[(.c 4 (nL tP))]])⟩,⟨0,0,true,(some [[(.o (.sl 4 0 (some 0) none))]])⟩,⟨0,0,true,(some [[(.o (.ptr 5 0 0 0))]])⟩,⟨53,4,true,none⟩,⟨84,0,true,none⟩],fun a H=>(⟨(toI (slT a 10))⟩,⟨1,(rL tP (slT a 9)),(toI (slT a 11)),(rL tP (slT (rwT (elT H 0) 0) 0)),(rL tP (slT (rwT (elT H 1) 0) 0)),(slN (slT (rwT (elT H 2) 0) 0)),(elT H 4),(elT H 5)⟩)⟩],p9,[(some 0,fun p s=>⟨(.unk::((.ptr 0 0 0 0)::(ra 7 ((eL tP s.K9)::((i p.wa7)::((i s.P0)::((b (decide (s.P0 < p.wa7)))::(ra 34 ((i 0)::(.unk::((.ptr 1 0 0 0)::((.v (.slice none 0 0))::((.ptr 2 0 0 0)::((.ptr 3 0 0 0)::(ra 31 []))))))))))))))),[⟨0,1,[[(eL tP s.c9)]],true,false,0⟩,⟨0,1,[[(eL tP s.sa9)]],true,false,0⟩,⟨0,0,[[(.v (.slice none 0 0))]],true,false,0⟩,⟨0,0,[[(.ptr 4 0 0 0)]],true,false,0⟩,⟨84,0,[],true,false,0⟩]⟩),(some 0,fun p s=>⟨(.unk::((.ptr 0 0 0 0)::(ra 7 ((eL tP s.K9)::((i p.wa7)::((i s.P0)::((b (decide (s.P0 < p.wa7)))::(ra 34 ((i 0)::(.unk::((.ptr 1 0 0 0)::((.v (.slice none 0 0))::((.ptr 2 0 0 0)::((.ptr 3 0 0 0)::(ra 31 []))))))))))))))),[⟨0,1,[[(eL tP s.c9)]],true,false,0⟩,⟨0,1,[[(eL tP s.sa9)]],true,false,0⟩,⟨0,0,[[(.sl 4 0 s.Ob4 0)]],true,false,0⟩,⟨0,0,[[(.ptr 5 0 0 0)]],true,false,0⟩,⟨53,4,s.eh4,true,false,0⟩,⟨84,0,s.eh5,true,false,0⟩]⟩)],Sa0⟩
theorem Sa1:da7.OkM:=Lo.okM [da6.prM] (by kernel_rfl) (.cons Ra9 .nil) rfl (.cons (fun a H=>by kernel_rfl) (.cons (fun a H=>by kernel_rfl) .nil)) fun p s=>(.sel (Nat.beq s.ph 1) (.of @w6 (fun F _ _ _ _ _=>by unfold w6;(repeat' apply A4 (f:=F))<;>rfl) (by kernel_rfl)) (.of @v8 (fun F _ _ _ _ _=>by unfold v8;(repeat' apply A4 (f:=F))<;>rfl) (by kernel_rfl)))
noncomputable def O4 (x:List Pln):Option (a7×List a8):=let t1:=(lp (p9 (⟨(↑(List.length x):Int)⟩:o2)) (⟨0,(rt tP x),0,(rt tP x),(rt tP x),0,[],[]⟩:i8));(sl ((cnE tP x)&&((cnE tP x)&&((cnE tP x)&&true))) (sl (Nat.beq t1.1 1) (some ((.v (.slice none 0 0)),[])) (sl (Nat.beq t1.1 2) (some ((.sl 0 0 t1.2.Ob4 0),[⟨53,4,t1.2.eh4,true,false,0⟩])) none)) none)
noncomputable def O5 (x:List Pln):List Pt:=fa4 (one (r1L tX)) (O4 x)
noncomputable def O6 (x:List Pln):Bool:=okO (one (r1L tX)) (O4 x)
noncomputable def ja3:Sum:=ra8 (Aa8 tP) (fun x=>.guard (O6 x) (.ret ((one (r1L tX)).enc (O5 x),[])))
theorem ua3:i7 prog G 28 ja3:=Ua2 (bd b28 Va0) (one (r1L tX)) (o:=O4) fun x=>pd4 (.s .p (.s .p (.s .p (.s (.s .p (.b (.i (.s .p (.b (.u da7.lsM)))))) .p)))) [da7.prM] (by kernel_rfl) (.cons Sa1 .nil) (by kernel_rfl)
end Go.Ev.Ce
end
section
namespace Go.Ev.Ce
open Go Go.Ev Go.Ev.L Go.Proofs
set_option maxRecDepth 100000
noncomputable def cb2:List (Nat×Sum):=[]
theorem Fb8:m9 prog G cb2:=trivial
structure da8 where
 is0:Int
 Ac6:List Int
 is8:Int
structure G9 where
 is9:Int
noncomputable def zb6 (p:da8) (s:G9):St:=⟨((i p.is0)::(ra 6 ((eL tI p.Ac6)::((i p.is8)::((i s.is9)::(ra 13 [])))))),[]⟩
noncomputable def X0 {α:Type} (k:G9→α) (e:Nat→α) (z:α) (p:da8) (s:G9):α:=(sl (decide (s.is9 < p.is8)) (sl (inB s.is9 (List.length p.Ac6)) (sl (decide ((gL tI p.Ac6 s.is9.toNat) < (W (0 - p.is0)))) (e 1) (sl (decide ((gL tI p.Ac6 s.is9.toNat) > p.is0)) (e 1) (k ⟨(W (s.is9+1))⟩))) z) (e 2))
noncomputable def aa8 (p:da8) (s:G9):Stp G9:=X0 .next .exit .fail p s
noncomputable def ya3:Lo da8 G9:=⟨En cb2,0,Ad4,[1,0,1,4,4],[0,7,8,9],.p,[⟨((.s (.o (.int .i64)))::(ru2 6 ((.s (.c 1 (nL tI)))::((.s (.o (.int .i64)))::((.s (.o (.int .i64)))::(ru2 13 [])))))),[],fun a H=>(⟨(toI (slT a 0)),(rL tI (slT a 7)),(toI (slT a 8))⟩,⟨(toI (slT a 9))⟩)⟩],aa8,[(none,fun p s=>⟨[(b false)],[]⟩),(some 0,fun p s=>⟨((i p.is0)::(ra 6 ((eL tI p.Ac6)::((i p.is8)::((i s.is9)::((b (decide (s.is9 < p.is8)))::(ra 12 []))))))),[]⟩)],zb6⟩
theorem zb7:ya3.Ok:=Lo.ok [] (by kernel_rfl) .nil rfl (.cons (fun a H=>by kernel_rfl) .nil) fun p s=>(.of @X0 (fun F _ _ _ _ _=>by unfold X0;(repeat' apply A4 (f:=F))<;>rfl) (by kernel_rfl))
noncomputable def ka8 (x:Int) (y:List Int):Option (a7×List a8):=let t1:=(lp (aa8 (⟨x,(rt tI y),(↑(List.length y):Int)⟩:da8)) (⟨0⟩:G9));(sl ((cnE tI y)&&true) (sl (Nat.beq t1.1 1) (some ((b false),[])) (sl (Nat.beq t1.1 2) (some ((b true),[])) none)) none)
noncomputable def da9 (x:Int) (y:List Int):Bool:=fa4 (one r1B) (ka8 x y)
noncomputable def ea0 (x:Int) (y:List Int):Bool:=okO (one r1B) (ka8 x y)
noncomputable def Ka8:Sum:=pa0 cI (Aa8 tI) (fun x y=>.guard (ea0 x y) (.ret ((one r1B).enc (da9 x y),[])))
theorem cb3:i7 prog G 63 Ka8:=Eb4 (bd b63 Fb8) (one r1B) (o:=ka8) fun x y=>db0 (.s .p (.s (.s .p (.b (.u ya3.ls))) .p)) [ya3.pr] (by kernel_rfl) (.cons zb7 .nil) (by kernel_rfl)
noncomputable def zb8:List (Nat×Sum):=[]
theorem tb5:m9 prog G zb8:=trivial
noncomputable def na3 (x:Int):Int:=(if (W (0 - x)) > x then (W (0 - x)) else x)
noncomputable def Va1:Sum:=ra8 cI (fun x=>.ret ((one r1I).enc (na3 x),[]))
theorem zb9:i7 prog G 88 Va1:=yb2 (bd b88 tb5) fun x=>D2 (by kernel_rfl)
noncomputable def ya4:List (Nat×Sum):=[(88,Va1)]
theorem Ab0:m9 prog G ya4:=⟨zb9,trivial⟩
structure R7 where
 oa3:List Int
 is7:Int
 is8:Int
structure I0 where
 is3:Int
 is5:Int
noncomputable def tb6 (p:R7) (s:I0):St:=⟨(ra 3 ((i s.is3)::(.unk::((i s.is5)::((eL tI p.oa3)::((i p.is7)::((i p.is8)::(ra 15 [])))))))),[]⟩
noncomputable def T0 {α:Type} (k:I0→α) (e:Nat→α) (z:α) (p:R7) (s:I0):α:=(sl (decide (s.is5 > 0)) (sl (s.is5==0) z (k ⟨s.is5,(Int.tmod s.is3 s.is5)⟩)) (e 1))
noncomputable def O9 (p:R7) (s:I0):Stp I0:=T0 .next .exit .fail p s
noncomputable def ua4:Lo R7 I0:=⟨En ya4,0,ud1,[1,1,0,1,4,4,1,1,0,4,1,1,1,4,4],[3,5,6,7,8],.p,[⟨(ru2 3 ((.s (.o (.int .i64)))::((.s (.o .unk))::((.s (.o (.int .i64)))::((.s (.c 1 (nL tI)))::((.s (.o (.int .i64)))::((.s (.o (.int .i64)))::(ru2 15 [])))))))),[],fun a H=>(⟨(rL tI (slT a 6)),(toI (slT a 7)),(toI (slT a 8))⟩,⟨(toI (slT a 3)),(toI (slT a 5))⟩)⟩],O9,[(some 2,fun p s=>⟨(ra 3 ((i s.is3)::(.unk::((i s.is5)::((eL tI p.oa3)::((i p.is7)::((i p.is8)::(ra 7 ((i s.is5)::((b (decide (s.is5 > 0)))::(ra 6 []))))))))))),[]⟩)],tb6⟩
theorem tb7:ua4.Ok:=Lo.ok [] (by kernel_rfl) .nil rfl (.cons (fun a H=>by kernel_rfl) .nil) fun p s=>(.of @T0 (fun F _ _ _ _ _=>by unfold T0;(repeat' apply A4 (f:=F))<;>rfl) (by kernel_rfl))
structure aa9 where
 is7:Int
structure E8 where
 is3:Int
 oa3:List Int
 is8:Int
noncomputable def tb8 (p:aa9) (s:E8):St:=⟨(ra 3 ((i s.is3)::(.unk::(.unk::((eL tI s.oa3)::((i p.is7)::((i s.is8)::(ra 15 [])))))))),[]⟩
noncomputable def T1 {α:Type} (k:E8→α) (e:Nat→α) (z:α) (p:aa9) (s:E8):α:=let t1:=(na3 (gL tI s.oa3 s.is8.toNat));let t2:=(lp (O9 (⟨(rt tI s.oa3),p.is7,s.is8⟩:R7)) (⟨s.is3,t1⟩:I0));(sl (decide (s.is8 < p.is7)) (sl (inB s.is8 (List.length s.oa3)) (sl ((gL tI s.oa3 s.is8.toNat)==(-9223372036854775808)) (e 1) (sl ((cnE tI s.oa3)&&true) (sl (Nat.beq t2.1 1) (k ⟨t2.2.is3,(rt tI s.oa3),(W (s.is8+1))⟩) z) z)) z) (e 2))
noncomputable def X1 (p:aa9) (s:E8):Stp E8:=T1 .next .exit .fail p s
noncomputable def ua5:Lo aa9 E8:=⟨En ya4,0,ud1,[1,1,0,1,4,4],[3,6,7,8],(.s .p (.s .p (.s (.b (.s .p (.s .p (.s .p (.b (.u ua4.ls)))))) .p))),[⟨(ru2 3 ((.s (.o (.int .i64)))::((.s (.o .unk))::((.s (.o .unk))::((.s (.c 1 (nL tI)))::((.s (.o (.int .i64)))::((.s (.o (.int .i64)))::(ru2 15 [])))))))),[],fun a H=>(⟨(toI (slT a 7))⟩,⟨(toI (slT a 3)),(rL tI (slT a 6)),(toI (slT a 8))⟩)⟩],X1,[(none,fun p s=>⟨[(i 0)],[]⟩),(some 0,fun p s=>⟨(ra 3 ((i s.is3)::(.unk::(.unk::((eL tI s.oa3)::((i p.is7)::((i s.is8)::((b (decide (s.is8 < p.is7)))::(ra 14 []))))))))),[]⟩)],tb8⟩
theorem tb9:ua5.Ok:=Lo.ok [ua4.pr] (by kernel_rfl) (.cons tb7 .nil) rfl (.cons (fun a H=>by kernel_rfl) .nil) fun p s=>(.of @T1 (fun F _ _ _ _ _=>by unfold T1;(repeat' apply A4 (f:=F))<;>rfl) (by kernel_rfl))
noncomputable def ha0 (x:List Int):Option (a7×List a8):=let t1:=(lp (X1 (⟨(↑(List.length x):Int)⟩:aa9)) (⟨0,(rt tI x),0⟩:E8));(sl ((cnE tI x)&&true) (sl (Nat.beq t1.1 1) (some ((i 0),[])) (sl (Nat.beq t1.1 2) (some ((i t1.2.is3),[])) none)) none)
noncomputable def qa9 (x:List Int):Int:=fa4 (one r1I) (ha0 x)
noncomputable def ra0 (x:List Int):Bool:=okO (one r1I) (ha0 x)
noncomputable def cb4:Sum:=ra8 (Aa8 tI) (fun x=>.guard (ra0 x) (.ret ((one r1I).enc (qa9 x),[])))
theorem Fb9:i7 prog G 69 cb4:=Ua2 (bd b69 Ab0) (one r1I) (o:=ha0) fun x=>db0 (.s .p (.s .p (.s (.s .p (.b (.u ua5.ls))) .p))) [ua5.pr] (by kernel_rfl) (.cons tb9 .nil) (by kernel_rfl)
noncomputable def Ub4:List (Nat×Sum):=[(63,Ka8),(69,cb4)]
theorem Kb9:m9 prog G Ub4:=⟨cb3,Fb9,trivial⟩
noncomputable def pa4 (x:Pln):Option (a7×List a8):=let t1:=(da9 4608 [x.n.x,x.n.y,x.n.z]);let t2:=(qa9 [x.n.x,x.n.y,x.n.z]);let t3:=(da9 2097152 [x.b]);(sl (ea0 4608 [x.n.x,x.n.y,x.n.z]) (sl t1 (sl (ra0 [x.n.x,x.n.y,x.n.z]) (sl (t2==1) (sl (ea0 2097152 [x.b]) (some ((b t3),[])) none) (some ((b false),[]))) none) (some ((b false),[]))) none)
noncomputable def pa5 (x:Pln):Bool:=fa4 (one r1B) (pa4 x)
noncomputable def pa6 (x:Pln):Bool:=okO (one r1B) (pa4 x)
noncomputable def Sa2:Sum:=ra8 (ja0 tP) (fun x=>.guard (pa6 x) (.ret ((one r1B).enc (pa5 x),[])))
theorem jb3:i7 prog G 45 Sa2:=Ua2 (bd b45 Kb9) (one r1B) (o:=pa4) fun x=>D2 (by kernel_rfl)
noncomputable def Lb0:List (Nat×Sum):=[(45,Sa2)]
theorem Gb0:m9 prog G Lb0:=⟨jb3,trivial⟩
noncomputable def ka9 (x:Pln):Option (a7×List a8):=let t1:=(pa5 x);(sl (pa6 x) (some ((b (!t1)),[])) none)
noncomputable def ua6 (x:Pln):Bool:=fa4 (one r1B) (ka9 x)
noncomputable def ua7 (x:Pln):Bool:=okO (one r1B) (ka9 x)
noncomputable def jb4:Sum:=ra8 (ja0 tP) (fun x=>.guard (ua7 x) (.ret ((one r1B).enc (ua6 x),[])))
theorem Lb1:i7 prog G 49 jb4:=Ua2 (bd b49 Gb0) (one r1B) (o:=ka9) fun x=>D2 (by kernel_rfl)
structure M9 where
 w9:List Pln
noncomputable def la0:List (Nat×Sum):=[(49,jb4)]
theorem Ga8:m9 prog G la0:=⟨Lb1,trivial⟩
structure E9 where
 w9:List Pln
 is7:Int
structure l0 where
 is8:Int
noncomputable def Da7 (p:E9) (s:l0):St:=⟨((eL tP p.w9)::((.fn 49 [])::(ra 5 ((i p.is7)::((i s.is8)::(ra 10 [])))))),[]⟩
noncomputable def A9 {α:Type} (k:l0→α) (e:Nat→α) (z:α) (p:E9) (s:l0):α:=let t1:=(ua6 (gL tP p.w9 s.is8.toNat));(sl (decide (s.is8 < p.is7)) (sl (inB s.is8 (List.length p.w9)) (sl (ua7 (gL tP p.w9 s.is8.toNat)) (sl t1 (e 1) (k ⟨(W (s.is8+1))⟩)) z) z) (e 2))
noncomputable def D5 (p:E9) (s:l0):Stp l0:=A9 .next .exit .fail p s
noncomputable def T6:Lo E9 l0:=⟨En la0,0,kd2,[1,0,1,4,4],[0,1,7,8],.p,[⟨((.s (.c 4 (nL tP)))::((.s (.o (.fn 49)))::(ru2 5 ((.s (.o (.int .i64)))::((.s (.o (.int .i64)))::(ru2 10 [])))))),[],fun a H=>(⟨(rL tP (slT a 0)),(toI (slT a 7))⟩,⟨(toI (slT a 8))⟩)⟩],D5,[(none,fun p s=>⟨[(i s.is8)],[]⟩),(some 0,fun p s=>⟨((eL tP p.w9)::((.fn 49 [])::(ra 5 ((i p.is7)::((i s.is8)::((b (decide (s.is8 < p.is7)))::(ra 9 []))))))),[]⟩)],Da7⟩
theorem Da8:T6.Ok:=Lo.ok [] (by kernel_rfl) .nil rfl (.cons (fun a H=>by kernel_rfl) .nil) fun p s=>(.of @A9 (fun F _ _ _ _ _=>by unfold A9;(repeat' apply A4 (f:=F))<;>rfl) (by kernel_rfl))
structure N0 where
 alt:Nat
 is0:Int
noncomputable def B9 {α:Type} (kk:N0→α) (x:M9):α:=let t1:=(lp (D5 (⟨(rt tP x.w9),(↑(List.length x.w9):Int)⟩:E9)) (⟨0⟩:l0));(sl ((cnE tP x.w9)&&true) (sl (Nat.beq t1.1 1) (kk ⟨1,t1.2.is8⟩) (sl (Nat.beq t1.1 2) (kk ⟨1,(-1)⟩) (kk ⟨0,0⟩))) (kk ⟨0,0⟩))
noncomputable def Z3 (x:M9):N0:=B9 (fun r=>r) x
noncomputable def X2 (x:M9) (r:N0):DT (a7×List a8):=(.ite (Nat.beq r.alt 1) (.ret ((i r.is0),[])) .fail)
theorem Na6 {α β:Type} (F:α→β) (kk:N0→α) (x:M9):F (B9 kk x)=B9 (fun r=>F (kk r)) x:=by unfold B9;(repeat' apply A4 (f:=F))<;>rfl
noncomputable def na6:Sum:=Ja9 ⟨[(.s (.c 4 (nL tP))),(.s (.o (.fn 49)))],[],fun a H=>(⟨(rL tP (slT a 0))⟩,())⟩ (fun x=>X2 x (Z3 x))
theorem Ka9:i7 prog G 55 na6:=M5 (enc:=fun x=>⟨[(eL tP x.w9),(.fn 49 [])],[]⟩) (fun a H=>by kernel_rfl) (bd b55 Ga8) fun x=>db0 (.s .p (.s (.s .p (.b (.u T6.ls))) .p)) [T6.pr] (by kernel_rfl) (.cons Da8 .nil) (Eq.trans (b:=B9 (fun r=>(X2 x r).run) x) (by kernel_rfl) (Na6 (fun r=>(X2 x r).run) (fun r=>r) x).symm)
structure J1 where
 w9:List Pln
noncomputable def Ba5:List (Nat×Sum):=[(55,na6)]
theorem ya5:m9 prog G Ba5:=⟨Ka9,trivial⟩
structure J2 where
 alt:Nat
 bs0:Bool
noncomputable def y6 {α:Type} (kk:J2→α) (x:J1):α:=let t1:=(Z3 ⟨(rt tP x.w9)⟩);(sl ((cnE tP x.w9)&&true) (sl (Nat.beq t1.alt 1) (kk ⟨1,(decide (t1.is0≥0))⟩) (kk ⟨0,false⟩)) (kk ⟨0,false⟩))
noncomputable def S3 (x:J1):J2:=y6 (fun r=>r) x
noncomputable def Q6 (x:J1) (r:J2):DT (a7×List a8):=(.ite (Nat.beq r.alt 1) (.ret ((b r.bs0),[])) .fail)
theorem Da9 {α β:Type} (F:α→β) (kk:J2→α) (x:J1):F (y6 kk x)=y6 (fun r=>F (kk r)) x:=by unfold y6;(repeat' apply A4 (f:=F))<;>rfl
noncomputable def ha1:Sum:=Ja9 ⟨[(.s (.c 4 (nL tP))),(.s (.o (.fn 49)))],[],fun a H=>(⟨(rL tP (slT a 0))⟩,())⟩ (fun x=>Q6 x (S3 x))
theorem Ba6:i7 prog G 48 ha1:=M5 (enc:=fun x=>⟨[(eL tP x.w9),(.fn 49 [])],[]⟩) (fun a H=>by kernel_rfl) (bd b48 ya5) fun x=>D2 (Eq.trans (b:=y6 (fun r=>(Q6 x r).run) x) (by kernel_rfl) (Da9 (fun r=>(Q6 x r).run) (fun r=>r) x).symm)
noncomputable def Zb8:List (Nat×Sum):=[(48,ha1)]
theorem Ub5:m9 prog G Zb8:=⟨Ba6,trivial⟩
noncomputable def ua8 (x:List Pln):Option (a7×List a8):=let t1:=(S3 ⟨(rt tP x)⟩);(sl (decide ((↑(List.length x):Int) > 48)) (some ((i 2),[])) (sl ((cnE tP x)&&true) (sl (Nat.beq t1.alt 1) (sl t1.bs0 (some ((i 12),[])) (some ((i 0),[]))) none) none))
noncomputable def fa7 (x:List Pln):Int:=fa4 (one r1I) (ua8 x)
noncomputable def T7 (x:List Pln):Bool:=okO (one r1I) (ua8 x)
noncomputable def Ga9:Sum:=ra8 (Aa8 tP) (fun x=>.guard (T7 x) (.ret ((one r1I).enc (fa7 x),[])))
theorem Sa3:i7 prog G 19 Ga9:=Ua2 (bd b19 Ub5) (one r1I) (o:=ua8) fun x=>D2 (by kernel_rfl)
noncomputable def Lb2:List (Nat×Sum):=[(19,Ga9)]
theorem Gb1:m9 prog G Lb2:=⟨Sa3,trivial⟩
noncomputable def la1 (x:List Pln):Option (a7×List a8):=let t1:=(fa7 (rt tP x));(sl (okE tP x) (sl (T7 (rt tP x)) (some ((b (t1 != 0)),[])) none) none)
noncomputable def ua9 (x:List Pln):Bool:=fa4 (one r1B) (la1 x)
noncomputable def va0 (x:List Pln):Bool:=okO (one r1B) (la1 x)
noncomputable def jb5:Sum:=ra8 (Aa8 tP) (fun x=>.guard (va0 x) (.ret ((one r1B).enc (ua9 x),[])))
theorem Lb3:i7 prog G 51 jb5:=Ua2 (bd b51 Gb1) (one r1B) (o:=la1) fun x=>D2 (by kernel_rfl)
end Go.Ev.Ce
end
namespace Go.Proofs
open Go.Shelf
set_option maxRecDepth 100000 in
def Ce.growP_ren:Go.Shelf.Ren:=⟨fun | 4=>71 | n=>n,fun | 22=>29 | 25=>42 | 3=>3 | 4=>4 | 9=>9 | 20=>20 | 0=>0 | n=>n,fun | n=>n⟩
set_option maxRecDepth 100000 in
theorem Ce.growP:Go.Proofs.Lays8.n4 Try.prog Ce.growP_ren:={
 mixed:=by kernel_rfl
 f4:=⟨Try.f71.name,by decide,Try.func71.trans (congrArg some (by kernel_rfl))⟩
 t0:=Try.underlying0
 a0:=Try.isAgg0
 z0:=Try.sizeOf0
 v0:=Try.zeroValue0
 t3:=Try.underlying3
 a3:=Try.isAgg3
 z3:=Try.sizeOf3
 v3:=Try.zeroValue3
 t4:=Try.underlying4
 a4:=Try.isAgg4
 z4:=Try.sizeOf4
 v4:=Try.zeroValue4
 t9:=Try.underlying9
 a9:=Try.isAgg9
 z9:=Try.sizeOf9
 v9:=Try.zeroValue9
 t20:=Try.underlying20
 a20:=Try.isAgg20
 z20:=Try.sizeOf20
 v20:=Try.zeroValue20
 t22:=Try.underlying29
 a22:=Try.isAgg29
 z22:=Try.sizeOf29
 v22:=Try.zeroValue29 }
end Go.Proofs
namespace Go.Ev.Ce
open Go Go.Ev Go.Proofs
noncomputable def mc8:List a7:=[i 0,i 0,i 0,i 0]
noncomputable def oa6:Sum:=fun args blks=>match args,blks with
 | [.v (.slice none 0 0), .v (.int .i64 n)], [] => .ite (n == 0) (.ret (.v (.slice none 0 0), []))
   (.guard (Bool.and (decide (0 < n)) (Nat.ble (n.toNat*32) room)) (.ret (.sl 0 0 0 0,[⟨42,4,List.replicate n.toNat mc8,true,false,0⟩])))
 | _,_=>.fail
theorem z42:zeT Try.prog 42=some mc8:=by kernel_rfl
theorem s50:szT Try.prog 42=4:=by kernel_rfl
theorem y50:byT Try.prog 42=32:=by kernel_rfl
theorem t25:Ce.growP_ren.t 25=42:=by kernel_rfl
theorem f4:Ce.growP_ren.f 4=71:=by kernel_rfl
set_option maxRecDepth 100000 in
theorem jb6:i7 prog G 71 oa6:=by
 intro args blks r out he W ρ F w args' hH hlen hargs hG
 refine⟨⟨_,Try.func71,by kernel_rfl,of_decide_eq_true (by kernel_rfl)⟩,?_⟩
 unfold oa6 at he
 split at he
 case h_2=>cases he
 rename_i n
 match args',hlen with
 | [v0,v1],_ =>
 have e0:=S9 (hargs 0 _ _ rfl rfl)
 have e1:=S9 (hargs 1 _ _ rfl rfl)
 subst e0 e1
 rcases DT.run_ite_some he with⟨h0,he⟩ | ⟨h0,he⟩
 ·have h0:n=0:=by simpa using h0
  subst h0
  injection he with he;injection he with q1 q2;subst q1 q2
  have:=Any8.slices_Grow_room Ce.growP none 0 0 0 w (Nat.le_refl _) (by omega) (by omega) (by omega)
  rw[f4] at this
  refine this.mono fun e w' ⟨h1,h2⟩=>?_
  subst h1 h2
  exact⟨_,rfl,ρ,F,.refl,hH,.ofv _⟩
 ·obtain⟨hg,he⟩:=DT.run_guard_some he
  rw[Bool.and_eq_true,decide_eq_true_eq] at hg
  obtain⟨hpos,hroom⟩:=hg
  have hroom:=Nat.le_of_ble_eq_true hroom
  unfold room at hroom
  obtain⟨m,rfl⟩:=Int.eq_ofNat_of_zero_le (Int.le_of_lt hpos)
  have hm:0 < m:=by omega
  have he:some (a7.sl 0 0 0 0,[(⟨42,4,List.replicate m mc8,true,false,0⟩:a8)])=some (r,out):=he
  injection he with he;injection he with q1 q2;subst q1 q2
  obtain⟨ti,zv,hi,hzz,hzr,hone⟩:=xa4 (E:=En []) z42
  have hi:Try.prog.info? 42=some ti:=hi
  have hts:ti.size=4:=by have:=s50;simp only[szT,hi] at this;exact this
  have hby:ti.bytes=32:=by have:=y50;simp only[byT,hi] at this;exact this
  have hzs:zv.cells.size=4:=by
   have:=congrArg List.length hzr
   simpa [mc8] using this.symm
  have hroom':m*32≤140737488355328:=hroom
  have:=Any8.slices_Grow_grow Ce.growP ti zv (by rw[t25];exact hi) hzz (by omega) none 0 0 m [] w (Nat.le_refl _) (by omega) (by rw[hby];omega) (by omega) (by simp) (fun _=>rfl) (fun a ha=>by cases ha)
  rw[f4,t25] at this
  refine this.mono fun e w' ⟨h1,h2⟩=>?_
  have hcap:=grownCap_ge w (0+m) 0 42
  have hcap2:=grownCap_le_maxLen w (0+m) 0 42 (by unfold maxLen;omega)
  subst h1
  generalize grownCap w (0+m) 0 42=G' at *
  have hsz:∀ q,(Builtin.zeroCells zv.cells q).size=q*4:=fun q=>by simp[Builtin.zeroCells,hzs]
  have hcc:(#[]++Builtin.zeroCells zv.cells (0+m - 0)++Builtin.zeroCells zv.cells (G' - (0+m))).size=G'*4:=by
   rw[Array.size_append,Array.size_append,hsz,hsz]
   simp
   omega
  have hobj:w'.heap[w.heap.size]?=some (.cells (#[]++Builtin.zeroCells zv.cells (0+m - 0)++Builtin.zeroCells zv.cells (G' - (0+m))) 42 (0,0)):=by
   rw[h2]
   exact World.alloc_heap_new w.drew _
  have hold:∀ k,k < w.heap.size→w'.heap[k]?=w.heap[k]?:=fun k hk=>by
   rw[h2]
   simp only[World.alloc,Array.getElem?_push,World.drew]
   rw[if_neg (by omega)]
  have hws:w'.heap.size=w.heap.size+1:=by rw[h2];exact Array.size_push ..
  obtain⟨h6,h7⟩:=hH.newAt (w':=w') (by rw[h2];rfl) (by rw[h2];rfl) (by rw[h2];rfl) (by rw[h2];exact Nat.le_succ _) (by omega) hold w.heap.size (Nat.le_refl _) 42 4 (List.replicate m mc8) _ 42 hobj
   (fun j r hr=>by rw[List.getElem?_replicate] at hr;split at hr<;>cases hr;rfl) (by rw[List.length_replicate,hcc];omega)
   (fun j r c x hr hx=>by
    have hjm:j < m:=by
     have:=(List.getElem?_eq_some_iff.1 hr).1
     simpa using this
    rw[List.getElem?_replicate,if_pos hjm] at hr
    injection hr with hr
    subst hr
    have hc4:c < 4:=(List.getElem?_eq_some_iff.1 hx).1
    rw[hzr,List.getElem?_map] at hx
    have hcz:c < zv.cells.size:=by omega
    have hq:zv.cells.toList[c]?=some zv.cells[c]:=by simp[hcz]
    rw[hq] at hx
    injection hx with hx
    subst hx
    refine⟨zv.cells[c],?_,.v _ (hone _ (by simp))⟩
    have hlt:j*4+c < m*4:=by omega
    rw[Array.append_assoc,Array.empty_append,Array.getElem?_append_left (by rw[hsz];omega)]
    have hm4:(j*4+c) % 4=c:=by omega
    simp only[Builtin.zeroCells,hzs]
    rw[Array.getElem?_map,Array.getElem?_range]
    rw[if_pos (by omega)]
    simp[hm4,hcz])
   (fun _=>rfl)
  refine⟨_,rfl,_,F,h6,h7,.val (.cell ?_)⟩
  refine .sl 0 0 0 0 _ _ { et:=42,es:=4,elems:=List.replicate m mc8,own:=true,dead:=false,g:=0 } rfl rfl (Nat.le_refl _) (Nat.zero_le _) rfl hcap2 fun _=>⟨.inr ?_,?_,by simp⟩
  ·simp[ρnew]
  ·simp only[ρnew,List.length_nil,if_true]
   rw[hcc,Nat.zero_add]
end Go.Ev.Ce
section
namespace Go.Ev.Ce
open Go Go.Ev Go.Ev.L Go.Proofs
set_option maxRecDepth 100000
noncomputable def fa8:List (Nat×Sum):=[(71,oa6)]
theorem Va2:m9 prog G fa8:=⟨jb6,trivial⟩
structure K4 where
 ja6:List (List Pln)
 Xb6:List (List Pln)
 wa7:Int
structure o9 where
 is3:Int
 P0:Int
noncomputable def Sa4 (p:K4) (s:o9):St:=⟨((eL (tLs tP) p.ja6)::(.unk::(.unk::((i s.is3)::(ra 5 ((eL (tLs tP) p.Xb6)::((i p.wa7)::((i s.P0)::(ra 24 []))))))))),[]⟩
noncomputable def H6 {α:Type} (k:o9→α) (e:Nat→α) (z:α) (p:K4) (s:o9):α:=(sl (decide (s.P0 < p.wa7)) (sl (inB s.P0 (List.length p.Xb6)) (sl (decide ((W (s.is3+(↑(List.length (gL (tLs tP) p.Xb6 s.P0.toNat)):Int))) < 0)) z (k ⟨(W (s.is3+(↑(List.length (gL (tLs tP) p.Xb6 s.P0.toNat)):Int))),(W (s.P0+1))⟩)) z) (e 1))
noncomputable def E1 (p:K4) (s:o9):Stp o9:=H6 .next .exit .fail p s
noncomputable def ea1:Lo K4 o9:=⟨En fa8,0,td9,[1,1,0,1,4,4],[0,3,9,10,11],.p,[⟨((.s (.c 1 (nL (tLs tP))))::((.s (.o .unk))::((.s (.o .unk))::((.s (.o (.int .i64)))::(ru2 5 ((.s (.c 1 (nL (tLs tP))))::((.s (.o (.int .i64)))::((.s (.o (.int .i64)))::(ru2 24 []))))))))),[],fun a H=>(⟨(rL (tLs tP) (slT a 0)),(rL (tLs tP) (slT a 9)),(toI (slT a 10))⟩,⟨(toI (slT a 3)),(toI (slT a 11))⟩)⟩],E1,[(some 0,fun p s=>⟨((eL (tLs tP) p.ja6)::(.unk::(.unk::((i s.is3)::(ra 5 ((eL (tLs tP) p.Xb6)::((i p.wa7)::((i s.P0)::((b (decide (s.P0 < p.wa7)))::(ra 23 [])))))))))),[]⟩)],Sa4⟩
theorem Sa5:ea1.OkM:=Lo.okM [] (by kernel_rfl) .nil rfl (.cons (fun a H=>by kernel_rfl) .nil) fun p s=>(.of @H6 (fun F _ _ _ _ _=>by unfold H6;(repeat' apply A4 (f:=F))<;>rfl) (by kernel_rfl))
structure p4 where
 ca6:List (List Pln)
 Ac7:Int
structure i5 where
 ph:Nat
 Oa9:Int
 ns6:Nat
 eh0:List (List a7)
noncomputable def Na7 (p:p4) (s:i5):St:=⟨(ra 6 ((.v (.slice none 0 0))::(ra 18 ((eL (tLs tP) p.ca6)::((i p.Ac7)::((i s.Oa9)::(ra 8 []))))))),[]⟩
noncomputable def Na8 (p:p4) (s:i5):St:=⟨(ra 6 ((.sl 0 0 s.ns6 0)::(ra 18 ((eL (tLs tP) p.ca6)::((i p.Ac7)::((i s.Oa9)::(ra 8 []))))))),[⟨42,4,s.eh0,true,false,0⟩]⟩
noncomputable def Sa6 (p:p4) (s:i5):St:=(sel (Nat.beq s.ph 1) (Na8 p s) (Na7 p s))
noncomputable def w7 {α:Type} (k:i5→α) (e:Nat→α) (z:α) (p:p4) (s:i5):α:=(sl (decide (s.Oa9 < p.Ac7)) (sl (inB s.Oa9 (List.length p.ca6)) (sl (Nat.beq (len (o8 (fun k=>(tP).row (gL tP (gL (tLs tP) p.ca6 s.Oa9.toNat) k)) (List.range (List.length (gL (tLs tP) p.ca6 s.Oa9.toNat))))) 0) (k ⟨0,(W (s.Oa9+1)),0,[]⟩) z) z) (e 1))
noncomputable def w8 {α:Type} (k:i5→α) (e:Nat→α) (z:α) (p:p4) (s:i5):α:=(sl (decide (s.Oa9 < p.Ac7)) (sl (inB s.Oa9 (List.length p.ca6)) (sl (Nat.ble (s.ns6+(len (o8 (fun k=>(tP).row (gL tP (gL (tLs tP) p.ca6 s.Oa9.toNat) k)) (List.range (List.length (gL (tLs tP) p.ca6 s.Oa9.toNat)))))) (len s.eh0)) (k ⟨1,(W (s.Oa9+1)),(s.ns6+(len (o8 (fun k=>(tP).row (gL tP (gL (tLs tP) p.ca6 s.Oa9.toNat) k)) (List.range (List.length (gL (tLs tP) p.ca6 s.Oa9.toNat)))))),(app (G0 s.eh0 s.ns6) (app (o8 (fun k=>(tP).row (gL tP (gL (tLs tP) p.ca6 s.Oa9.toNat) k)) (List.range (List.length (gL (tLs tP) p.ca6 s.Oa9.toNat)))) (j8 s.eh0 (s.ns6+(len (o8 (fun k=>(tP).row (gL tP (gL (tLs tP) p.ca6 s.Oa9.toNat) k)) (List.range (List.length (gL (tLs tP) p.ca6 s.Oa9.toNat)))))))))⟩) z) z) (e 2))
noncomputable def z8 (p:p4) (s:i5):Stp i5:=(sel (Nat.beq s.ph 1) (w8 .next .exit .fail p s) (w7 .next .exit .fail p s))
noncomputable def ea2:Lo p4 i5:=⟨En fa8,0,td9,[1,1,1,1,0,1,4,4],[6,25,26,27],.p,[⟨(ru2 6 ((.s (.o .nil))::(ru2 18 ((.s (.c 1 (nL (tLs tP))))::((.s (.o (.int .i64)))::((.s (.o (.int .i64)))::(ru2 8 []))))))),[],fun a H=>(⟨(rL (tLs tP) (slT a 25)),(toI (slT a 26))⟩,⟨0,(toI (slT a 27)),0,[]⟩)⟩,⟨(ru2 6 ((.s (.o (.sl 0 0 (some 0) none)))::(ru2 18 ((.s (.c 1 (nL (tLs tP))))::((.s (.o (.int .i64)))::((.s (.o (.int .i64)))::(ru2 8 []))))))),[⟨42,4,true,none⟩],fun a H=>(⟨(rL (tLs tP) (slT a 25)),(toI (slT a 26))⟩,⟨1,(toI (slT a 27)),(slN (slT a 6)),(elT H 0)⟩)⟩],z8,[(some 2,fun p s=>⟨(ra 6 ((.v (.slice none 0 0))::(ra 18 ((eL (tLs tP) p.ca6)::((i p.Ac7)::((i s.Oa9)::((b (decide (s.Oa9 < p.Ac7)))::(ra 7 [])))))))),[]⟩),(some 2,fun p s=>⟨(ra 6 ((.sl 0 0 s.ns6 0)::(ra 18 ((eL (tLs tP) p.ca6)::((i p.Ac7)::((i s.Oa9)::((b (decide (s.Oa9 < p.Ac7)))::(ra 7 [])))))))),[⟨42,4,s.eh0,true,false,0⟩]⟩)],Sa6⟩
theorem Sa7:ea2.OkM:=Lo.okM [] (by kernel_rfl) .nil rfl (.cons (fun a H=>by kernel_rfl) (.cons (fun a H=>by kernel_rfl) .nil)) fun p s=>(.sel (Nat.beq s.ph 1) (.of @w8 (fun F _ _ _ _ _=>by unfold w8;(repeat' apply A4 (f:=F))<;>rfl) (by kernel_rfl)) (.of @w7 (fun F _ _ _ _ _=>by unfold w7;(repeat' apply A4 (f:=F))<;>rfl) (by kernel_rfl)))
structure Y8 where
 alt:Nat
 ns0:Nat
 eh0:List (List a7)
noncomputable def I4 {α:Type} (kk:Y8→α) (x:List (List Pln)):α:=let t1:=(lp (E1 (⟨(rt (tLs tP) x),(rt (tLs tP) x),(↑(List.length x):Int)⟩:K4)) (⟨0,0⟩:o9));let t2:=(lp (z8 (⟨(rt (tLs tP) (rt (tLs tP) x)),(↑(List.length (rt (tLs tP) x)):Int)⟩:p4)) (⟨0,0,0,[]⟩:i5));let t3:=(lp (z8 (⟨(rt (tLs tP) (rt (tLs tP) x)),(↑(List.length (rt (tLs tP) x)):Int)⟩:p4)) (⟨1,0,0,(List.replicate t1.2.is3.toNat mc8)⟩:i5));(sl ((cnE (tLs tP) x)&&((cnE (tLs tP) x)&&true)) (sl (Nat.beq t1.1 1) (sl (t1.2.is3==0) (sl ((cnE (tLs tP) (rt (tLs tP) x))&&true) (sl (Nat.beq t2.1 1) (kk ⟨1,0,[]⟩) (sl (Nat.beq t2.1 2) (kk ⟨2,t2.2.ns6,t2.2.eh0⟩) (kk ⟨0,0,[]⟩))) (kk ⟨0,0,[]⟩)) (sl (Bool.and (decide (0 < t1.2.is3)) (Nat.ble (t1.2.is3.toNat*32) room)) (sl ((cnE (tLs tP) (rt (tLs tP) x))&&true) (sl (Nat.beq t3.1 1) (kk ⟨1,0,[]⟩) (sl (Nat.beq t3.1 2) (kk ⟨2,t3.2.ns6,t3.2.eh0⟩) (kk ⟨0,0,[]⟩))) (kk ⟨0,0,[]⟩)) (kk ⟨0,0,[]⟩))) (kk ⟨0,0,[]⟩)) (kk ⟨0,0,[]⟩))
noncomputable def Y9 (x:List (List Pln)):Y8:=I4 (fun r=>r) x
noncomputable def fa9 (r:Y8):DT (a7×List a8):=(.ite (Nat.beq r.alt 1) (.ret ((.v (.slice none 0 0)),[])) (.ite (Nat.beq r.alt 2) (.ret ((.sl 0 0 r.ns0 0),[⟨42,4,r.eh0,true,false,0⟩])) .fail))
theorem db1 {α β:Type} (F:α→β) (kk:Y8→α) (x:List (List Pln)):F (I4 kk x)=I4 (fun r=>F (kk r)) x:=by unfold I4;(repeat' apply A4 (f:=F))<;>rfl
noncomputable def wa9:Sum:=ra8 (Aa8 (tLs tP)) (fun x=>fa9 (Y9 x))
theorem ab0:i7 prog G 52 wa9:=yb2 (bd b52 Va2) fun x=>pd4 (.s .p (.s .p (.s (.s .p (.b (.u ea1.lsM))) (.s .p (.s (.s .p (.b (.u ea2.lsM))) .p))))) [ea1.prM,ea2.prM] (by kernel_rfl) (.cons Sa5 (.cons Sa7 .nil)) (Eq.trans (b:=I4 (fun r=>(fa9 r).run) x) (by kernel_rfl) (db1 (fun r=>(fa9 r).run) (fun r=>r) x).symm)
noncomputable def Gc3:List (Nat×Sum):=[(52,wa9)]
theorem wc8:m9 prog G Gc3:=⟨ab0,trivial⟩
noncomputable def Va3 (x:List (List Pln)):Option (a7×List a8):=let t1:=(Y9 (rt (tLs tP) x));(sl (okE (tLs tP) x) (sl (Nat.beq t1.alt 1) (some ((.sl 0 0 6 0),[⟨42,4,[[(i 1),(i 0),(i 0),(i 24)],[(i (-1)),(i 0),(i 0),(i 24)],[(i 0),(i 1),(i 0),(i 24)],[(i 0),(i (-1)),(i 0),(i 24)],[(i 0),(i 0),(i 1),(i 24)],[(i 0),(i 0),(i (-1)),(i 24)]],true,false,0⟩])) (sl (Nat.beq t1.alt 2) (sl (Nat.beq t1.ns0 (len t1.eh0)&&Nat.ble ((t1.ns0+1)*32) room) (sl (Nat.beq (t1.ns0+1) (len (app t1.eh0 [[(i 1),(i 0),(i 0),(i 24)]]))&&Nat.ble (((t1.ns0+1)+1)*32) room) (sl (Nat.beq ((t1.ns0+1)+1) (len (app (app t1.eh0 [[(i 1),(i 0),(i 0),(i 24)]]) [[(i (-1)),(i 0),(i 0),(i 24)]]))&&Nat.ble ((((t1.ns0+1)+1)+1)*32) room) (sl (Nat.beq (((t1.ns0+1)+1)+1) (len (app (app (app t1.eh0 [[(i 1),(i 0),(i 0),(i 24)]]) [[(i (-1)),(i 0),(i 0),(i 24)]]) [[(i 0),(i 1),(i 0),(i 24)]]))&&Nat.ble (((((t1.ns0+1)+1)+1)+1)*32) room) (sl (Nat.beq ((((t1.ns0+1)+1)+1)+1) (len (app (app (app (app t1.eh0 [[(i 1),(i 0),(i 0),(i 24)]]) [[(i (-1)),(i 0),(i 0),(i 24)]]) [[(i 0),(i 1),(i 0),(i 24)]]) [[(i 0),(i (-1)),(i 0),(i 24)]]))&&Nat.ble ((((((t1.ns0+1)+1)+1)+1)+1)*32) room) (sl (Nat.beq (((((t1.ns0+1)+1)+1)+1)+1) (len (app (app (app (app (app t1.eh0 [[(i 1),(i 0),(i 0),(i 24)]]) [[(i (-1)),(i 0),(i 0),(i 24)]]) [[(i 0),(i 1),(i 0),(i 24)]]) [[(i 0),(i (-1)),(i 0),(i 24)]]) [[(i 0),(i 0),(i 1),(i 24)]]))&&Nat.ble (((((((t1.ns0+1)+1)+1)+1)+1)+1)*32) room) (some ((.sl 0 0 ((((((t1.ns0+1)+1)+1)+1)+1)+1) 0),[⟨42,4,(app (app (app (app (app (app t1.eh0 [[(i 1),(i 0),(i 0),(i 24)]]) [[(i (-1)),(i 0),(i 0),(i 24)]]) [[(i 0),(i 1),(i 0),(i 24)]]) [[(i 0),(i (-1)),(i 0),(i 24)]]) [[(i 0),(i 0),(i 1),(i 24)]]) [[(i 0),(i 0),(i (-1)),(i 24)]]),true,false,0⟩])) none) none) none) none) none) none) none)) none)
noncomputable def ya6 (x:List (List Pln)):List Pln:=fa4 (one (r1L tP)) (Va3 x)
noncomputable def ya7 (x:List (List Pln)):Bool:=okO (one (r1L tP)) (Va3 x)
noncomputable def ob0:Sum:=ra8 (Aa8 (tLs tP)) (fun x=>.guard (ya7 x) (.ret ((one (r1L tP)).enc (ya6 x),[])))
theorem ub0:i7 prog G 27 ob0:=Ua2 (bd b27 wc8) (one (r1L tP)) (o:=Va3) fun x=>D2 (by kernel_rfl)
structure N1 where
 ja6:List (List Pln)
noncomputable def la2:List (Nat×Sum):=[(51,jb5)]
theorem Ha0:m9 prog G la2:=⟨Lb3,trivial⟩
structure F4 where
 ja6:List (List Pln)
 is7:Int
structure l4 where
 is8:Int
noncomputable def Ea0 (p:F4) (s:l4):St:=⟨((eL (tLs tP) p.ja6)::((.fn 51 [])::(ra 5 ((i p.is7)::((i s.is8)::(ra 10 [])))))),[]⟩
noncomputable def B0 {α:Type} (k:l4→α) (e:Nat→α) (z:α) (p:F4) (s:l4):α:=let t1:=(ua9 (rt tP (gL (tLs tP) p.ja6 s.is8.toNat)));(sl (decide (s.is8 < p.is7)) (sl (inB s.is8 (List.length p.ja6)) (sl (okE tP (gL (tLs tP) p.ja6 s.is8.toNat)) (sl (va0 (rt tP (gL (tLs tP) p.ja6 s.is8.toNat))) (sl t1 (e 1) (k ⟨(W (s.is8+1))⟩)) z) z) z) (e 2))
noncomputable def D6 (p:F4) (s:l4):Stp l4:=B0 .next .exit .fail p s
noncomputable def T8:Lo F4 l4:=⟨En la2,0,Ad6,[1,0,1,4,4],[0,1,7,8],.p,[⟨((.s (.c 1 (nL (tLs tP))))::((.s (.o (.fn 51)))::(ru2 5 ((.s (.o (.int .i64)))::((.s (.o (.int .i64)))::(ru2 10 [])))))),[],fun a H=>(⟨(rL (tLs tP) (slT a 0)),(toI (slT a 7))⟩,⟨(toI (slT a 8))⟩)⟩],D6,[(none,fun p s=>⟨[(i s.is8)],[]⟩),(some 0,fun p s=>⟨((eL (tLs tP) p.ja6)::((.fn 51 [])::(ra 5 ((i p.is7)::((i s.is8)::((b (decide (s.is8 < p.is7)))::(ra 9 []))))))),[]⟩)],Ea0⟩
theorem Ea1:T8.Ok:=Lo.ok [] (by kernel_rfl) .nil rfl (.cons (fun a H=>by kernel_rfl) .nil) fun p s=>(.of @B0 (fun F _ _ _ _ _=>by unfold B0;(repeat' apply A4 (f:=F))<;>rfl) (by kernel_rfl))
structure N2 where
 alt:Nat
 is0:Int
noncomputable def C0 {α:Type} (kk:N2→α) (x:N1):α:=let t1:=(lp (D6 (⟨(rt (tLs tP) x.ja6),(↑(List.length x.ja6):Int)⟩:F4)) (⟨0⟩:l4));(sl ((cnE (tLs tP) x.ja6)&&true) (sl (Nat.beq t1.1 1) (kk ⟨1,t1.2.is8⟩) (sl (Nat.beq t1.1 2) (kk ⟨1,(-1)⟩) (kk ⟨0,0⟩))) (kk ⟨0,0⟩))
noncomputable def Z4 (x:N1):N2:=C0 (fun r=>r) x
noncomputable def X3 (x:N1) (r:N2):DT (a7×List a8):=(.ite (Nat.beq r.alt 1) (.ret ((i r.is0),[])) .fail)
theorem Na9 {α β:Type} (F:α→β) (kk:N2→α) (x:N1):F (C0 kk x)=C0 (fun r=>F (kk r)) x:=by unfold C0;(repeat' apply A4 (f:=F))<;>rfl
noncomputable def na7:Sum:=Ja9 ⟨[(.s (.c 1 (nL (tLs tP)))),(.s (.o (.fn 51)))],[],fun a H=>(⟨(rL (tLs tP) (slT a 0))⟩,())⟩ (fun x=>X3 x (Z4 x))
theorem La0:i7 prog G 70 na7:=M5 (enc:=fun x=>⟨[(eL (tLs tP) x.ja6),(.fn 51 [])],[]⟩) (fun a H=>by kernel_rfl) (bd b70 Ha0) fun x=>db0 (.s .p (.s (.s .p (.b (.u T8.ls))) .p)) [T8.pr] (by kernel_rfl) (.cons Ea1 .nil) (Eq.trans (b:=C0 (fun r=>(X3 x r).run) x) (by kernel_rfl) (Na9 (fun r=>(X3 x r).run) (fun r=>r) x).symm)
structure J3 where
 ja6:List (List Pln)
noncomputable def Ba7:List (Nat×Sum):=[(70,na7)]
theorem ya8:m9 prog G Ba7:=⟨La0,trivial⟩
structure J4 where
 alt:Nat
 bs0:Bool
noncomputable def y7 {α:Type} (kk:J4→α) (x:J3):α:=let t1:=(Z4 ⟨(rt (tLs tP) x.ja6)⟩);(sl ((cnE (tLs tP) x.ja6)&&true) (sl (Nat.beq t1.alt 1) (kk ⟨1,(decide (t1.is0≥0))⟩) (kk ⟨0,false⟩)) (kk ⟨0,false⟩))
noncomputable def S4 (x:J3):J4:=y7 (fun r=>r) x
noncomputable def Q7 (x:J3) (r:J4):DT (a7×List a8):=(.ite (Nat.beq r.alt 1) (.ret ((b r.bs0),[])) .fail)
theorem Ea2 {α β:Type} (F:α→β) (kk:J4→α) (x:J3):F (y7 kk x)=y7 (fun r=>F (kk r)) x:=by unfold y7;(repeat' apply A4 (f:=F))<;>rfl
noncomputable def ha2:Sum:=Ja9 ⟨[(.s (.c 1 (nL (tLs tP)))),(.s (.o (.fn 51)))],[],fun a H=>(⟨(rL (tLs tP) (slT a 0))⟩,())⟩ (fun x=>Q7 x (S4 x))
theorem Ba8:i7 prog G 50 ha2:=M5 (enc:=fun x=>⟨[(eL (tLs tP) x.ja6),(.fn 51 [])],[]⟩) (fun a H=>by kernel_rfl) (bd b50 ya8) fun x=>D2 (Eq.trans (b:=y7 (fun r=>(Q7 x r).run) x) (by kernel_rfl) (Ea2 (fun r=>(Q7 x r).run) (fun r=>r) x).symm)
noncomputable def Zb9:List (Nat×Sum):=[(50,ha2)]
theorem Ub6:m9 prog G Zb9:=⟨Ba8,trivial⟩
noncomputable def va1 (x:List (List Pln)):Option (a7×List a8):=let t1:=(S4 ⟨(rt (tLs tP) x)⟩);(sl ((cnE (tLs tP) x)&&true) (sl (Nat.beq t1.alt 1) (some ((b (!t1.bs0)),[])) none) none)
noncomputable def T9 (x:List (List Pln)):Bool:=fa4 (one r1B) (va1 x)
noncomputable def U0 (x:List (List Pln)):Bool:=okO (one r1B) (va1 x)
noncomputable def na4:Sum:=ra8 (Aa8 (tLs tP)) (fun x=>.guard (U0 x) (.ret ((one r1B).enc (T9 x),[])))
theorem pa7:i7 prog G 26 na4:=Ua2 (bd b26 Ub6) (one r1B) (o:=va1) fun x=>D2 (by kernel_rfl)
structure U1 where
 ma3:Int
 ma4:Int
 ma5:Int
 Ma7:Int
 n7:Int
 g7:Int
 n8:Int
 d8:Int
noncomputable def Va4:List (Nat×Sum):=[(32,Qa4)]
theorem Sa8:m9 prog G Va4:=⟨Za4,trivial⟩
structure L5 where
 bs0:Bool
noncomputable def L6 {α:Type} (kk:L5→α) (x:U1):α:=let t1:=(fa5 (⟨(⟨x.n7,x.g7,x.n8⟩:V3),x.d8⟩:Pln) (⟨x.ma3,x.ma4,x.ma5,x.Ma7⟩:Pt));(kk ⟨(decide (t1 > 0))⟩)
noncomputable def ga0 (x:U1):L5:=L6 (fun r=>r) x
noncomputable def ea3 (x:U1) (r:L5):DT (a7×List a8):=.ret ((b r.bs0),[⟨0,4,[[(i x.n7),(i x.g7),(i x.n8),(i x.d8)]],true,false,0⟩])
theorem ab1 {α β:Type} (F:α→β) (kk:L5→α) (x:U1):F (L6 kk x)=L6 (fun r=>F (kk r)) x:=by unfold L6;(repeat' apply A4 (f:=F))<;>rfl
noncomputable def va2:Sum:=Ja9 ⟨[(.agg [(.o (.int .i64)),(.o (.int .i64)),(.o (.int .i64)),(.o (.int .i64))]),(.s (.o (.ptr 0 0 0 0)))],[⟨0,4,true,(some [[(.o (.int .i64)),(.o (.int .i64)),(.o (.int .i64)),(.o (.int .i64))]])⟩],fun a H=>(⟨(toI (slT (cellsOf (slT a 0)) 0)),(toI (slT (cellsOf (slT a 0)) 1)),(toI (slT (cellsOf (slT a 0)) 2)),(toI (slT (cellsOf (slT a 0)) 3)),(toI (slT (rwT (elT H 0) 0) 0)),(toI (slT (rwT (elT H 0) 0) 1)),(toI (slT (rwT (elT H 0) 0) 2)),(toI (slT (rwT (elT H 0) 0) 3))⟩,())⟩ (fun x=>ea3 x (ga0 x))
theorem Va5:i7 prog G 60 va2:=M5 (enc:=fun x=>⟨[(.agg [(i x.ma3),(i x.ma4),(i x.ma5),(i x.Ma7)]),(.ptr 0 0 0 0)],[⟨0,4,[[(i x.n7),(i x.g7),(i x.n8),(i x.d8)]],true,false,0⟩]⟩) (fun a H=>by kernel_rfl) (bd b60 Sa8) fun x=>D2 (Eq.trans (b:=L6 (fun r=>(ea3 x r).run) x) (by kernel_rfl) (ab1 (fun r=>(ea3 x r).run) (fun r=>r) x).symm)
structure P8 where
 H8:List Pt
 n7:Int
 g7:Int
 n8:Int
 d8:Int
noncomputable def na8:List (Nat×Sum):=[(60,va2)]
theorem La1:m9 prog G na8:=⟨Va5,trivial⟩
structure G4 where
 H8:List Pt
 is7:Int
 n7:Int
 g7:Int
 n8:Int
 d8:Int
structure n5 where
 is8:Int
noncomputable def Ha1 (p:G4) (s:n5):St:=⟨((eL tX p.H8)::((.fn 60 [(.ptr 0 0 0 0)])::(ra 5 ((i p.is7)::((i s.is8)::(ra 10 [])))))),[⟨0,4,[[(i p.n7),(i p.g7),(i p.n8),(i p.d8)]],true,false,0⟩]⟩
noncomputable def D7 {α:Type} (k:n5→α) (e:Nat→α) (z:α) (p:G4) (s:n5):α:=let t1:=(ga0 ⟨(gL tX p.H8 s.is8.toNat).px,(gL tX p.H8 s.is8.toNat).py,(gL tX p.H8 s.is8.toNat).pz,(gL tX p.H8 s.is8.toNat).pw,p.n7,p.g7,p.n8,p.d8⟩);(sl (decide (s.is8 < p.is7)) (sl (inB s.is8 (List.length p.H8)) (sl t1.bs0 (e 1) (k ⟨(W (s.is8+1))⟩)) z) (e 2))
noncomputable def F5 (p:G4) (s:n5):Stp n5:=D7 .next .exit .fail p s
noncomputable def X4:Lo G4 n5:=⟨En na8,1,ud0,[1,0,1,4,4],[0,1,7,8],.p,[⟨((.s (.c 4 (nL tX)))::((.fn 60 [(.o (.ptr 0 0 0 0))])::(ru2 5 ((.s (.o (.int .i64)))::((.s (.o (.int .i64)))::(ru2 10 [])))))),[⟨0,4,true,(some [[(.o (.int .i64)),(.o (.int .i64)),(.o (.int .i64)),(.o (.int .i64))]])⟩],fun a H=>(⟨(rL tX (slT a 0)),(toI (slT a 7)),(toI (slT (rwT (elT H 0) 0) 0)),(toI (slT (rwT (elT H 0) 0) 1)),(toI (slT (rwT (elT H 0) 0) 2)),(toI (slT (rwT (elT H 0) 0) 3))⟩,⟨(toI (slT a 8))⟩)⟩],F5,[(none,fun p s=>⟨[(i s.is8)],[⟨0,4,[[(i p.n7),(i p.g7),(i p.n8),(i p.d8)]],true,false,0⟩]⟩),(some 0,fun p s=>⟨((eL tX p.H8)::((.fn 60 [(.ptr 0 0 0 0)])::(ra 5 ((i p.is7)::((i s.is8)::((b (decide (s.is8 < p.is7)))::(ra 9 []))))))),[⟨0,4,[[(i p.n7),(i p.g7),(i p.n8),(i p.d8)]],true,false,0⟩]⟩)],Ha1⟩
theorem Ha2:X4.Ok:=Lo.ok [] (by kernel_rfl) .nil rfl (.cons (fun a H=>by kernel_rfl) .nil) fun p s=>(.of @D7 (fun F _ _ _ _ _=>by unfold D7;(repeat' apply A4 (f:=F))<;>rfl) (by kernel_rfl))
structure P9 where
 alt:Nat
 is0:Int
noncomputable def E2 {α:Type} (kk:P9→α) (x:P8):α:=let t1:=(lp (F5 (⟨(rt tX x.H8),(↑(List.length x.H8):Int),x.n7,x.g7,x.n8,x.d8⟩:G4)) (⟨0⟩:n5));(sl ((cnE tX x.H8)&&true) (sl (Nat.beq t1.1 1) (kk ⟨1,t1.2.is8⟩) (sl (Nat.beq t1.1 2) (kk ⟨1,(-1)⟩) (kk ⟨0,0⟩))) (kk ⟨0,0⟩))
noncomputable def ba8 (x:P8):P9:=E2 (fun r=>r) x
noncomputable def Z5 (x:P8) (r:P9):DT (a7×List a8):=(.ite (Nat.beq r.alt 1) (.ret ((i r.is0),[⟨0,4,[[(i x.n7),(i x.g7),(i x.n8),(i x.d8)]],true,false,0⟩])) .fail)
theorem Sa9 {α β:Type} (F:α→β) (kk:P9→α) (x:P8):F (E2 kk x)=E2 (fun r=>F (kk r)) x:=by unfold E2;(repeat' apply A4 (f:=F))<;>rfl
noncomputable def pa8:Sum:=Ja9 ⟨[(.s (.c 4 (nL tX))),(.fn 60 [(.o (.ptr 0 0 0 0))])],[⟨0,4,true,(some [[(.o (.int .i64)),(.o (.int .i64)),(.o (.int .i64)),(.o (.int .i64))]])⟩],fun a H=>(⟨(rL tX (slT a 0)),(toI (slT (rwT (elT H 0) 0) 0)),(toI (slT (rwT (elT H 0) 0) 1)),(toI (slT (rwT (elT H 0) 0) 2)),(toI (slT (rwT (elT H 0) 0) 3))⟩,())⟩ (fun x=>Z5 x (ba8 x))
theorem Oa0:i7 prog G 61 pa8:=M5 (enc:=fun x=>⟨[(eL tX x.H8),(.fn 60 [(.ptr 0 0 0 0)])],[⟨0,4,[[(i x.n7),(i x.g7),(i x.n8),(i x.d8)]],true,false,0⟩]⟩) (fun a H=>by kernel_rfl) (bd b61 La1) fun x=>db0 (.s .p (.s (.s .p (.b (.u X4.ls))) .p)) [X4.pr] (by kernel_rfl) (.cons Ha2 .nil) (Eq.trans (b:=E2 (fun r=>(Z5 x r).run) x) (by kernel_rfl) (Sa9 (fun r=>(Z5 x r).run) (fun r=>r) x).symm)
structure K7 where
 H8:List Pt
 n7:Int
 g7:Int
 n8:Int
 d8:Int
noncomputable def Ea3:List (Nat×Sum):=[(61,pa8)]
theorem Ba9:m9 prog G Ea3:=⟨Oa0,trivial⟩
structure K8 where
 alt:Nat
 bs0:Bool
noncomputable def A1 {α:Type} (kk:K8→α) (x:K7):α:=let t1:=(ba8 ⟨(rt tX x.H8),x.n7,x.g7,x.n8,x.d8⟩);(sl ((cnE tX x.H8)&&true) (sl (Nat.beq t1.alt 1) (kk ⟨1,(decide (t1.is0≥0))⟩) (kk ⟨0,false⟩)) (kk ⟨0,false⟩))
noncomputable def U2 (x:K7):K8:=A1 (fun r=>r) x
noncomputable def S5 (x:K7) (r:K8):DT (a7×List a8):=(.ite (Nat.beq r.alt 1) (.ret ((b r.bs0),[⟨0,4,[[(i x.n7),(i x.g7),(i x.n8),(i x.d8)]],true,false,0⟩])) .fail)
theorem Ha3 {α β:Type} (F:α→β) (kk:K8→α) (x:K7):F (A1 kk x)=A1 (fun r=>F (kk r)) x:=by unfold A1;(repeat' apply A4 (f:=F))<;>rfl
noncomputable def ja9:Sum:=Ja9 ⟨[(.s (.c 4 (nL tX))),(.fn 60 [(.o (.ptr 0 0 0 0))])],[⟨0,4,true,(some [[(.o (.int .i64)),(.o (.int .i64)),(.o (.int .i64)),(.o (.int .i64))]])⟩],fun a H=>(⟨(rL tX (slT a 0)),(toI (slT (rwT (elT H 0) 0) 0)),(toI (slT (rwT (elT H 0) 0) 1)),(toI (slT (rwT (elT H 0) 0) 2)),(toI (slT (rwT (elT H 0) 0) 3))⟩,())⟩ (fun x=>S5 x (U2 x))
theorem Ea4:i7 prog G 37 ja9:=M5 (enc:=fun x=>⟨[(eL tX x.H8),(.fn 60 [(.ptr 0 0 0 0)])],[⟨0,4,[[(i x.n7),(i x.g7),(i x.n8),(i x.d8)]],true,false,0⟩]⟩) (fun a H=>by kernel_rfl) (bd b37 Ba9) fun x=>D2 (Eq.trans (b:=A1 (fun r=>(S5 x r).run) x) (by kernel_rfl) (Ha3 (fun r=>(S5 x r).run) (fun r=>r) x).symm)
structure ba0 where
 ma3:Int
 ma4:Int
 ma5:Int
 Ma7:Int
 i6:List Pt
noncomputable def db2:List (Nat×Sum):=[(37,ja9)]
theorem ab2:m9 prog G db2:=⟨Ea4,trivial⟩
structure Q8 where
 alt:Nat
 bs0:Bool
noncomputable def K5 {α:Type} (kk:Q8→α) (x:ba0):α:=let t1:=(U2 ⟨(rt tX x.i6),x.ma3,x.ma4,x.ma5,x.Ma7⟩);(sl ((cnE tX x.i6)&&true) (sl (Nat.beq t1.alt 1) (kk ⟨1,(!t1.bs0)⟩) (kk ⟨0,false⟩)) (kk ⟨0,false⟩))
noncomputable def ba1 (x:ba0):Q8:=K5 (fun r=>r) x
noncomputable def ja4 (x:ba0) (r:Q8):DT (a7×List a8):=(.ite (Nat.beq r.alt 1) (.ret ((b r.bs0),[⟨0,1,[[(eL tX x.i6)]],true,false,0⟩])) .fail)
theorem jb7 {α β:Type} (F:α→β) (kk:Q8→α) (x:ba0):F (K5 kk x)=K5 (fun r=>F (kk r)) x:=by unfold K5;(repeat' apply A4 (f:=F))<;>rfl
noncomputable def Ca0:Sum:=Ja9 ⟨[(.agg [(.o (.int .i64)),(.o (.int .i64)),(.o (.int .i64)),(.o (.int .i64))]),(.s (.o (.ptr 0 0 0 0)))],[⟨0,1,true,(some [[(.c 4 (nL tX))]])⟩],fun a H=>(⟨(toI (slT (cellsOf (slT a 0)) 0)),(toI (slT (cellsOf (slT a 0)) 1)),(toI (slT (cellsOf (slT a 0)) 2)),(toI (slT (cellsOf (slT a 0)) 3)),(rL tX (slT (rwT (elT H 0) 0) 0))⟩,())⟩ (fun x=>ja4 x (ba1 x))
theorem db3:i7 prog G 59 Ca0:=M5 (enc:=fun x=>⟨[(.agg [(i x.ma3),(i x.ma4),(i x.ma5),(i x.Ma7)]),(.ptr 0 0 0 0)],[⟨0,1,[[(eL tX x.i6)]],true,false,0⟩]⟩) (fun a H=>by kernel_rfl) (bd b59 ab2) fun x=>D2 (Eq.trans (b:=K5 (fun r=>(ja4 x r).run) x) (by kernel_rfl) (jb7 (fun r=>(ja4 x r).run) (fun r=>r) x).symm)
structure N3 where
 w9:List Pln
 i6:List Pt
noncomputable def la3:List (Nat×Sum):=[(59,Ca0)]
theorem Ha4:m9 prog G la3:=⟨db3,trivial⟩
structure F6 where
 w9:List Pln
 is7:Int
structure l5 where
 is8:Int
 i6:List Pt
noncomputable def Ea5 (p:F6) (s:l5):St:=⟨((eL tP p.w9)::((.fn 59 [(.ptr 0 0 0 0)])::(ra 5 ((i p.is7)::((i s.is8)::(ra 10 [])))))),[⟨0,1,[[(eL tX s.i6)]],true,false,0⟩]⟩
noncomputable def B1 {α:Type} (k:l5→α) (e:Nat→α) (z:α) (p:F6) (s:l5):α:=let t1:=(ba1 ⟨(gL tP p.w9 s.is8.toNat).n.x,(gL tP p.w9 s.is8.toNat).n.y,(gL tP p.w9 s.is8.toNat).n.z,(gL tP p.w9 s.is8.toNat).b,(rt tX s.i6)⟩);(sl (decide (s.is8 < p.is7)) (sl (inB s.is8 (List.length p.w9)) (sl ((cnE tX s.i6)&&true) (sl (Nat.beq t1.alt 1) (sl t1.bs0 (e 1) (k ⟨(W (s.is8+1)),(rt tX s.i6)⟩)) z) z) z) (e 2))
noncomputable def D8 (p:F6) (s:l5):Stp l5:=B1 .next .exit .fail p s
noncomputable def U3:Lo F6 l5:=⟨En la3,1,Ad8,[1,0,1,4,4],[0,1,7,8],.p,[⟨((.s (.c 4 (nL tP)))::((.fn 59 [(.o (.ptr 0 0 0 0))])::(ru2 5 ((.s (.o (.int .i64)))::((.s (.o (.int .i64)))::(ru2 10 [])))))),[⟨0,1,true,(some [[(.c 4 (nL tX))]])⟩],fun a H=>(⟨(rL tP (slT a 0)),(toI (slT a 7))⟩,⟨(toI (slT a 8)),(rL tX (slT (rwT (elT H 0) 0) 0))⟩)⟩],D8,[(none,fun p s=>⟨[(i s.is8)],[⟨0,1,[[(eL tX (rt tX s.i6))]],true,false,0⟩]⟩),(some 0,fun p s=>⟨((eL tP p.w9)::((.fn 59 [(.ptr 0 0 0 0)])::(ra 5 ((i p.is7)::((i s.is8)::((b (decide (s.is8 < p.is7)))::(ra 9 []))))))),[⟨0,1,[[(eL tX s.i6)]],true,false,0⟩]⟩)],Ea5⟩
theorem Ea6:U3.Ok:=Lo.ok [] (by kernel_rfl) .nil rfl (.cons (fun a H=>by kernel_rfl) .nil) fun p s=>(.of @B1 (fun F _ _ _ _ _=>by unfold B1;(repeat' apply A4 (f:=F))<;>rfl) (by kernel_rfl))
structure N4 where
 alt:Nat
 is0:Int
 i6:List Pt
noncomputable def C3 {α:Type} (kk:N4→α) (x:N3):α:=let t1:=(lp (D8 (⟨(rt tP x.w9),(↑(List.length x.w9):Int)⟩:F6)) (⟨0,(rt tX x.i6)⟩:l5));(sl ((cnE tP x.w9)&&((cnE tX x.i6)&&true)) (sl (Nat.beq t1.1 1) (kk ⟨1,t1.2.is8,(rt tX t1.2.i6)⟩) (sl (Nat.beq t1.1 2) (kk ⟨1,(-1),t1.2.i6⟩) (kk ⟨0,0,[]⟩))) (kk ⟨0,0,[]⟩))
noncomputable def Z6 (x:N3):N4:=C3 (fun r=>r) x
noncomputable def X5 (x:N3) (r:N4):DT (a7×List a8):=(.ite (Nat.beq r.alt 1) (.ret ((i r.is0),[⟨0,1,[[(eL tX r.i6)]],true,false,0⟩])) .fail)
theorem Oa1 {α β:Type} (F:α→β) (kk:N4→α) (x:N3):F (C3 kk x)=C3 (fun r=>F (kk r)) x:=by unfold C3;(repeat' apply A4 (f:=F))<;>rfl
noncomputable def na9:Sum:=Ja9 ⟨[(.s (.c 4 (nL tP))),(.fn 59 [(.o (.ptr 0 0 0 0))])],[⟨0,1,true,(some [[(.c 4 (nL tX))]])⟩],fun a H=>(⟨(rL tP (slT a 0)),(rL tX (slT (rwT (elT H 0) 0) 0))⟩,())⟩ (fun x=>X5 x (Z6 x))
theorem La2:i7 prog G 85 na9:=M5 (enc:=fun x=>⟨[(eL tP x.w9),(.fn 59 [(.ptr 0 0 0 0)])],[⟨0,1,[[(eL tX x.i6)]],true,false,0⟩]⟩) (fun a H=>by kernel_rfl) (bd b85 Ha4) fun x=>db0 (.s .p (.s (.s .p (.b (.u U3.ls))) .p)) [U3.pr] (by kernel_rfl) (.cons Ea6 .nil) (Eq.trans (b:=C3 (fun r=>(X5 x r).run) x) (by kernel_rfl) (Oa1 (fun r=>(X5 x r).run) (fun r=>r) x).symm)
structure J5 where
 w9:List Pln
 i6:List Pt
noncomputable def Ca1:List (Nat×Sum):=[(85,na9)]
theorem ya9:m9 prog G Ca1:=⟨La2,trivial⟩
structure J6 where
 alt:Nat
 bs0:Bool
 i6:List Pt
noncomputable def y8 {α:Type} (kk:J6→α) (x:J5):α:=let t1:=(Z6 ⟨(rt tP x.w9),(rt tX x.i6)⟩);(sl ((cnE tP x.w9)&&((cnE tX x.i6)&&true)) (sl (Nat.beq t1.alt 1) (kk ⟨1,(decide (t1.is0≥0)),t1.i6⟩) (kk ⟨0,false,[]⟩)) (kk ⟨0,false,[]⟩))
noncomputable def S6 (x:J5):J6:=y8 (fun r=>r) x
noncomputable def Q9 (x:J5) (r:J6):DT (a7×List a8):=(.ite (Nat.beq r.alt 1) (.ret ((b r.bs0),[⟨0,1,[[(eL tX r.i6)]],true,false,0⟩])) .fail)
theorem Ea7 {α β:Type} (F:α→β) (kk:J6→α) (x:J5):F (y8 kk x)=y8 (fun r=>F (kk r)) x:=by unfold y8;(repeat' apply A4 (f:=F))<;>rfl
noncomputable def ha3:Sum:=Ja9 ⟨[(.s (.c 4 (nL tP))),(.fn 59 [(.o (.ptr 0 0 0 0))])],[⟨0,1,true,(some [[(.c 4 (nL tX))]])⟩],fun a H=>(⟨(rL tP (slT a 0)),(rL tX (slT (rwT (elT H 0) 0) 0))⟩,())⟩ (fun x=>Q9 x (S6 x))
theorem Ca2:i7 prog G 58 ha3:=M5 (enc:=fun x=>⟨[(eL tP x.w9),(.fn 59 [(.ptr 0 0 0 0)])],[⟨0,1,[[(eL tX x.i6)]],true,false,0⟩]⟩) (fun a H=>by kernel_rfl) (bd b58 ya9) fun x=>D2 (Eq.trans (b:=y8 (fun r=>(Q9 x r).run) x) (by kernel_rfl) (Ea7 (fun r=>(Q9 x r).run) (fun r=>r) x).symm)
noncomputable def pb1:List (Nat×Sum):=[(28,ja3),(58,ha3)]
theorem jb8:m9 prog G pb1:=⟨ua3,Ca2,trivial⟩
noncomputable def X6 (x:List Pln):Option (a7×List a8):=let t1:=(O5 (rt tP x));let t2:=(S6 ⟨(rt tP x),(rt tX t1)⟩);(sl (okE tP x) (sl (O6 (rt tP x)) (sl ((cnE tP x)&&((cnE tX t1)&&true)) (sl (Nat.beq t2.alt 1) (some ((b (!t2.bs0)),[])) none) none) none) none)
noncomputable def X7 (x:List Pln):Bool:=fa4 (one r1B) (X6 x)
noncomputable def X8 (x:List Pln):Bool:=okO (one r1B) (X6 x)
noncomputable def sa0:Sum:=ra8 (Aa8 tP) (fun x=>.guard (X8 x) (.ret ((one r1B).enc (X7 x),[])))
theorem Fa9:i7 prog G 36 sa0:=Ua2 (bd b36 jb8) (one r1B) (o:=X6) fun x=>D2 (by kernel_rfl)
noncomputable def Ub7:List (Nat×Sum):=[(26,na4),(27,ob0),(28,ja3)]
theorem Lb4:m9 prog G Ub7:=⟨pa7,ub0,ua3,trivial⟩
noncomputable def pa9 (x:List Pln):Option (a7×List a8):=let t1:=(T9 [(rt tP x)]);let t2:=(ya6 [(rt tP x)]);let t3:=(O5 (rt tP t2));(sl ((okE tP x)&&true) (sl (U0 [(rt tP x)]) (sl (!t1) (some ((.v (.slice none 0 0)),[])) (sl ((okE tP x)&&true) (sl (ya7 [(rt tP x)]) (sl (okE tP t2) (sl (O6 (rt tP t2)) (some ((eL tX t3),[])) none) none) none) none)) none) none)
noncomputable def V9 (x:List Pln):List Pt:=fa4 (one (r1L tX)) (pa9 x)
noncomputable def W0 (x:List Pln):Bool:=okO (one (r1L tX)) (pa9 x)
noncomputable def qa0:Sum:=ra8 (Aa8 tP) (fun x=>.guard (W0 x) (.ret ((one (r1L tX)).enc (V9 x),[])))
theorem va3:i7 prog G 9 qa0:=Ua2 (bd b9 Lb4) (one (r1L tX)) (o:=pa9) fun x=>D2 (by kernel_rfl)
noncomputable def mc9:List (Nat×Sum):=[(26,na4),(27,ob0),(36,sa0)]
theorem ac0:m9 prog G mc9:=⟨pa7,ub0,Fa9,trivial⟩
noncomputable def Ca3 (x:List Pln):Option (a7×List a8):=let t1:=(T9 [(rt tP x)]);let t2:=(ya6 [(rt tP x)]);let t3:=(X7 (rt tP t2));(sl ((okE tP x)&&true) (sl (U0 [(rt tP x)]) (sl t1 (sl ((okE tP x)&&true) (sl (ya7 [(rt tP x)]) (sl (okE tP t2) (sl (X8 (rt tP t2)) (some ((b t3),[])) none) none) none) none) (some ((b false),[]))) none) none)
noncomputable def W4 (x:List Pln):Bool:=fa4 (one r1B) (Ca3 x)
noncomputable def M1 (x:List Pln):Bool:=okO (one r1B) (Ca3 x)
noncomputable def sa7:Sum:=ra8 (Aa8 tP) (fun x=>.guard (M1 x) (.ret ((one r1B).enc (W4 x),[])))
theorem va4:i7 prog G 20 sa7:=Ua2 (bd b20 ac0) (one r1B) (o:=Ca3) fun x=>D2 (by kernel_rfl)
noncomputable def ac4:List (Nat×Sum):=[]
theorem Ub8:m9 prog G ac4:=trivial
noncomputable def va5 (x:Int) (y:Int):Option (a7×List a8):=(sl (y==0) none (sl (y==0) none (sl (decide ((Int.tmod x y) < 0)) (some ((i (W ((W (Int.tdiv x y)) - 1))),[])) (some ((i (W (Int.tdiv x y))),[])))))
noncomputable def U4 (x:Int) (y:Int):Int:=fa4 (one r1I) (va5 x y)
noncomputable def U5 (x:Int) (y:Int):Bool:=okO (one r1I) (va5 x y)
noncomputable def Ab1:Sum:=pa0 cI cI (fun x y=>.guard (U5 x y) (.ret ((one r1I).enc (U4 x y),[])))
theorem ac5:i7 prog G 25 Ab1:=Eb4 (bd b25 Ub8) (one r1I) (o:=va5) fun x y=>D2 (by kernel_rfl)
noncomputable def qb8:List (Nat×Sum):=[(20,sa7),(24,Za3),(9,qa0),(25,Ab1)]
theorem Ub9:m9 prog G qb8:=⟨va4,qb6,va3,ac5,trivial⟩
structure la4 where
 P1:List Pt
 od4:Int
structure R2 where
 Y5:Int
 Z0:Int
 Z1:Int
 Z2:Int
 Cb8:Int
 Cb9:Int
 Db0:Int
noncomputable def Lb5 (p:la4) (s:R2):St:=⟨(.unk::(.unk::((.ptr 0 0 0 0)::((.ptr 1 0 0 0)::(.unk::((.ptr 2 0 0 0)::((.ptr 3 0 0 0)::(ra 11 ((eL tX p.P1)::((i p.od4)::((i s.Y5)::(ra 62 [])))))))))))),[⟨0,3,[[(i 0),(i 0),(i 0)]],true,false,0⟩,⟨0,3,[[(i 0),(i 0),(i 0)]],true,false,0⟩,⟨0,3,[[(i s.Z0),(i s.Z1),(i s.Z2)]],true,false,0⟩,⟨0,3,[[(i s.Cb8),(i s.Cb9),(i s.Db0)]],true,false,0⟩]⟩
noncomputable def ea4 {α:Type} (k:R2→α) (e:Nat→α) (z:α) (p:la4) (s:R2):α:=let t1:=(U4 (gL tX p.P1 s.Y5.toNat).px (gL tX p.P1 s.Y5.toNat).pw);let t2:=(U4 (gL tX p.P1 s.Y5.toNat).py (gL tX p.P1 s.Y5.toNat).pw);let t3:=(U4 (gL tX p.P1 s.Y5.toNat).pz (gL tX p.P1 s.Y5.toNat).pw);let t4:=(U4 (W (0 - (gL tX p.P1 s.Y5.toNat).px)) (gL tX p.P1 s.Y5.toNat).pw);let t5:=(U4 (W (0 - (gL tX p.P1 s.Y5.toNat).py)) (gL tX p.P1 s.Y5.toNat).pw);let t6:=(U4 (W (0 - (gL tX p.P1 s.Y5.toNat).pz)) (gL tX p.P1 s.Y5.toNat).pw);(sl (decide (s.Y5 < p.od4)) (sl (inB s.Y5 (List.length p.P1)) (sl (U5 (gL tX p.P1 s.Y5.toNat).px (gL tX p.P1 s.Y5.toNat).pw) (sl (U5 (gL tX p.P1 s.Y5.toNat).py (gL tX p.P1 s.Y5.toNat).pw) (sl (U5 (gL tX p.P1 s.Y5.toNat).pz (gL tX p.P1 s.Y5.toNat).pw) (sl (U5 (W (0 - (gL tX p.P1 s.Y5.toNat).px)) (gL tX p.P1 s.Y5.toNat).pw) (sl (U5 (W (0 - (gL tX p.P1 s.Y5.toNat).py)) (gL tX p.P1 s.Y5.toNat).pw) (sl (U5 (W (0 - (gL tX p.P1 s.Y5.toNat).pz)) (gL tX p.P1 s.Y5.toNat).pw) (k ⟨(W (s.Y5+1)),(if t1 < s.Z0 then t1 else s.Z0),(if t2 < s.Z1 then t2 else s.Z1),(if t3 < s.Z2 then t3 else s.Z2),(if (W (0 - t4)) > s.Cb8 then (W (0 - t4)) else s.Cb8),(if (W (0 - t5)) > s.Cb9 then (W (0 - t5)) else s.Cb9),(if (W (0 - t6)) > s.Db0 then (W (0 - t6)) else s.Db0)⟩) z) z) z) z) z) z) z) (e 1))
noncomputable def aa0 (p:la4) (s:R2):Stp R2:=ea4 .next .exit .fail p s
noncomputable def La3:Lo la4 R2:=⟨En qb8,0,pf8,[1,1,1,1,0,1,4,4],[2,3,5,6,18,19,20],.p,[⟨((.s (.o .unk))::((.s (.o .unk))::((.s (.o (.ptr 0 0 0 0)))::((.s (.o (.ptr 1 0 0 0)))::((.s (.o .unk))::((.s (.o (.ptr 2 0 0 0)))::((.s (.o (.ptr 3 0 0 0)))::(ru2 11 ((.s (.c 4 (nL tX)))::((.s (.o (.int .i64)))::((.s (.o (.int .i64)))::(ru2 62 [])))))))))))),[⟨0,3,true,(some [[(.o (.lit .i64 0)),(.o (.lit .i64 0)),(.o (.lit .i64 0))]])⟩,⟨0,3,true,(some [[(.o (.lit .i64 0)),(.o (.lit .i64 0)),(.o (.lit .i64 0))]])⟩,⟨0,3,true,(some [[(.o (.int .i64)),(.o (.int .i64)),(.o (.int .i64))]])⟩,⟨0,3,true,(some [[(.o (.int .i64)),(.o (.int .i64)),(.o (.int .i64))]])⟩],fun a H=>(⟨(rL tX (slT a 18)),(toI (slT a 19))⟩,⟨(toI (slT a 20)),(toI (slT (rwT (elT H 2) 0) 0)),(toI (slT (rwT (elT H 2) 0) 1)),(toI (slT (rwT (elT H 2) 0) 2)),(toI (slT (rwT (elT H 3) 0) 0)),(toI (slT (rwT (elT H 3) 0) 1)),(toI (slT (rwT (elT H 3) 0) 2))⟩)⟩],aa0,[(some 0,fun p s=>⟨(.unk::(.unk::((.ptr 0 0 0 0)::((.ptr 1 0 0 0)::(.unk::((.ptr 2 0 0 0)::((.ptr 3 0 0 0)::(ra 11 ((eL tX p.P1)::((i p.od4)::((i s.Y5)::((b (decide (s.Y5 < p.od4)))::(ra 61 []))))))))))))),[⟨0,3,[[(i 0),(i 0),(i 0)]],true,false,0⟩,⟨0,3,[[(i 0),(i 0),(i 0)]],true,false,0⟩,⟨0,3,[[(i s.Z0),(i s.Z1),(i s.Z2)]],true,false,0⟩,⟨0,3,[[(i s.Cb8),(i s.Cb9),(i s.Db0)]],true,false,0⟩]⟩)],Lb5⟩
theorem Lb6:La3.Ok:=Lo.ok [] (by kernel_rfl) .nil rfl (.cons (fun a H=>by kernel_rfl) .nil) fun p s=>(.of @ea4 (fun F _ _ _ _ _=>by unfold ea4;(repeat' apply A4 (f:=F))<;>rfl) (by kernel_rfl))
noncomputable def va6 (x:List Pln):Option (a7×List a8):=let t1:=(W4 (rt tP x));let t2:=(L4 (⟨24,24,24⟩:V3) (-1));let t3:=(V9 (rt tP x));let t4:=(lp (aa0 (⟨(rt tX t3),(↑(List.length t3):Int)⟩:la4)) (⟨0,24,24,24,t2.x,t2.y,t2.z⟩:R2));(sl (okE tP x) (sl (M1 (rt tP x)) (sl (!t1) (some ((.tup [(.agg [(i 0),(i 0),(i 0)]),(.agg [(i 0),(i 0),(i 0)]),(b false)]),[])) (sl (okE tP x) (sl (W0 (rt tP x)) (sl ((cnE tX t3)&&true) (sl (Nat.beq t4.1 1) (some ((.tup [(.agg [(i t4.2.Z0),(i t4.2.Z1),(i t4.2.Z2)]),(.agg [(i t4.2.Cb8),(i t4.2.Cb9),(i t4.2.Db0)]),(b true)]),[])) none) none) none) none)) none) none)
noncomputable def Ha5 (x:List Pln):V3×V3×Bool:=fa4 (tc8 r1V r1V r1B) (va6 x)
noncomputable def Ha6 (x:List Pln):Bool:=okO (tc8 r1V r1V r1B) (va6 x)
noncomputable def Ab2:Sum:=ra8 (Aa8 tP) (fun x=>.guard (Ha6 x) (.ret ((tc8 r1V r1V r1B).enc (Ha5 x),[])))
theorem ac6:i7 prog G 8 Ab2:=Ua2 (bd b8 Ub9) (tc8 r1V r1V r1B) (o:=va6) fun x=>db0 (.s .p (.s .p (.s .p (.s .p (.s (.s .p (.b (.u La3.ls))) .p))))) [La3.pr] (by kernel_rfl) (.cons Lb6 .nil) (by kernel_rfl)
end Go.Ev.Ce
end
namespace Go.Ev.Ce
open Go Go.Ev Go.Ev.L Go.Proofs
theorem Sc4 (P:na2) (g n:Int) (hn:n.natAbs≤9223372036854775808):lp (pa1 P) ⟨g,n⟩=(1,⟨eu g n,0⟩) :=
 id6 (mk:=fun g n=>(⟨g,n⟩:aa6)) (fun g n h=>by simp[pa1,ka5,Ya3,h]) (fun g=>by simp[pa1,ka5,Ya3]) g n hn
theorem Sc5 (l:List Int) (hl:l.length≤1000000000) (hb:∀ x∈l,x.natAbs≤9223372036854775808):lp (ia4 ⟨(l.length:Int)⟩) ⟨0,l,0⟩=(1,⟨l.foldl eu 0,l,l.length⟩):=by
 have := Nb6 (step := ia4 ⟨(l.length : Int)⟩) (mk := fun j a => (⟨a, l, (j : Int)⟩ : aa7)) (f := eu) (fin := 1) tI l (fun _ _ => True) hl (fun j a hj _ => ⟨by
   simp only[ia4,ka6,Int.toNat_natCast,E5,G3,Sc4 _ _ _ (hb _ (lc2 tI hj)),M3 hj (by omega)]
   rw[bt (Sb6 hj),bt (q8 hj)]
   rfl,trivial⟩) (fun a _=>by simp[ia4,ka6,Ya3]) 0 (Nat.zero_le _) 0 trivial
 simpa using this.1
theorem Ab3:∀ (l:List Int) (g:Int),(l.foldl eu g).natAbs=l.foldl (fun a x=>Nat.gcd a x.natAbs) g.natAbs
 | [],_=>rfl
 | x::l,g=>by rw[List.foldl_cons,Ab3 l,List.foldl_cons,Wc8];rfl
theorem ud3 (l:List Int) (hl:l.length≤1000000000) (hb:∀ x∈l,x.natAbs≤9223372036854775807) (h0:(l.foldl eu 0).natAbs≤9223372036854775807):Ka5 l=some (i ((l.foldl eu 0).natAbs:Int),[]):=by
 unfold Ka5
 simp only[E5,G3,Sc5 l hl (fun x hx=>Nat.le_succ_of_le (hb x hx))]
 generalize l.foldl eu 0=e at *
 have:W (0 - e)=-e:=by rw[da1 (by omega) (by omega)];omega
 rw[this]
 show some (i (if -e > e then -e else e),[])=_
 congr 3
 split<;>omega
noncomputable def rm (p:Pln) (x:Pt):Int:=W (p.b*x.pw - (p.n.x*x.px+p.n.y*x.py+p.n.z*x.pz))
theorem nc0 (p:Pln) (x:Pt):fa5 p x=rm p x:=by
 unfold fa5 aa5 rm
 simp only[hb8,Sb5,lc1,Ec7]
structure Bd (p:Pln):Prop where
 x1:-4608≤p.n.x
 x2:p.n.x≤4608
 y1:-4608≤p.n.y
 y2:p.n.y≤4608
 z1:-4608≤p.n.z
 z2:p.n.z≤4608
 b1:-2097152≤p.b
 b2:p.b≤2097152
def mv (p q r:Pln):V3 :=
 ⟨(o5 q.n r.n).x*p.b+(o5 r.n p.n).x*q.b+(o5 p.n q.n).x*r.b,
  (o5 q.n r.n).y*p.b+(o5 r.n p.n).y*q.b+(o5 p.n q.n).y*r.b,
  (o5 q.n r.n).z*p.b+(o5 r.n p.n).z*q.b+(o5 p.n q.n).z*r.b⟩
def gc (v:V3) (w:Int):Int:=(Nat.gcd (Nat.gcd v.x.natAbs v.y.natAbs) (Nat.gcd v.z.natAbs w.natAbs):Nat)
def mpt (p q r:Pln):Pt×Bool :=
 if mw p q r=0 then (⟨0,0,0,0⟩,false)
 else if mw p q r < 0 then (⟨Int.tdiv (-(mv p q r).x) (gc (mv p q r) (mw p q r)),Int.tdiv (-(mv p q r).y) (gc (mv p q r) (mw p q r)),Int.tdiv (-(mv p q r).z) (gc (mv p q r) (mw p q r)),Int.tdiv (-(mw p q r)) (gc (mv p q r) (mw p q r))⟩,true)
 else (⟨Int.tdiv (mv p q r).x (gc (mv p q r) (mw p q r)),Int.tdiv (mv p q r).y (gc (mv p q r) (mw p q r)),Int.tdiv (mv p q r).z (gc (mv p q r) (mw p q r)),Int.tdiv (mw p q r) (gc (mv p q r) (mw p q r))⟩,true)
def Sm (n:Int) (x:Int):Prop:=-n≤x∧x≤n
theorem Ab4 {a b:V3} (ha:Sm 4608 a.x∧Sm 4608 a.y∧Sm 4608 a.z) (hb:Sm 4608 b.x∧Sm 4608 b.y∧Sm 4608 b.z):Sm 42467328 (o5 a b).x∧Sm 42467328 (o5 a b).y∧Sm 42467328 (o5 a b).z:=by
 obtain⟨⟨a1,a2⟩,⟨a3,a4⟩,a5,a6⟩:=ha
 obtain⟨⟨b1,b2⟩,⟨b3,b4⟩,b5,b6⟩:=hb
 have h1:=mb a3 a4 b5 b6;have h2:=mb a5 a6 b3 b4;have h3:=mb a5 a6 b1 b2;have h4:=mb a1 a2 b5 b6;have h5:=mb a1 a2 b3 b4;have h6:=mb a3 a4 b1 b2
 unfold Sm o5
 simp only
 omega
theorem Bd.n {p:Pln} (h:Bd p):Sm 4608 p.n.x∧Sm 4608 p.n.y∧Sm 4608 p.n.z:=⟨⟨h.x1,h.x2⟩,⟨h.y1,h.y2⟩,h.z1,h.z2⟩
theorem pd5 {p q r:Pln} (hp:Bd p) (hq:Bd q) (hr:Bd r):Sm 600000000000 (mw p q r):=by
 obtain⟨⟨c1,c2⟩,⟨c3,c4⟩,c5,c6⟩:=Ab4 hq.n hr.n
 have h1:=mb hp.x1 hp.x2 c1 c2;have h2:=mb hp.y1 hp.y2 c3 c4;have h3:=mb hp.z1 hp.z2 c5 c6
 unfold Sm mw dot
 omega
theorem pd6 {p q r:Pln} (hp:Bd p) (hq:Bd q) (hr:Bd r):Sm 300000000000000 (mv p q r).x∧Sm 300000000000000 (mv p q r).y∧Sm 300000000000000 (mv p q r).z:=by
 obtain⟨⟨c1,c2⟩,⟨c3,c4⟩,c5,c6⟩:=Ab4 hq.n hr.n
 obtain⟨⟨d1,d2⟩,⟨d3,d4⟩,d5,d6⟩:=Ab4 hr.n hp.n
 obtain⟨⟨e1,e2⟩,⟨e3,e4⟩,e5,e6⟩:=Ab4 hp.n hq.n
 have a1:=mb c1 c2 hp.b1 hp.b2;have a2:=mb c3 c4 hp.b1 hp.b2;have a3:=mb c5 c6 hp.b1 hp.b2
 have b1:=mb d1 d2 hq.b1 hq.b2;have b2:=mb d3 d4 hq.b1 hq.b2;have b3:=mb d5 d6 hq.b1 hq.b2
 have f1:=mb e1 e2 hr.b1 hr.b2;have f2:=mb e3 e4 hr.b1 hr.b2;have f3:=mb e5 e6 hr.b1 hr.b2
 unfold Sm mv
 simp only
 omega
theorem Nb9 (a b:V3):L0 a b=⟨W (o5 a b).x,W (o5 a b).y,W (o5 a b).z⟩:=by
 unfold L0 o5
 simp only[lc1,Ec7]
theorem kd3 (a b:V3):Aa9 a b=⟨W (o5 a b).x,W (o5 a b).y,W (o5 a b).z⟩:=by
 unfold Aa9 o5
 simp only[lc1,Ec7]
theorem ud4 (p q r:Pln):dot r.n (o5 p.n q.n)=mw p q r:=by unfold mw dot o5;grind
theorem Id7 (a b c d:Nat):[a,b,c,d].foldl Nat.gcd 0=Nat.gcd (Nat.gcd a b) (Nat.gcd c d):=by
 simp only[List.foldl_cons,List.foldl_nil,Nat.gcd_zero_left]
 rw[Nat.gcd_assoc]
theorem nc1 {v:V3} {w:Int} (h:w≠0):0 < gc v w:=by
 unfold gc
 have:0 < Nat.gcd v.z.natAbs w.natAbs:=Nat.gcd_pos_of_pos_right _ (by omega)
 have:=Nat.gcd_pos_of_pos_right (Nat.gcd v.x.natAbs v.y.natAbs) this
 omega
theorem pd7 {v:V3} {w:Int} (h:w≠0):gc v w≤w.natAbs:=by
 unfold gc
 have h1:Nat.gcd v.z.natAbs w.natAbs≤w.natAbs:=Nat.gcd_le_right _ (by omega)
 have h2:0 < Nat.gcd v.z.natAbs w.natAbs:=Nat.gcd_pos_of_pos_right _ (by omega)
 have h3:=Nat.gcd_le_right (m:=Nat.gcd v.x.natAbs v.y.natAbs) (n:=Nat.gcd v.z.natAbs w.natAbs) h2
 omega
theorem Va6 {x:Int} (h:Sm 1000000000000000000 x):W x=x:=da1 (by have:=h.1;omega) (by have:=h.2;omega)
theorem Sm.mono {n m x:Int} (h:Sm n x) (hn:n≤m):Sm m x:=⟨by have:=h.1;omega,by have:=h.2;omega⟩
theorem L7 {n x g:Int} (h:Sm n x) (hg:0 < g):Sm n (Int.tdiv x g):=by
 have h1:(Int.tdiv x g).natAbs≤x.natAbs:=by rw[Int.natAbs_tdiv];exact Nat.div_le_self _ _
 have:=h.1;have:=h.2
 constructor<;>omega
theorem Gc4 {p q r:Pln} (hp:Bd p) (hq:Bd q) (hr:Bd r) (h:(mpt p q r).2=true):0 < (mpt p q r).1.pw∧Sm 300000000000000 (mpt p q r).1.px∧Sm 300000000000000 (mpt p q r).1.py∧Sm 300000000000000 (mpt p q r).1.pz∧(mpt p q r).1.pw≤600000000000:=by
 have hw:=pd5 hp hq hr
 obtain⟨v1,v2,v3⟩:=pd6 hp hq hr
 have neg:∀ {n x:Int},Sm n x→Sm n (-x):=fun h=>⟨by have:=h.2;omega,by have:=h.1;omega⟩
 have pos:∀ {x:Int},0 < x→x.natAbs=(mw p q r).natAbs→0 < Int.tdiv x (gc (mv p q r) (mw p q r)):=fun {x} hx he=>by
  have h0:mw p q r≠0:=by omega
  have h1:=nc1 (v:=mv p q r) h0
  have h2:=pd7 (v:=mv p q r) h0
  rw[Int.tdiv_eq_ediv_of_nonneg (by omega)]
  exact Int.ediv_pos_of_pos_of_dvd hx (by omega) (by
   rw[← Int.dvd_natAbs,he]
   exact Int.natCast_dvd_natCast.2 (Nat.dvd_trans (Nat.gcd_dvd_right _ _) (Nat.gcd_dvd_right _ _)))
 unfold mpt at h ⊢
 by_cases h0:mw p q r=0
 ·rw[if_pos h0] at h;cases h
 ·rw[if_neg h0]
  have hg:=nc1 (v:=mv p q r) h0
  by_cases h1:mw p q r < 0
  ·rw[if_pos h1]
   exact⟨pos (by omega) (by omega),L7 (neg v1) hg,L7 (neg v2) hg,L7 (neg v3) hg,(L7 (neg hw) hg).2⟩
  ·rw[if_neg h1]
   exact⟨pos (by omega) rfl,L7 v1 hg,L7 v2 hg,L7 v3 hg,(L7 hw hg).2⟩
theorem Kc9 {p q r:Pln} (hp:Bd p) (hq:Bd q) (hr:Bd r):Ba0 ⟨p,q,r⟩=some (.tup [.agg (tX.row (mpt p q r).1),b (mpt p q r).2],[]):=by
 have hw:=pd5 hp hq hr
 obtain⟨v1,v2,v3⟩:=pd6 hp hq hr
 have e1:aa5 r.n (L0 p.n q.n)=mw p q r:=by
  rw[Nb9]
  unfold aa5
  simp only[hb8,Sb5,sd8]
  show W (dot r.n (o5 p.n q.n))=_
  rw[ud4,Va6 (hw.mono (by omega))]
 have e2:M0 (M0 (M0 ⟨0,0,0⟩ (L4 (L0 q.n r.n) p.b)) (L4 (L0 r.n p.n) q.b)) (L4 (L0 p.n q.n) r.b)=mv p q r:=by
  rw[Nb9,Nb9,Nb9]
  unfold M0 L4
  simp only[hb8,Sb5,Wc6,Int.zero_add]
  show (⟨W (mv p q r).x,W (mv p q r).y,W (mv p q r).z⟩:V3)=_
  rw[Va6 (v1.mono (by omega)),Va6 (v2.mono (by omega)),Va6 (v3.mono (by omega))]
 unfold Ba0
 simp only[e1,e2]
 have hb:∀ x∈[(mv p q r).x,(mv p q r).y,(mv p q r).z,mw p q r],x.natAbs≤9223372036854775807:=by
  intro x hx
  simp only[List.mem_cons,List.not_mem_nil,or_false] at hx
  unfold Sm at *
  rcases hx with rfl | rfl | rfl | rfl<;>omega
 have hf:([(mv p q r).x,(mv p q r).y,(mv p q r).z,mw p q r].foldl eu 0).natAbs=Nat.gcd (Nat.gcd (mv p q r).x.natAbs (mv p q r).y.natAbs) (Nat.gcd (mv p q r).z.natAbs (mw p q r).natAbs):=by
  rw[Ab3,← Id7];rfl
 unfold mpt
 by_cases h0:mw p q r=0
 ·rw[bt (by rw[h0];rfl),if_pos h0]
  rfl
 ·have hz:(mw p q r==0)=false:=by simpa using h0
  rw[bf hz,if_neg h0]
  have hgp:=nc1 (v:=mv p q r) h0
  have hgl:=pd7 (v:=mv p q r) h0
  have hge:=ud3 _ (by simp) hb (by rw[hf];unfold gc at hgl;unfold Sm at hw;omega)
  have hgv:Za7 [(mv p q r).x,(mv p q r).y,(mv p q r).z,mw p q r]=gc (mv p q r) (mw p q r):=by
   unfold Za7;rw[hge,hf];rfl
  have hgg:Za8 [(mv p q r).x,(mv p q r).y,(mv p q r).z,mw p q r]=true:=by
   unfold Za8;rw[hge];rfl
  rw[hgv,bt hgg]
  generalize hG:gc (mv p q r) (mw p q r)=G at *
  have hGW:W (0 - G)=-G:=by unfold Sm at hw;rw[da1 (by omega) (by omega)];omega
  have hGn:(-G==0)=false:=by simp;omega
  have hGp:(G==0)=false:=by simp;omega
  by_cases h1:mw p q r < 0
  ·rw[bt (decide_eq_true h1),if_pos h1]
   simp only[hGW]
   rw[bf hGn,bf hGn,bf hGn,bf hGn]
   simp only[Int.tdiv_neg,← Int.neg_tdiv]
   have neg:∀ {n x:Int},Sm n x→Sm n (-x):=fun h=>⟨by have:=h.2;omega,by have:=h.1;omega⟩
   rw[Va6 ((L7 (neg v1) hgp).mono (by omega)),Va6 ((L7 (neg v2) hgp).mono (by omega)),Va6 ((L7 (neg v3) hgp).mono (by omega)),Va6 ((L7 (neg hw) hgp).mono (by omega))]
   rfl
  ·rw[bf (decide_eq_false h1),if_neg h1,bf hGp,bf hGp,bf hGp,bf hGp]
   rw[Va6 ((L7 v1 hgp).mono (by omega)),Va6 ((L7 v2 hgp).mono (by omega)),Va6 ((L7 v3 hgp).mono (by omega)),Va6 ((L7 hw hgp).mono (by omega))]
   rfl
theorem ud5 {p q r:Pln} (hp:Bd p) (hq:Bd q) (hr:Bd r):Ba1 ⟨p,q,r⟩=mpt p q r:=by unfold Ba1;rw[Kc9 hp hq hr];rfl
theorem ud6 {p q r:Pln} (hp:Bd p) (hq:Bd q) (hr:Bd r):Ba2 ⟨p,q,r⟩=true:=by unfold Ba2;rw[Kc9 hp hq hr];rfl
end Go.Ev.Ce
namespace Go.Ev.Ce
open Go Go.Ev Go.Ev.L Go.Proofs
noncomputable def inn (l:List Pln) (x:Pt):Bool:=l.all fun p=>!decide (rm p x < 0)
theorem kd4 (l:List Pln) (x:Pt):inn l x=!l.any fun p=>decide (rm p x < 0):=by unfold inn;rw[List.not_any_eq_all_not]
theorem Bd1 (p:Pln) (x:Pt):Da3 ⟨p.n.x,p.n.y,p.n.z,p.b,x.px,x.py,x.pz,x.pw⟩=⟨decide (rm p x < 0)⟩:=by
 show ga7.mk (decide (fa5 p x < 0))=_
 rw[nc0]
theorem kd5 (l:List Pln) (x:Pt) (hl:l.length≤1000000000):M8 ⟨l,x.px,x.py,x.pz,x.pw⟩=⟨1,if l.any (fun p=>decide (rm p x < 0)) then ((l.findIdx (fun p=>decide (rm p x < 0)):Nat):Int) else -1⟩:=by
 have h:=Ya5 (step:=D4 ⟨l,(l.length:Int),x.px,x.py,x.pz,x.pw⟩) (mk:=fun j=>(⟨(j:Int)⟩:k9)) (c:=fun p=>decide (rm p x < 0)) (u:=1) (fin:=2) tP l hl
  (fun j hj=>by
   simp only[D4,A8,Int.toNat_natCast,Bd1,M3 hj (by omega)]
   rw[bt (Sb6 hj),bt (q8 hj)])
  (by simp only[D4,A8];rw[bf (Nb5 (Nat.lt_irrefl _))]) 0 (Nat.zero_le _)
 rw[List.drop_zero] at h
 unfold M8 B8
 simp only[E5,G3]
 rw[show (⟨0⟩:k9)=⟨((0:Nat):Int)⟩ from rfl,h]
 split
 ·simp only[Nat.zero_add];rfl
 ·rfl
theorem gc1 (l:List Pln) (x:Pt) (hl:l.length≤1000000000):pa2 l x=some (b (inn l x),[]):=by
 unfold pa2 S1 y5
 simp only[E5,G3,kd5 l x hl,kd4]
 split
 ·rename_i h
  rw[h,show decide (((l.findIdx (fun p=>decide (rm p x < 0)):Nat):Int)≥0)=true from decide_eq_true (by omega)];rfl
 ·rename_i h
  rw[Bool.not_eq_true] at h
  rw[h];rfl
theorem Vb0 (l:List Pln) (x:Pt) (hl:l.length≤1000000000):P6 l x=inn l x:=by unfold P6;rw[gc1 l x hl];rfl
theorem Vb1 (l:List Pln) (x:Pt) (hl:l.length≤1000000000):P7 l x=true:=by unfold P7;rw[gc1 l x hl];rfl
def eqX (x q:Pt):Bool:=q.px==x.px&&(q.py==x.py&&(q.pz==x.pz&&(q.pw==x.pw&&true)))
theorem nc2 (x q:Pt):eqX x q=true↔q=x:=by
 unfold eqX
 simp only[Bool.and_true,Bool.and_eq_true,beq_iff_eq]
 exact⟨fun⟨h1,h2,h3,h4⟩=>by cases q;cases x;simp_all,fun h=>by subst h;exact⟨rfl,rfl,rfl,rfl⟩⟩
def Vb2 (l:List Pt) (x:Pt):Bool:=l.any (eqX x)
theorem Zc8 (l:List Pt) (x:Pt):Vb2 l x=true↔x∈l:=by
 unfold Vb2
 rw[List.any_eq_true]
 exact⟨fun⟨q,h,e⟩=>(nc2 x q).1 e ▸ h,fun h=>⟨x,h,(nc2 x x).2 rfl⟩⟩
def smb (n x:Int):Bool:=!decide (x < -n)&&!decide (x > n)
theorem za9 (n x:Int):smb n x=true↔Sm n x:=by unfold smb Sm;simp only[Bool.and_eq_true,Bool.not_eq_true',decide_eq_false_iff_not];omega
theorem Vb3 (n:Int) (l:List Int) (hn:0≤n∧n≤1000000000) (hl:l.length≤1000000000):ka8 n l=some (b (l.all (smb n)),[]):=by
 have hW:W (0 - n)=-n:=by rw[da1 (by omega) (by omega)];omega
 have h:=Ec8 (step:=aa8 ⟨n,l,(l.length:Int)⟩) (mk:=fun j=>(⟨(j:Int)⟩:G9)) (c:=fun x=>!smb n x) (u:=1) (fin:=2) tI l hl
  (fun j hj=>by
   simp only[aa8,X0,Int.toNat_natCast,M3 hj (by omega),hW]
   rw[bt (Sb6 hj),bt (q8 hj)]
   unfold smb
   cases decide (gL tI l j < -n)<;>cases decide (gL tI l j > n)<;>rfl)
  (by simp only[aa8,X0];rw[bf (Nb5 (Nat.lt_irrefl _))]) 0 (Nat.zero_le _)
 rw[List.drop_zero] at h
 unfold ka8
 simp only[E5,G3]
 rw[show (⟨0⟩:G9)=⟨((0:Nat):Int)⟩ from rfl,h]
 have e:(l.any fun x=>!smb n x)=!l.all (smb n):=by rw[List.not_all_eq_any_not]
 rw[e]
 cases l.all (smb n)<;>rfl
theorem Gb2 (n:Int) (l:List Int) (hn:0≤n∧n≤1000000000) (hl:l.length≤1000000000):da9 n l=l.all (smb n):=by unfold da9;rw[Vb3 n l hn hl];rfl
theorem Gb3 (n:Int) (l:List Int) (hn:0≤n∧n≤1000000000) (hl:l.length≤1000000000):ea0 n l=true:=by unfold ea0;rw[Vb3 n l hn hl];rfl
theorem wc9 {n:Int} (h:Sm 1000000000000000000 n):na3 n=(n.natAbs:Int):=by
 unfold na3
 obtain⟨h1,h2⟩:=h
 rw[da1 (by omega) (by omega)]
 split<;>omega
theorem Ab5 {n:Int} (h:Sm 1000000000000000000 n):ka3 n=some (i (n.natAbs:Int),[]):=by
 unfold ka3
 obtain⟨h1,h2⟩:=h
 rw[da1 (by omega) (by omega)]
 by_cases h:n < 0
 ·rw[bt (decide_eq_true h)];congr 3;omega
 ·rw[bf (decide_eq_false h)];congr 3;omega
theorem jb9 {n:Int} (h:Sm 1000000000000000000 n):da3 n=(n.natAbs:Int):=by unfold da3;rw[Ab5 h];rfl
theorem kb0 {n:Int} (h:Sm 1000000000000000000 n):da4 n=true:=by unfold da4;rw[Ab5 h];rfl
def g3 (v:V3):Int:=(Nat.gcd (Nat.gcd v.x.natAbs v.y.natAbs) v.z.natAbs:Nat)
theorem Zc9 (g n:Nat):eu (g:Int) (n:Int)=(Nat.gcd g n:Nat):=by rw[td0 (by omega) (by omega)];rfl
theorem ac7 (P:R7) (g n:Nat) (hn:n≤1000000000000000000):lp (O9 P) ⟨(g:Int),(n:Int)⟩=(1,⟨(Nat.gcd g n:Nat),0⟩):=by
 have:=Ib7 (step:=O9 P) (mk:=fun g n=>(⟨g,n⟩:I0)) (fun g n h=>by
  have h0:n≠0:=by omega
  simp[O9,T0,Ya3,h,h0]) (fun g=>by simp[O9,T0,Ya3]) (g:Int) (n:Int) (by omega) (by omega) (by omega)
 rw[this,Zc9]
theorem Gc5 (l:List Int) (hl:l.length≤1000000000) (hb:∀ x∈l,Sm 1000000000000000000 x):ha0 l=some (i (l.foldl (fun g x=>Nat.gcd g x.natAbs) 0:Nat),[]):=by
 have h := Nb6 (step := X1 ⟨(l.length : Int)⟩) (mk := fun j (a : Nat) => (⟨(a : Int), l, (j : Int)⟩ : E8)) (f := fun g x => Nat.gcd g x.natAbs) (fin := 2) tI l (fun _ _ => True) hl (fun j a hj _ => ⟨by
   have hm:=hb _ (lc2 tI hj)
   have hne:(gL tI l j==(-9223372036854775808:Int))=false:=by
    have:=hm.1
    rw[beq_eq_false_iff_ne];omega
   have hs:(gL tI l j).natAbs≤1000000000000000000:=by obtain⟨h1,h2⟩:=hm;omega
   simp only[X1,T1,Int.toNat_natCast,E5,G3,wc9 hm,ac7 _ _ _ hs,M3 hj (by omega)]
   rw[bt (Sb6 hj),bt (q8 hj),bf hne]
   rfl,trivial⟩) (fun a _=>by simp only[X1,T1];rw[bf (Nb5 (Nat.lt_irrefl _))]) 0 (Nat.zero_le _) 0 trivial
 have h:=h.1
 rw[List.drop_zero] at h
 unfold ha0
 simp only[E5,G3]
 rw[show (⟨0,l,0⟩:E8)=⟨((0:Nat):Int),l,((0:Nat):Int)⟩ from rfl,h]
 rfl
def okp (p:Pln):Bool:=[p.n.x,p.n.y,p.n.z].all (smb 4608)&&(g3 p.n==1&&[p.b].all (smb 2097152))
theorem ud7 (p:Pln):Bd p↔[p.n.x,p.n.y,p.n.z].all (smb 4608)=true∧[p.b].all (smb 2097152)=true:=by
 simp only[List.all_cons,List.all_nil,Bool.and_true,Bool.and_eq_true,za9,Sm]
 exact⟨fun h=>⟨⟨⟨h.x1,h.x2⟩,⟨h.y1,h.y2⟩,h.z1,h.z2⟩,h.b1,h.b2⟩,fun⟨⟨⟨a,b⟩,⟨c,d⟩,e,f⟩,g,h⟩=>⟨a,b,c,d,e,f,g,h⟩⟩
theorem ub1 {p:Pln} (h:okp p=true):Bd p:=by
 unfold okp at h
 rw[Bool.and_eq_true,Bool.and_eq_true] at h
 exact (ud7 p).2 ⟨h.1,h.2.2⟩
theorem sm3 {v:V3} (h:[v.x,v.y,v.z].all (smb 4608)=true):Sm 4608 v.x∧Sm 4608 v.y∧Sm 4608 v.z:=by
 simpa only[List.all_cons,List.all_nil,Bool.and_true,Bool.and_eq_true,za9] using h
theorem xc0 (p:Pln):pa4 p=some (b (okp p),[]):=by
 unfold pa4 okp
 have l3:[p.n.x,p.n.y,p.n.z].length≤1000000000:=by simp
 have l1:[p.b].length≤1000000000:=by simp
 simp only[Gb2 4608 _ (by omega) l3,Gb3 4608 _ (by omega) l3,Gb2 2097152 _ (by omega) l1,Gb3 2097152 _ (by omega) l1]
 cases hw:[p.n.x,p.n.y,p.n.z].all (smb 4608) with
 | false=>rfl
 | true =>
  obtain⟨h1,h2,h3⟩:=sm3 hw
  have hd:=Gc5 [p.n.x,p.n.y,p.n.z] l3 (by
   intro x hx
   simp only[List.mem_cons,List.not_mem_nil,or_false] at hx
   rcases hx with rfl | rfl | rfl
   ·exact h1.mono (by omega)
   ·exact h2.mono (by omega)
   ·exact h3.mono (by omega))
  have hg:([p.n.x,p.n.y,p.n.z].foldl (fun g x=>Nat.gcd g x.natAbs) 0:Nat)=Nat.gcd (Nat.gcd p.n.x.natAbs p.n.y.natAbs) p.n.z.natAbs:=by
   simp only[List.foldl_cons,List.foldl_nil,Nat.gcd_zero_left]
  have hp:qa9 [p.n.x,p.n.y,p.n.z]=g3 p.n:=by unfold qa9;rw[hd,hg];rfl
  have hgd:ra0 [p.n.x,p.n.y,p.n.z]=true:=by unfold ra0;rw[hd];rfl
  rw[hp,hgd]
  cases g3 p.n==1<;>rfl
theorem Lc0 (p:Pln):pa5 p=okp p:=by unfold pa5;rw[xc0 p];rfl
theorem Lc1 (p:Pln):pa6 p=true:=by unfold pa6;rw[xc0 p];rfl
theorem Gb4 (P:aa4) (g n:Nat) (hn:n≤1000000000000000000):lp (V8 P) ⟨(g:Int),(n:Int)⟩=(1,⟨(Nat.gcd g n:Nat),0⟩):=by
 have:=Ib7 (step:=V8 P) (mk:=fun g n=>(⟨g,n⟩:L3)) (fun g n h=>by
  have h0:n≠0:=by omega
  simp[V8,ka4,Ya3,h,h0]) (fun g=>by simp[V8,ka4,Ya3]) (g:Int) (n:Int) (by omega) (by omega) (by omega)
 rw[this,Zc9]
theorem nc3 {v : V3} (h1 : Sm 1000000000000000000 v.x) (h2 : Sm 1000000000000000000 v.y) (h3 : Sm 1000000000000000000 v.z) :
  Ka4 v=if g3 v=0 then some (.tup [.agg (tV.row ⟨0,0,0⟩),i 0],[]) else some (.tup [.agg (tV.row ⟨W (Int.tdiv v.x (g3 v)),W (Int.tdiv v.y (g3 v)),W (Int.tdiv v.z (g3 v))⟩),i (g3 v)],[]):=by
 have ne:∀ {x:Int},Sm 1000000000000000000 x→(x==(-9223372036854775808:Int))=false:=fun {x} h=>by
  have:=h.1
  rw[beq_eq_false_iff_ne];omega
 have bd:∀ {x:Int},Sm 1000000000000000000 x→x.natAbs≤1000000000000000000:=fun {x} h=>by obtain⟨h1,h2⟩:=h;omega
 have l1:=Gb4 ⟨0,v.x,v.y,v.z,v.x,v.y,v.z⟩ 0 v.x.natAbs (bd h1)
 rw[Nat.gcd_zero_left] at l1
 have l2:=Gb4 ⟨1,v.x,v.y,v.z,v.x,v.y,v.z⟩ v.x.natAbs v.y.natAbs (bd h2)
 have l3:=Gb4 ⟨2,v.x,v.y,v.z,v.x,v.y,v.z⟩ (Nat.gcd v.x.natAbs v.y.natAbs) v.z.natAbs (bd h3)
 unfold Ka4
 simp only[jb9 h1,jb9 h2,jb9 h3,kb0 h1,kb0 h2,kb0 h3]
 rw[show (⟨0,(v.x.natAbs:Int)⟩:L3)=⟨((0:Nat):Int),(v.x.natAbs:Int)⟩ from rfl]
 simp only[l1,l2,l3,ne h1,ne h2,ne h3]
 rw[show ((Nat.gcd (Nat.gcd v.x.natAbs v.y.natAbs) v.z.natAbs:Nat):Int)=g3 v from rfl]
 by_cases h:g3 v=0
 ·rw[if_pos h,show (g3 v==0)=true from by rw[h];rfl];rfl
 ·rw[if_neg h,show (g3 v==0)=false from by rw[beq_eq_false_iff_ne];exact h];rfl
theorem Gc6 {v:V3} (h1:Sm 1000000000000000000 v.x) (h2:Sm 1000000000000000000 v.y) (h3:Sm 1000000000000000000 v.z):(ya0 v).2=g3 v:=by
 unfold ya0
 rw[nc3 h1 h2 h3]
 split
 ·rename_i h;rw[h];rfl
 ·rfl
theorem ud8 {v:V3} (h1:Sm 1000000000000000000 v.x) (h2:Sm 1000000000000000000 v.y) (h3:Sm 1000000000000000000 v.z) (h:g3 v≠0):ya0 v=(⟨W (Int.tdiv v.x (g3 v)),W (Int.tdiv v.y (g3 v)),W (Int.tdiv v.z (g3 v))⟩,g3 v):=by
 unfold ya0
 rw[nc3 h1 h2 h3,if_neg h]
 rfl
theorem ud9 {v:V3} (h1:Sm 1000000000000000000 v.x) (h2:Sm 1000000000000000000 v.y) (h3:Sm 1000000000000000000 v.z):Za1 v=true:=by
 unfold Za1
 rw[nc3 h1 h2 h3]
 split<;>rfl
def chk (l:List Pln):Int:=if (l.length:Int) > 48 then 2 else if l.all okp then 0 else 12
theorem xc1 (l:List Pln) (hl:l.length≤1000000000):ua8 l=some (i (chk l),[]):=by
 have hk1:∀ p,ka9 p=some (b (!okp p),[]):=fun p=>by unfold ka9;rw[Lc1,Lc0];rfl
 have hp1:∀ p,ua6 p=!okp p:=fun p=>by unfold ua6;rw[hk1];rfl
 have hg1:∀ p,ua7 p=true:=fun p=>by unfold ua7;rw[hk1];rfl
 have h:=Ya5 (step:=D5 ⟨l,(l.length:Int)⟩) (mk:=fun j=>(⟨(j:Int)⟩:l0)) (c:=fun p=>!okp p) (u:=1) (fin:=2) tP l hl
  (fun j hj=>by
   simp only[D5,A9,Int.toNat_natCast,hp1,hg1,M3 hj (by omega)]
   rw[bt (Sb6 hj),bt (q8 hj),L2])
  (by simp only[D5,A9];rw[bf (Nb5 (Nat.lt_irrefl _))]) 0 (Nat.zero_le _)
 rw[List.drop_zero] at h
 have e:(l.any fun x=>!okp x)=!l.all okp:=by rw[List.not_all_eq_any_not]
 unfold ua8 S3 y6 Z3 B9 chk
 simp only[E5,G3]
 rw[show (⟨0⟩:l0)=⟨((0:Nat):Int)⟩ from rfl,h,e]
 by_cases hn:(l.length:Int) > 48
 ·rw[bt (decide_eq_true hn),if_pos hn]
 ·rw[bf (decide_eq_false hn),if_neg hn]
  cases l.all okp with
  | true=>rfl
  | false =>
   simp only[Bool.not_false,if_true,Nat.zero_add]
   show sl true (sl (Nat.beq 1 1) (sl (decide (((l.findIdx fun p=>!okp p:Nat):Int)≥0)) _ _) _) _=_
   rw[show decide (((l.findIdx fun p=>!okp p:Nat):Int)≥0)=true from decide_eq_true (by omega)]
   rfl
theorem Ab6 (l:List Pln) (hl:l.length≤1000000000):fa7 l=chk l:=by unfold fa7;rw[xc1 l hl];rfl
theorem Ab7 (l:List Pln) (hl:l.length≤1000000000):T7 l=true:=by unfold T7;rw[xc1 l hl];rfl
theorem kb1 {l:List Pln}:chk l=0↔l.length≤48∧∀ p∈l,okp p=true:=by
 unfold chk
 by_cases hn:(l.length:Int) > 48
 ·rw[if_pos hn]
  exact⟨fun h=>absurd h (by decide),fun h=>by omega⟩
 ·rw[if_neg hn]
  cases h:l.all okp with
  | true=>exact⟨fun _=>⟨by omega,List.all_eq_true.1 h⟩,fun _=>rfl⟩
  | false=>exact⟨fun h=>absurd h (by decide),fun h'=>by rw[List.all_eq_true.2 h'.2] at h;cases h⟩
end Go.Ev.Ce
