/- Own work: a part of the proof. -/
import Derived.Test.YtlccibobknidjaaEvBd
import Derived.Test.YtlccibobknidjaaChecked
import Derived.Test.YtlccibobknidjaaEvICePf
import Derived.KernelRfl
import Derived.Test.YtlccibobknidjaaEvSp3
import Derived.Test.YtlccibobknidjaaEvMem
import Derived.Shelf.Spec.SlicesGrow
set_option linter.unusedVariables false
set_option linter.unusedSimpArgs false
set_option linter.unnecessarySimpa false
set_option linter.unusedSectionVars false
section
namespace Go.Ev.Ce
open Go Go.Ev Go.Proofs
set_option maxRecDepth 1000000
theorem mx:(Try.prog).follows .mixedOrders=true:=Checked.mixed Try.checked
theorem b3:K2 Try.prog 3 fun E=>q7 E pf3:=N3 mx Try.func3 (by kernel_rfl) (m9 (by kernel_rfl))
theorem b4:K2 Try.prog 4 fun E=>q7 E pf4:=N3 mx Try.func4 (by kernel_rfl) (m9 (by kernel_rfl))
theorem b5:K2 Try.prog 5 fun E=>q7 E pf5:=N3 mx Try.func5 (by kernel_rfl) (m9 (by kernel_rfl))
theorem b6:K2 Try.prog 6 fun E=>q7 E pf6:=N3 mx Try.func6 (by kernel_rfl) (m9 (by kernel_rfl))
theorem b7:K2 Try.prog 7 fun E=>q7 E pf7:=N3 mx Try.func7 (by kernel_rfl) (m9 (by kernel_rfl))
theorem b8:K2 Try.prog 8 fun E=>q7 E pf8:=N3 mx Try.func8 (by kernel_rfl) (m9 (by kernel_rfl))
theorem b9:K2 Try.prog 9 fun E=>q7 E pf9:=N3 mx Try.func9 (by kernel_rfl) (m9 (by kernel_rfl))
theorem b10:K2 Try.prog 10 fun E=>q7 E rd6:=N3 mx Try.func10 (by kernel_rfl) (m9 (by kernel_rfl))
theorem b11:K2 Try.prog 11 fun E=>q7 E rd7:=N3 mx Try.func11 (by kernel_rfl) (m9 (by kernel_rfl))
theorem b12:K2 Try.prog 12 fun E=>q7 E rd8:=N3 mx Try.func12 (by kernel_rfl) (m9 (by kernel_rfl))
theorem b13:K2 Try.prog 13 fun E=>q7 E rd9:=N3 mx Try.func13 (by kernel_rfl) (m9 (by kernel_rfl))
theorem b14:K2 Try.prog 14 fun E=>q7 E sd0:=N3 mx Try.func14 (by kernel_rfl) (m9 (by kernel_rfl))
theorem b19:K2 Try.prog 19 fun E=>q7 E sd1:=N3 mx Try.func19 (by kernel_rfl) (m9 (by kernel_rfl))
theorem b20:K2 Try.prog 20 fun E=>q7 E sd2:=N3 mx Try.func20 (by kernel_rfl) (m9 (by kernel_rfl))
theorem b21:K2 Try.prog 21 fun E=>q7 E sd3:=N3 mx Try.func21 (by kernel_rfl) (m9 (by kernel_rfl))
theorem b22:K2 Try.prog 22 fun E=>q7 E nd8:=N3 mx Try.func22 (by kernel_rfl) (m9 (by kernel_rfl))
theorem b23:K2 Try.prog 23 fun E=>q7 E nd9:=N3 mx Try.func23 (by kernel_rfl) (m9 (by kernel_rfl))
theorem b24:K2 Try.prog 24 fun E=>q7 E sd4:=N3 mx Try.func24 (by kernel_rfl) (m9 (by kernel_rfl))
theorem b25:K2 Try.prog 25 fun E=>q7 E sd5:=N3 mx Try.func25 (by kernel_rfl) (m9 (by kernel_rfl))
theorem b26:K2 Try.prog 26 fun E=>q7 E sd6:=N3 mx Try.func26 (by kernel_rfl) (m9 (by kernel_rfl))
theorem b27:K2 Try.prog 27 fun E=>q7 E sd7:=N3 mx Try.func27 (by kernel_rfl) (m9 (by kernel_rfl))
theorem b28:K2 Try.prog 28 fun E=>bb7 E Xc8:=cd6 (h:=h28) mx Try.func28 (by kernel_rfl) Try.func72 (by kernel_rfl) (m9 (by kernel_rfl))
theorem b29:K2 Try.prog 29 fun E=>q7 E od0:=N3 mx Try.func29 (by kernel_rfl) (m9 (by kernel_rfl))
theorem b30:K2 Try.prog 30 fun E=>q7 E sd8:=N3 mx Try.func30 (by kernel_rfl) (m9 (by kernel_rfl))
theorem b31:K2 Try.prog 31 fun E=>q7 E od1:=N3 mx Try.func31 (by kernel_rfl) (m9 (by kernel_rfl))
theorem b32:K2 Try.prog 32 fun E=>q7 E sd9:=N3 mx Try.func32 (by kernel_rfl) (m9 (by kernel_rfl))
theorem b34:K2 Try.prog 34 fun E=>q7 E td0:=N3 mx Try.func34 (by kernel_rfl) (m9 (by kernel_rfl))
theorem b35:K2 Try.prog 35 fun E=>q7 E hd8:=N3 mx Try.func35 (by kernel_rfl) (m9 (by kernel_rfl))
theorem b36:K2 Try.prog 36 fun E=>q7 E td1:=N3 mx Try.func36 (by kernel_rfl) (m9 (by kernel_rfl))
theorem b37:K2 Try.prog 37 fun E=>q7 E td2:=N3 mx Try.func37 (by kernel_rfl) (m9 (by kernel_rfl))
theorem b38:K2 Try.prog 38 fun E=>q7 E td3:=N3 mx Try.func38 (by kernel_rfl) (m9 (by kernel_rfl))
theorem b39:K2 Try.prog 39 fun E=>q7 E td4:=N3 mx Try.func39 (by kernel_rfl) (m9 (by kernel_rfl))
theorem b40:K2 Try.prog 40 fun E=>q7 E td5:=N3 mx Try.func40 (by kernel_rfl) (m9 (by kernel_rfl))
theorem b45:K2 Try.prog 45 fun E=>q7 E td6:=N3 mx Try.func45 (by kernel_rfl) (m9 (by kernel_rfl))
theorem b46:K2 Try.prog 46 fun E=>q7 E td7:=N3 mx Try.func46 (by kernel_rfl) (m9 (by kernel_rfl))
theorem b47:K2 Try.prog 47 fun E=>q7 E td8:=N3 mx Try.func47 (by kernel_rfl) (m9 (by kernel_rfl))
theorem b48:K2 Try.prog 48 fun E=>q7 E td9:=N3 mx Try.func48 (by kernel_rfl) (m9 (by kernel_rfl))
theorem b49:K2 Try.prog 49 fun E=>q7 E ud0:=N3 mx Try.func49 (by kernel_rfl) (m9 (by kernel_rfl))
theorem b50:K2 Try.prog 50 fun E=>q7 E ud1:=N3 mx Try.func50 (by kernel_rfl) (m9 (by kernel_rfl))
theorem b51:K2 Try.prog 51 fun E=>q7 E ud2:=N3 mx Try.func51 (by kernel_rfl) (m9 (by kernel_rfl))
theorem b52:K2 Try.prog 52 fun E=>bb7 E hd9:=cd6 (h:=h52) mx Try.func52 (by kernel_rfl) Try.func71 (by kernel_rfl) (m9 (by kernel_rfl))
theorem b53:K2 Try.prog 53 fun E=>q7 E od2:=N3 mx Try.func53 (by kernel_rfl) (m9 (by kernel_rfl))
theorem b54:K2 Try.prog 54 fun E=>q7 E ud3:=N3 mx Try.func54 (by kernel_rfl) (m9 (by kernel_rfl))
theorem b55:K2 Try.prog 55 fun E=>q7 E Xc9:=N3 mx Try.func55 (by kernel_rfl) (m9 (by kernel_rfl))
theorem b58:K2 Try.prog 58 fun E=>q7 E ud4:=N3 mx Try.func58 (by kernel_rfl) (m9 (by kernel_rfl))
theorem b59:K2 Try.prog 59 fun E=>q7 E ud5:=N3 mx Try.func59 (by kernel_rfl) (m9 (by kernel_rfl))
theorem b60:K2 Try.prog 60 fun E=>q7 E ud6:=N3 mx Try.func60 (by kernel_rfl) (m9 (by kernel_rfl))
theorem b61:K2 Try.prog 61 fun E=>q7 E id1:=N3 mx Try.func61 (by kernel_rfl) (m9 (by kernel_rfl))
theorem b62:K2 Try.prog 62 fun E=>q7 E ud7:=N3 mx Try.func62 (by kernel_rfl) (m9 (by kernel_rfl))
theorem b63:K2 Try.prog 63 fun E=>q7 E od3:=N3 mx Try.func63 (by kernel_rfl) (m9 (by kernel_rfl))
theorem b69:K2 Try.prog 69 fun E=>q7 E id3:=N3 mx Try.func69 (by kernel_rfl) (m9 (by kernel_rfl))
theorem b70:K2 Try.prog 70 fun E=>q7 E od4:=N3 mx Try.func70 (by kernel_rfl) (m9 (by kernel_rfl))
theorem b72:K2 Try.prog 72 fun E=>q7 E od5:=N3 mx Try.func72 (by kernel_rfl) (m9 (by kernel_rfl))
theorem b73:K2 Try.prog 73 fun E=>q7 E ud8:=N3 mx Try.func73 (by kernel_rfl) (m9 (by kernel_rfl))
theorem b74:K2 Try.prog 74 fun E=>q7 E id4:=N3 mx Try.func74 (by kernel_rfl) (m9 (by kernel_rfl))
theorem b85:K2 Try.prog 85 fun E=>q7 E od6:=N3 mx Try.func85 (by kernel_rfl) (m9 (by kernel_rfl))
theorem b88:K2 Try.prog 88 fun E=>q7 E ud9:=N3 mx Try.func88 (by kernel_rfl) (m9 (by kernel_rfl))
end Go.Ev.Ce
end
namespace Go.Ev.L
open Go Go.Ev
noncomputable def cb1:RT→PC→PS2
 | .s a b,.seq x y=>.seq (cb1 a x) (cb1 b y)
 | .c a b,.cond g x y=>.cond g (cb1 a x) (cb1 b y)
 | .b a,.block id x=>.block id (cb1 a x)
 | .i a,.inner f x n c=>.inner f x n (cb1 a c)
 | .u S,_=>.sum S
 | _,c=>.pc c
theorem bc0 {E:Env} {k:Nat} (rt:RT) (c:PC):qa4 (fun x=>∀ s,N7 (x.1 s) (G9 E k x.2 s)) (hb7 rt c)→W9 E k (cb1 rt c) c:=by
 induction rt generalizing c with
 | p=>intro h;cases c<;>exact .pc _
 | s a b iha ihb =>
  intro h
  cases c with
  | seq x y=>exact .seq (iha x (qa4.app h).1) (ihb y (qa4.app h).2)
  | _=>exact .pc _
 | c a b iha ihb =>
  intro h
  cases c with
  | cond g x y=>exact .cond g (iha x (qa4.app h).1) (ihb y (qa4.app h).2)
  | _=>exact .pc _
 | b a iha =>
  intro h
  cases c with
  | block id x=>exact .block id (iha x h)
  | _=>exact .pc _
 | l a iha=>intro h;cases c<;>exact .pc _
 | i a iha =>
  intro h
  cases c with
  | inner f x n c=>exact .inner f x n (iha c h)
  | _=>exact .pc _
 | u S =>
  intro h
  have:hb7 (.u S) c=[(S,c)]:=by cases c<;>rfl
  rw[this] at h
  cases h with
  | cons h t =>
   have e:cb1 (.u S) c=.sum S:=by cases c<;>rfl
   rw[e]
   exact .sum h
section
variable {π σ:Type} {E:Env} {k:Nat} {keep:List Nat} {alts:List (Al2 π σ)} {enc:π→σ→St} {step:π→σ→Stp σ} {xs:Xs π σ} {body:PS2} {c:PC}
theorem bb1.belowM (hb:W9 E k body c) (hN:E.N=rounds+1) (w:bb1 lc9 k keep (xb5 E k body) alts step xs enc) (s:St):N7 (Vb0 lc9 k keep alts step xs s) (G9 E k (.loopM keep c) s):=fun r hr=>by
 obtain⟨t,h1,h2⟩:=w.go hr
 rw[uc9,hN]
 exact Sa5 hb.le _ _ _ (fb2 h1 h2)
theorem bb1.belowML (hb:W9 E k body c) (hN:E.N=rounds+1) (w:bb1 ab7 k keep (xb5 E k body) alts step xs enc) (s:St):N7 (Vb0 ab7 k keep alts step xs s) (G9 E k (.loop keep c) s):=fun r hr=>by
 obtain⟨t,h1,h2⟩:=w.go hr
 rw[Ub8,hN]
 exact Sa5 hb.le _ _ _ (fb2 h1 h2)
end
end Go.Ev.L
namespace Go.Ev.Ab
open Go Go.Ev
@[reducible] def o (d:Nat) (x:PO):PI:=⟨some d,none,[],x⟩
@[reducible] def s (x:PO):PI:=⟨none,none,[],x⟩
@[reducible] def cb (b:Bool):Arg:=.c (.v (.bool b))
@[reducible] def vi (n:Int):a7:=.v (.int .i64 n)
@[reducible] def rep {α:Type} (n:Nat) (x:α):List α:=List.replicate n x
@[reducible] def ki (n:Nat):List CK:=List.replicate n (.int .i64)
@[reducible] def mv (d n:Nat):PI:=o d (.mv (.t n))
@[reducible] def mb (d:Nat) (x:Bool):PI:=o d (.mv (cb x))
@[reducible] def fd (d k n:Nat):PI:=o d (.fld k (.t n))
@[reducible] def bx (d n:Nat):PI:=o d (.box (.t n))
@[reducible] def ex (d x k:Nat):PI:=o d (.ext (.t x) k)
@[reducible] def so (l:List PI) (x:PC):PC:=.seq (.ops l) x
@[reducible] def ts (l:List Nat):List Arg:=l.map .t
@[reducible] def cl (f:Nat) (l:List Nat):PO:=.call f (ts l)
@[reducible] def sT (k a b:Nat):PI:=s (.store k (.t a) (.t b))
@[reducible] def pa (d c x:Nat):PI:=o d (.pick (.t c) (.t x) (cb false))
@[reducible] def po (d c x:Nat):PI:=o d (.pick (.t c) (cb true) (.t x))
@[reducible] def al (d k:Nat) (n:Int):PI:=o d (.alloc (rep k (vi n)))
@[reducible] def ap (d et es n x y:Nat):PI:=o d (.append et es n (.t x) (.t y))
end Go.Ev.Ab
namespace Go.Ev.L
open Go Go.Ev
def Cps {π σ:Type} (u:∀ {α:Type},(σ→α)→(Nat→α)→α→π→σ→α):Prop :=
 ∀ {α β:Type} (F:α→β) (k:σ→α) (e:Nat→α) (z:α) (p:π) (s:σ),F (u k e z p s)=u (fun x=>F (k x)) (fun t=>F (e t)) (F z) p s
@[reducible] noncomputable def foL {π σ:Type} (en:π→σ→St) (xs:Xs π σ) (p:π) (s:σ):Stp σ→Option (c9×St):=ab8 (fun s'=>some (.normal,en p s')) (fun t=>xOf xs p s t 1) none
structure Lo (π σ:Type) where
 E:Env
 k:Nat
 F:PFn
 at':List Nat
 kp:List Nat
 rt:RT
 al:List (Al2 π σ)
 st:π→σ→Stp σ
 xs:Xs π σ
 en:π→σ→St
namespace Lo
variable {π σ:Type} (L:Lo π σ)
noncomputable def lc:PC:=rd4 L.at' L.F.body
noncomputable def ls:St→DT (c9×St):=Vb0 ab7 L.k L.kp L.al L.st L.xs
noncomputable def lsM:St→DT (c9×St):=Vb0 lc9 L.k L.kp L.al L.st L.xs
noncomputable def pr:(St→DT (c9×St))×PC:=(L.ls,.loop L.kp L.lc)
noncomputable def prM:(St→DT (c9×St))×PC:=(L.lsM,.loopM L.kp L.lc)
def Ok:Prop:=∀ s,S3 L.k L.F.res (L.pr.1 s) (G9 L.E L.k L.pr.2 s)
def OkE:Prop:=∀ s,N7 (L.pr.1 s) (G9 L.E L.k L.pr.2 s)
def OkM:Prop:=∀ s,N7 (L.prM.1 s) (G9 L.E L.k L.prM.2 s)
def Rd (hd:St→DT St) (bd:St→DT (c9×St)) (p:π) (s:σ) (a:St) (b:Stp σ):Prop:=(Sa6 hd bd a).run=foL L.en L.xs p s b
def H0:Prop:=∀ p s,L.Rd (ab7 L.k L.kp) (xc9 L.E L.k L.F.res (Pb8 L.rt L.lc)) p s (L.en p s) (L.st p s)
def H1:Prop:=∀ p s,L.Rd (ab7 L.k L.kp) (xb5 L.E L.k (cb1 L.rt L.lc)) p s (L.en p s) (L.st p s)
def H2:Prop:=∀ p s,L.Rd (lc9 L.k L.kp) (xb5 L.E L.k (cb1 L.rt L.lc)) p s (L.en p s) (L.st p s)
def HA:Prop:=qa4 (fun x=>∀ a H,(⟨Ec5 x.sh a,Ec6 x.bl H⟩:St)=L.en (x.rd a H).1 (x.rd a H).2) L.al
variable {L}
theorem Rd.of {hd : St → DT St} {bd : St → DT (c9 × St)} {p : π} {s : σ} {a : St} (u : ∀ {α : Type}, (σ → α) → (Nat → α) → α → π → σ → α)
  (q:Cps @u) (H:(Sa6 hd bd a).run=u (fun x=>foL L.en L.xs p s (.next x)) (fun t=>foL L.en L.xs p s (.exit t)) (foL L.en L.xs p s .fail) p s):L.Rd hd bd p s a (u .next .exit .fail p s) :=
 H.trans (q (foL L.en L.xs p s) Stp.next Stp.exit Stp.fail p s).symm
theorem Rd.sel {hd:St→DT St} {bd:St→DT (c9×St)} {p:π} {s:σ} {a1 a0:St} {b1 b0:Stp σ} (c:Bool) (h1:L.Rd hd bd p s a1 b1) (h0:L.Rd hd bd p s a0 b0):L.Rd hd bd p s (sel c a1 a0) (sel c b1 b0):=by
 cases c with
 | true=>exact h1
 | false=>exact h0
theorem ok (l:List ((St→DT (c9×St))×PC)) (hs:hb7 L.rt L.lc=l) (hl:qa4 (fun x=>∀ s,S3 L.k L.F.res (x.1 s) (G9 L.E L.k x.2 s)) l) (hN:L.E.N=rounds+1) (ha:L.HA) (h:L.H0):L.Ok :=
 bb1.belowC (yc7 _ _ (by rw[hs];exact hl)) hN ⟨ha,h⟩
theorem okE (l:List ((St→DT (c9×St))×PC)) (hs:hb7 L.rt L.lc=l) (hl:qa4 (fun x=>∀ s,N7 (x.1 s) (G9 L.E L.k x.2 s)) l) (hN:L.E.N=rounds+1) (ha:L.HA) (h:L.H1):L.OkE :=
 bb1.belowML (bc0 _ _ (by rw[hs];exact hl)) hN ⟨ha,h⟩
theorem okM (l:List ((St→DT (c9×St))×PC)) (hs:hb7 L.rt L.lc=l) (hl:qa4 (fun x=>∀ s,N7 (x.1 s) (G9 L.E L.k x.2 s)) l) (hN:L.E.N=rounds+1) (ha:L.HA) (h:L.H2):L.OkM :=
 bb1.belowM (bc0 _ _ (by rw[hs];exact hl)) hN ⟨ha,h⟩
end Lo
theorem hb8 {E : Env} {F : PFn} {args : List a7} {blks : List a8} {o : Option (a7 × List a8)} (rt : RT) (l : List ((St → DT (c9 × St)) × PC)) (hs : hb7 rt F.body = l)
  (hl:qa4 (fun x=>∀ s,S3 (len blks) F.res (x.1 s) (G9 E (len blks) x.2 s)) l) (h:(md7 E F (Pb8 rt F.body) args blks).run=o) (r:a7×List a8) (hr:o=some r):(q7 E F args blks).run=some r :=
 tc0 (yc7 rt _ (by rw[hs];exact hl)) r (h.trans hr)
theorem cd7 {E : Env} {F : PFn} {args : List a7} {blks : List a8} {o : Option (a7 × List a8)} (rt : RT) (l : List ((St → DT (c9 × St)) × PC)) (hs : hb7 rt F.body = l)
  (hl:qa4 (fun x=>∀ s,N7 (x.1 s) (G9 E (len blks) x.2 s)) l) (h:(cd5 E F (cb1 rt F.body) args blks).run=o) (r:a7×List a8) (hr:o=some r):(bb7 E F args blks).run=some r :=
 lc8 (bc0 rt _ (by rw[hs];exact hl)) r (h.trans hr)
theorem J5 {A o:Option (a7×List a8)} (h:A=o) (r:a7×List a8) (hr:o=some r):A=some r:=h.trans hr
end Go.Ev.L
namespace Go.Ev.Ce
structure V3 where
 x:Int
 y:Int
 z:Int
structure Pln where
 n:V3
 b:Int
structure Pt where
 px:Int
 py:Int
 pz:Int
 pw:Int
def o5 (a b:V3):V3:=⟨a.y*b.z - a.z*b.y,a.z*b.x - a.x*b.z,a.x*b.y - a.y*b.x⟩
def dot (a b:V3):Int:=a.x*b.x+a.y*b.y+a.z*b.z
def mw (p q r:Pln):Int:=dot p.n (o5 q.n r.n)
end Go.Ev.Ce
namespace Go.Ev.Ce
open Go Go.Ev Go.Ev.L Go.Proofs
@[reducible] noncomputable def prog:Program:=Try.prog
noncomputable def G:Nat→List Value:=fun _=>[]
noncomputable def En (l:List (Nat×Sum)):Env:={ P:=prog,G,fns:=fun _=>none,call:=fd2 l,own:=fun f j=>Bool.and (wa4 f [29,33,35,55]) (Nat.beq j 0),N:=18446744073709551616 }
@[reducible] def u:a7:=.v (.tuple #[])
theorem od7 {l:List (Nat×Sum)} (h:o9 prog G l):∀ f,j7 (En l).P (En l).G f ((En l).call f):=xc7 h
theorem bd {l:List (Nat×Sum)} {f:FuncId} {R:Env→Sum} (b:K2 prog f R) (h:o9 prog G l):j7 prog G f (R (En l)):=b rfl (od7 h)
noncomputable def tV:Ty V3 where
 es:=3
 row x:=[i x.x,i x.y,i x.z]
 rd r:=⟨toI (hdA r),toI (hdA (tlA r)),toI (hdA (tlA (tlA r)))⟩
 ok r:=oa4 3 r
 cks:=List.replicate 3 (.int .i64)
 d:=⟨0,0,0⟩
 h0 _:=rfl
 h1 _:=rfl
 h2 _:=rfl
 h3 _ h:=.of (ua1 h)
 h4 _:=rfl
 h5 _:=rfl
noncomputable def r1V:R1 V3:=r1A tV 3 fun _ h=>h
noncomputable def tP:Ty Pln where
 es:=4
 row x:=[i x.n.x,i x.n.y,i x.n.z,i x.b]
 rd r:=⟨⟨toI (hdA r),toI (hdA (tlA r)),toI (hdA (tlA (tlA r)))⟩,toI (hdA (tlA (tlA (tlA r))))⟩
 ok r:=oa4 4 r
 cks:=List.replicate 4 (.int .i64)
 d:=⟨⟨0,0,0⟩,0⟩
 h0 _:=rfl
 h1 _:=rfl
 h2 _:=rfl
 h3 _ h:=.of (ua1 h)
 h4 _:=rfl
 h5 _:=rfl
noncomputable def tX:Ty Pt where
 es:=4
 row x:=[i x.px,i x.py,i x.pz,i x.pw]
 rd r:=⟨toI (hdA r),toI (hdA (tlA r)),toI (hdA (tlA (tlA r))),toI (hdA (tlA (tlA (tlA r))))⟩
 ok r:=oa4 4 r
 cks:=List.replicate 4 (.int .i64)
 d:=⟨0,0,0,0⟩
 h0 _:=rfl
 h1 _:=rfl
 h2 _:=rfl
 h3 _ h:=.of (ua1 h)
 h4 _:=rfl
 h5 _:=rfl
noncomputable def r1X:R1 Pt:=r1A tX 4 fun _ h=>h
structure Tp where
 p:Pln
 q:Pln
 r:Pln
noncomputable def tY:Ty Tp where
 es:=12
 row x:=[i x.p.n.x,i x.p.n.y,i x.p.n.z,i x.p.b,i x.q.n.x,i x.q.n.y,i x.q.n.z,i x.q.b,i x.r.n.x,i x.r.n.y,i x.r.n.z,i x.r.b]
 rd r:=⟨⟨⟨toI (hdA r),toI (hdA (tlA r)),toI (hdA (tlA (tlA r)))⟩,toI (hdA (tlA (tlA (tlA r))))⟩,⟨⟨toI (hdA (tlA (tlA (tlA (tlA r))))),toI (hdA (tlA (tlA (tlA (tlA (tlA r)))))),toI (hdA (tlA (tlA (tlA (tlA (tlA (tlA r)))))))⟩,toI (hdA (tlA (tlA (tlA (tlA (tlA (tlA (tlA r))))))))⟩,⟨⟨toI (hdA (tlA (tlA (tlA (tlA (tlA (tlA (tlA (tlA r))))))))),toI (hdA (tlA (tlA (tlA (tlA (tlA (tlA (tlA (tlA (tlA r)))))))))),toI (hdA (tlA (tlA (tlA (tlA (tlA (tlA (tlA (tlA (tlA (tlA r)))))))))))⟩,toI (hdA (tlA (tlA (tlA (tlA (tlA (tlA (tlA (tlA (tlA (tlA (tlA r))))))))))))⟩⟩
 ok r:=oa4 12 r
 cks:=List.replicate 12 (.int .i64)
 d:=⟨⟨⟨0,0,0⟩,0⟩,⟨⟨0,0,0⟩,0⟩,⟨⟨0,0,0⟩,0⟩⟩
 h0 _:=rfl
 h1 _:=rfl
 h2 _:=rfl
 h3 _ h:=.of (ua1 h)
 h4 _:=rfl
 h5 _:=rfl
structure Q2 where
 a:V3
 b:V3
end Go.Ev.Ce
section
namespace Go.Ev.Ce
open Go Go.Ev Go.Ev.L Go.Proofs
set_option maxRecDepth 100000
structure Yc0 where
 is6:Int
 y6:Int
 o8:Int
 y7:Int
 aa7:Int
 aa8:Int
 aa9:Int
structure Yc1 where
 is5:Int
 is7:Int
end Go.Ev.Ce
end
section
namespace Go.Ev.Ce
open Go Go.Ev Go.Ev.L Go.Proofs
set_option maxRecDepth 100000
noncomputable def bc1:List (Nat×Sum):=[]
theorem Pb9:o9 prog G bc1:=trivial
noncomputable def pa1 (x:V3) (y:V3):Int:=(W ((W ((W (x.x*y.x))+(W (x.y*y.y))))+(W (x.z*y.z))))
noncomputable def cb2:Sum:=wa6 (Ia3 tV) (Ia3 tV) (fun x y=>.ret ((one r1I).enc (pa1 x y),[]))
theorem rb7:j7 prog G 47 cb2:=Sa7 (bd b47 Pb9) fun x y=>J5 (by kernel_rfl)
noncomputable def bc2:List (Nat×Sum):=[]
theorem Qb0:o9 prog G bc2:=trivial
noncomputable def G7 (x:V3) (y:V3):V3:=(⟨(W (x.x+y.x)),(W (x.y+y.y)),(W (x.z+y.z))⟩:V3)
noncomputable def cb3:Sum:=wa6 (Ia3 tV) (Ia3 tV) (fun x y=>.ret ((one r1V).enc (G7 x y),[]))
theorem rb8:j7 prog G 6 cb3:=Sa7 (bd b6 Qb0) fun x y=>J5 (by kernel_rfl)
noncomputable def Qb1:List (Nat×Sum):=[]
theorem Lb1:o9 prog G Qb1:=trivial
noncomputable def K5 (x:V3) (y:Int):V3:=(⟨(W (x.x*y)),(W (x.y*y)),(W (x.z*y))⟩:V3)
noncomputable def Ta3:Sum:=wa6 (Ia3 tV) cI (fun x y=>.ret ((one r1V).enc (K5 x y),[]))
theorem jb4:j7 prog G 24 Ta3:=Sa7 (bd b24 Lb1) fun x y=>J5 (by kernel_rfl)
noncomputable def Lb2:List (Nat×Sum):=[]
theorem Cb0:o9 prog G Lb2:=trivial
noncomputable def K3 (x:V3) (y:V3):V3:=(⟨(W ((W (x.y*y.z)) - (W (x.z*y.y)))),(W ((W (x.z*y.x)) - (W (x.x*y.z)))),(W ((W (x.x*y.y)) - (W (x.y*y.x))))⟩:V3)
noncomputable def jb5:Sum:=wa6 (Ia3 tV) (Ia3 tV) (fun x y=>.ret ((one r1V).enc (K3 x y),[]))
theorem Lb3:j7 prog G 73 jb5:=Sa7 (bd b73 Cb0) fun x y=>J5 (by kernel_rfl)
noncomputable def bc3:List (Nat×Sum):=[(47,cb2)]
theorem Qb2:o9 prog G bc3:=⟨rb7,trivial⟩
noncomputable def da5 (x:Pln) (y:Pt):Int:=let t1:=(pa1 x.n (⟨y.px,y.py,y.pz⟩:V3));(W ((W (x.b*y.pw)) - t1))
noncomputable def La8:Sum:=wa6 (Ia3 tP) (Ia3 tX) (fun x y=>.ret ((one r1I).enc (da5 x y),[]))
theorem Ta4:j7 prog G 32 La8:=Sa7 (bd b32 Qb2) fun x y=>J5 (by kernel_rfl)
noncomputable def cb4:List (Nat×Sum):=[]
theorem bc4:o9 prog G cb4:=trivial
structure ka2 where
 la4:List Int
 is7:Int
 is8:Int
structure Y2 where
 is3:Int
 is5:Int
noncomputable def Qb3 (p:ka2) (s:Y2):St:=⟨(ra 3 ((i s.is3)::(.unk::((i s.is5)::((eL tI p.la4)::((i p.is7)::((i p.is8)::(ra 14 [])))))))),[]⟩
noncomputable def ia0 {α:Type} (k:Y2→α) (e:Nat→α) (z:α) (p:ka2) (s:Y2):α:=(sl (s.is5 != 0) (sl (s.is5==0) z (k ⟨s.is5,(Int.tmod s.is3 s.is5)⟩)) (e 1))
noncomputable def ma4 (p:ka2) (s:Y2):Stp Y2:=ia0 .next .exit .fail p s
noncomputable def Ta5:Lo ka2 Y2:=⟨En cb4,0,id4,[1,1,0,1,4,4,1,1,0,4,1,4,4],[3,5,6,7,8],.p,[⟨(ru2 3 ((.s (.o (.int .i64)))::((.s (.o .unk))::((.s (.o (.int .i64)))::((.s (.c 1 (nL tI)))::((.s (.o (.int .i64)))::((.s (.o (.int .i64)))::(ru2 14 [])))))))),[],fun a H=>(⟨(rL tI (slT a 6)),(toI (slT a 7)),(toI (slT a 8))⟩,⟨(toI (slT a 3)),(toI (slT a 5))⟩)⟩],ma4,[(some 2,fun p s=>⟨(ra 3 ((i s.is3)::(.unk::((i s.is5)::((eL tI p.la4)::((i p.is7)::((i p.is8)::(ra 3 ((i s.is5)::((b (s.is5 != 0))::(ra 9 []))))))))))),[]⟩)],Qb3⟩
theorem Qb4:Ta5.Ok:=Lo.ok [] (by kernel_rfl) .nil rfl (.cons (fun a H=>by kernel_rfl) .nil) fun p s=>(.of @ia0 (fun F _ _ _ _ _=>by unfold ia0;(repeat' apply C7 (f:=F))<;>rfl) (by kernel_rfl))
structure qa5 where
 is7:Int
structure Y3 where
 is3:Int
 la4:List Int
 is8:Int
noncomputable def Qb5 (p:qa5) (s:Y3):St:=⟨(ra 3 ((i s.is3)::(.unk::(.unk::((eL tI s.la4)::((i p.is7)::((i s.is8)::(ra 14 [])))))))),[]⟩
noncomputable def ia1 {α:Type} (k:Y3→α) (e:Nat→α) (z:α) (p:qa5) (s:Y3):α:=let t1:=(lp (ma4 (⟨(rt tI s.la4),p.is7,s.is8⟩:ka2)) (⟨s.is3,(gL tI s.la4 s.is8.toNat)⟩:Y2));(sl (decide (s.is8 < p.is7)) (sl (inB s.is8 (List.length s.la4)) (sl ((cnE tI s.la4)&&true) (sl (Nat.beq t1.1 1) (k ⟨t1.2.is3,(rt tI s.la4),(W (s.is8+1))⟩) z) z) z) (e 1))
noncomputable def ga0 (p:qa5) (s:Y3):Stp Y3:=ia1 .next .exit .fail p s
noncomputable def Ta6:Lo qa5 Y3:=⟨En cb4,0,id4,[1,1,0,1,4,4],[3,6,7,8],(.s .p (.s .p (.s (.b (.s .p (.b (.u Ta5.ls)))) .p))),[⟨(ru2 3 ((.s (.o (.int .i64)))::((.s (.o .unk))::((.s (.o .unk))::((.s (.c 1 (nL tI)))::((.s (.o (.int .i64)))::((.s (.o (.int .i64)))::(ru2 14 [])))))))),[],fun a H=>(⟨(toI (slT a 7))⟩,⟨(toI (slT a 3)),(rL tI (slT a 6)),(toI (slT a 8))⟩)⟩],ga0,[(some 0,fun p s=>⟨(ra 3 ((i s.is3)::(.unk::(.unk::((eL tI s.la4)::((i p.is7)::((i s.is8)::((b (decide (s.is8 < p.is7)))::(ra 13 []))))))))),[]⟩)],Qb5⟩
theorem Qb6:Ta6.Ok:=Lo.ok [Ta5.pr] (by kernel_rfl) (.cons Qb4 .nil) rfl (.cons (fun a H=>by kernel_rfl) .nil) fun p s=>(.of @ia1 (fun F _ _ _ _ _=>by unfold ia1;(repeat' apply C7 (f:=F))<;>rfl) (by kernel_rfl))
noncomputable def Ga3 (x:List Int):Option (a7×List a8):=let t1:=(lp (ga0 (⟨(↑(List.length x):Int)⟩:qa5)) (⟨0,(rt tI x),0⟩:Y3));(sl ((cnE tI x)&&true) (sl (Nat.beq t1.1 1) (some ((i (if (W (0 - t1.2.is3)) > t1.2.is3 then (W (0 - t1.2.is3)) else t1.2.is3)),[])) none) none)
noncomputable def Ta7 (x:List Int):Int:=la8 (one r1I) (Ga3 x)
noncomputable def Ta8 (x:List Int):Bool:=okO (one r1I) (Ga3 x)
noncomputable def Lb4:Sum:=wa5 (Fa8 tI) (fun x=>.guard (Ta8 x) (.ret ((one r1I).enc (Ta7 x),[])))
theorem mc0:j7 prog G 74 Lb4:=hb6 (bd b74 bc4) (one r1I) (o:=Ga3) fun x=>hb8 (.s .p (.s .p (.s (.s .p (.b (.u Ta6.ls))) .p))) [Ta6.pr] (by kernel_rfl) (.cons Qb6 .nil) (by kernel_rfl)
noncomputable def bc5:List (Nat×Sum):=[(73,jb5),(47,cb2),(24,Ta3),(6,cb3),(74,Lb4)]
theorem Qb7:o9 prog G bc5:=⟨Lb3,rb7,jb4,rb8,mc0,trivial⟩
noncomputable def wa8 (x:Tp):Option (a7×List a8):=let t1:=(K3 x.q.n x.r.n);let t3:=(K5 t1 x.p.b);let t4:=(G7 (⟨0,0,0⟩:V3) t3);let t5:=(K3 x.r.n x.p.n);let t7:=(K5 t5 x.q.b);let t8:=(G7 t4 t7);let t9:=(K3 x.p.n x.q.n);let t10:=(pa1 x.r.n t9);let t11:=(K5 t9 x.r.b);let t12:=(G7 t8 t11);let t13:=(Ta7 [t12.x,t12.y,t12.z,t10]);(sl (t10==0) (some ((.tup [(.agg [(i 0),(i 0),(i 0),(i 0)]),(b false)]),[])) (sl (Ta8 [t12.x,t12.y,t12.z,t10]) (sl (decide (t10 < 0)) (sl ((W (0 - t13))==0) none (sl ((W (0 - t13))==0) none (sl ((W (0 - t13))==0) none (sl ((W (0 - t13))==0) none (some ((.tup [(.agg [(i (W (Int.tdiv t12.x (W (0 - t13))))),(i (W (Int.tdiv t12.y (W (0 - t13))))),(i (W (Int.tdiv t12.z (W (0 - t13))))),(i (W (Int.tdiv t10 (W (0 - t13)))))]),(b true)]),[])))))) (sl (t13==0) none (sl (t13==0) none (sl (t13==0) none (sl (t13==0) none (some ((.tup [(.agg [(i (W (Int.tdiv t12.x t13))),(i (W (Int.tdiv t12.y t13))),(i (W (Int.tdiv t12.z t13))),(i (W (Int.tdiv t10 t13)))]),(b true)]),[]))))))) none))
noncomputable def wa9 (x:Tp):Pt×Bool:=la8 (two r1X r1B) (wa8 x)
noncomputable def xa0 (x:Tp):Bool:=okO (two r1X r1B) (wa8 x)
noncomputable def Bb0:Sum:=wa5 (Ia3 tY) (fun x=>.guard (xa0 x) (.ret ((two r1X r1B).enc (wa9 x),[])))
theorem bc6:j7 prog G 54 Bb0:=hb6 (bd b54 Qb7) (two r1X r1B) (o:=wa8) fun x=>J5 (by kernel_rfl)
structure na6 where
 Ca0:Int
 Ca1:Int
 Ca2:Int
 Ia2:Int
 y6:Int
 o8:Int
 y7:Int
 c8:Int
noncomputable def xb6:List (Nat×Sum):=[(32,La8)]
theorem rb9:o9 prog G xb6:=⟨Ta4,trivial⟩
structure ea3 where
 bs0:Bool
noncomputable def ea4 {α:Type} (kk:ea3→α) (x:na6):α:=let t1:=(da5 (⟨(⟨x.Ca0,x.Ca1,x.Ca2⟩:V3),x.Ia2⟩:Pln) (⟨x.y6,x.o8,x.y7,x.c8⟩:Pt));(kk ⟨(decide (t1 < 0))⟩)
noncomputable def za4 (x:na6):ea3:=ea4 (fun r=>r) x
noncomputable def ua2 (x:na6) (r:ea3):DT (a7×List a8):=.ret ((b r.bs0),[⟨0,4,[[(i x.y6),(i x.o8),(i x.y7),(i x.c8)]],true,false,0⟩])
theorem Cb1 {α β:Type} (F:α→β) (kk:ea3→α) (x:na6):F (ea4 kk x)=ea4 (fun r=>F (kk r)) x:=by unfold ea4;(repeat' apply C7 (f:=F))<;>rfl
noncomputable def Wa2:Sum:=Ma8 ⟨[(.agg [(.o (.int .i64)),(.o (.int .i64)),(.o (.int .i64)),(.o (.int .i64))]),(.s (.o (.ptr 0 0 0 0)))],[⟨0,4,true,(some [[(.o (.int .i64)),(.o (.int .i64)),(.o (.int .i64)),(.o (.int .i64))]])⟩],fun a H=>(⟨(toI (slT (cellsOf (slT a 0)) 0)),(toI (slT (cellsOf (slT a 0)) 1)),(toI (slT (cellsOf (slT a 0)) 2)),(toI (slT (cellsOf (slT a 0)) 3)),(toI (slT (rwT (elT H 0) 0) 0)),(toI (slT (rwT (elT H 0) 0) 1)),(toI (slT (rwT (elT H 0) 0) 2)),(toI (slT (rwT (elT H 0) 0) 3))⟩,())⟩ (fun x=>ua2 x (za4 x))
theorem xb7:j7 prog G 62 Wa2:=Q1 (enc:=fun x=>⟨[(.agg [(i x.Ca0),(i x.Ca1),(i x.Ca2),(i x.Ia2)]),(.ptr 0 0 0 0)],[⟨0,4,[[(i x.y6),(i x.o8),(i x.y7),(i x.c8)]],true,false,0⟩]⟩) (fun a H=>by kernel_rfl) (bd b62 rb9) fun x=>J5 (Eq.trans (b:=ea4 (fun r=>(ua2 x r).run) x) (by kernel_rfl) (Cb1 (fun r=>(ua2 x r).run) (fun r=>r) x).symm)
structure L0 where
 v6:List Pln
 y6:Int
 o8:Int
 y7:Int
 c8:Int
noncomputable def ia2:List (Nat×Sum):=[(62,Wa2)]
theorem Da0:o9 prog G ia2:=⟨xb7,trivial⟩
structure D9 where
 v6:List Pln
 is7:Int
 y6:Int
 o8:Int
 y7:Int
 c8:Int
structure l0 where
 is8:Int
noncomputable def za5 (p:D9) (s:l0):St:=⟨((eL tP p.v6)::((.fn 62 [(.ptr 0 0 0 0)])::(ra 5 ((i p.is7)::((i s.is8)::(ra 10 [])))))),[⟨0,4,[[(i p.y6),(i p.o8),(i p.y7),(i p.c8)]],true,false,0⟩]⟩
noncomputable def A5 {α:Type} (k:l0→α) (e:Nat→α) (z:α) (p:D9) (s:l0):α:=let t1:=(za4 ⟨(gL tP p.v6 s.is8.toNat).n.x,(gL tP p.v6 s.is8.toNat).n.y,(gL tP p.v6 s.is8.toNat).n.z,(gL tP p.v6 s.is8.toNat).b,p.y6,p.o8,p.y7,p.c8⟩);(sl (decide (s.is8 < p.is7)) (sl (inB s.is8 (List.length p.v6)) (sl t1.bs0 (e 1) (k ⟨(W (s.is8+1))⟩)) z) (e 2))
noncomputable def C9 (p:D9) (s:l0):Stp l0:=A5 .next .exit .fail p s
noncomputable def S4:Lo D9 l0:=⟨En ia2,1,Xc9,[1,0,1,4,4],[0,1,7,8],.p,[⟨((.s (.c 4 (nL tP)))::((.fn 62 [(.o (.ptr 0 0 0 0))])::(ru2 5 ((.s (.o (.int .i64)))::((.s (.o (.int .i64)))::(ru2 10 [])))))),[⟨0,4,true,(some [[(.o (.int .i64)),(.o (.int .i64)),(.o (.int .i64)),(.o (.int .i64))]])⟩],fun a H=>(⟨(rL tP (slT a 0)),(toI (slT a 7)),(toI (slT (rwT (elT H 0) 0) 0)),(toI (slT (rwT (elT H 0) 0) 1)),(toI (slT (rwT (elT H 0) 0) 2)),(toI (slT (rwT (elT H 0) 0) 3))⟩,⟨(toI (slT a 8))⟩)⟩],C9,[(none,fun p s=>⟨[(i s.is8)],[⟨0,4,[[(i p.y6),(i p.o8),(i p.y7),(i p.c8)]],true,false,0⟩]⟩),(some 0,fun p s=>⟨((eL tP p.v6)::((.fn 62 [(.ptr 0 0 0 0)])::(ra 5 ((i p.is7)::((i s.is8)::((b (decide (s.is8 < p.is7)))::(ra 9 []))))))),[⟨0,4,[[(i p.y6),(i p.o8),(i p.y7),(i p.c8)]],true,false,0⟩]⟩)],za5⟩
theorem za6:S4.Ok:=Lo.ok [] (by kernel_rfl) .nil rfl (.cons (fun a H=>by kernel_rfl) .nil) fun p s=>(.of @A5 (fun F _ _ _ _ _=>by unfold A5;(repeat' apply C7 (f:=F))<;>rfl) (by kernel_rfl))
structure L1 where
 alt:Nat
 is0:Int
noncomputable def B4 {α:Type} (kk:L1→α) (x:L0):α:=let t1:=(lp (C9 (⟨(rt tP x.v6),(↑(List.length x.v6):Int),x.y6,x.o8,x.y7,x.c8⟩:D9)) (⟨0⟩:l0));(sl ((cnE tP x.v6)&&true) (sl (Nat.beq t1.1 1) (kk ⟨1,t1.2.is8⟩) (sl (Nat.beq t1.1 2) (kk ⟨1,(-1)⟩) (kk ⟨0,0⟩))) (kk ⟨0,0⟩))
noncomputable def L2 (x:L0):L1:=B4 (fun r=>r) x
noncomputable def U5 (x:L0) (r:L1):DT (a7×List a8):=(.ite (Nat.beq r.alt 1) (.ret ((i r.is0),[⟨0,4,[[(i x.y6),(i x.o8),(i x.y7),(i x.c8)]],true,false,0⟩])) .fail)
theorem Ia4 {α β:Type} (F:α→β) (kk:L1→α) (x:L0):F (B4 kk x)=B4 (fun r=>F (kk r)) x:=by unfold B4;(repeat' apply C7 (f:=F))<;>rfl
noncomputable def ka6:Sum:=Ma8 ⟨[(.s (.c 4 (nL tP))),(.fn 62 [(.o (.ptr 0 0 0 0))])],[⟨0,4,true,(some [[(.o (.int .i64)),(.o (.int .i64)),(.o (.int .i64)),(.o (.int .i64))]])⟩],fun a H=>(⟨(rL tP (slT a 0)),(toI (slT (rwT (elT H 0) 0) 0)),(toI (slT (rwT (elT H 0) 0) 1)),(toI (slT (rwT (elT H 0) 0) 2)),(toI (slT (rwT (elT H 0) 0) 3))⟩,())⟩ (fun x=>U5 x (L2 x))
theorem Ga4:j7 prog G 55 ka6:=Q1 (enc:=fun x=>⟨[(eL tP x.v6),(.fn 62 [(.ptr 0 0 0 0)])],[⟨0,4,[[(i x.y6),(i x.o8),(i x.y7),(i x.c8)]],true,false,0⟩]⟩) (fun a H=>by kernel_rfl) (bd b55 Da0) fun x=>hb8 (.s .p (.s (.s .p (.b (.u S4.ls))) .p)) [S4.pr] (by kernel_rfl) (.cons za6 .nil) (Eq.trans (b:=B4 (fun r=>(U5 x r).run) x) (by kernel_rfl) (Ia4 (fun r=>(U5 x r).run) (fun r=>r) x).symm)
structure H9 where
 v6:List Pln
 y6:Int
 o8:Int
 y7:Int
 c8:Int
noncomputable def xa1:List (Nat×Sum):=[(55,ka6)]
theorem ua3:o9 prog G xa1:=⟨Ga4,trivial⟩
structure I0 where
 alt:Nat
 bs0:Bool
noncomputable def v7 {α:Type} (kk:I0→α) (x:H9):α:=let t1:=(L2 ⟨(rt tP x.v6),x.y6,x.o8,x.y7,x.c8⟩);(sl ((cnE tP x.v6)&&true) (sl (Nat.beq t1.alt 1) (kk ⟨1,(decide (t1.is0≥0))⟩) (kk ⟨0,false⟩)) (kk ⟨0,false⟩))
noncomputable def Q6 (x:H9):I0:=v7 (fun r=>r) x
noncomputable def P0 (x:H9) (r:I0):DT (a7×List a8):=(.ite (Nat.beq r.alt 1) (.ret ((b r.bs0),[⟨0,4,[[(i x.y6),(i x.o8),(i x.y7),(i x.c8)]],true,false,0⟩])) .fail)
theorem za7 {α β:Type} (F:α→β) (kk:I0→α) (x:H9):F (v7 kk x)=v7 (fun r=>F (kk r)) x:=by unfold v7;(repeat' apply C7 (f:=F))<;>rfl
noncomputable def ea5:Sum:=Ma8 ⟨[(.s (.c 4 (nL tP))),(.fn 62 [(.o (.ptr 0 0 0 0))])],[⟨0,4,true,(some [[(.o (.int .i64)),(.o (.int .i64)),(.o (.int .i64)),(.o (.int .i64))]])⟩],fun a H=>(⟨(rL tP (slT a 0)),(toI (slT (rwT (elT H 0) 0) 0)),(toI (slT (rwT (elT H 0) 0) 1)),(toI (slT (rwT (elT H 0) 0) 2)),(toI (slT (rwT (elT H 0) 0) 3))⟩,())⟩ (fun x=>P0 x (Q6 x))
theorem xa2:j7 prog G 48 ea5:=Q1 (enc:=fun x=>⟨[(eL tP x.v6),(.fn 62 [(.ptr 0 0 0 0)])],[⟨0,4,[[(i x.y6),(i x.o8),(i x.y7),(i x.c8)]],true,false,0⟩]⟩) (fun a H=>by kernel_rfl) (bd b48 ua3) fun x=>J5 (Eq.trans (b:=v7 (fun r=>(P0 x r).run) x) (by kernel_rfl) (za7 (fun r=>(P0 x r).run) (fun r=>r) x).symm)
noncomputable def Lb5:List (Nat×Sum):=[(48,ea5)]
theorem Cb2:o9 prog G Lb5:=⟨xa2,trivial⟩
noncomputable def ma5 (x:List Pln) (y:Pt):Option (a7×List a8):=let t1:=(Q6 ⟨(rt tP x),y.px,y.py,y.pz,y.pw⟩);(sl ((cnE tP x)&&true) (sl (Nat.beq t1.alt 1) (some ((b (!t1.bs0)),[])) none) none)
noncomputable def N9 (x:List Pln) (y:Pt):Bool:=la8 (one r1B) (ma5 x y)
noncomputable def O0 (x:List Pln) (y:Pt):Bool:=okO (one r1B) (ma5 x y)
noncomputable def va7:Sum:=wa6 (Fa8 tP) (Ia3 tX) (fun x y=>.guard (O0 x y) (.ret ((one r1B).enc (N9 x y),[])))
theorem Ga5:j7 prog G 39 va7:=Jb7 (bd b39 Cb2) (one r1B) (o:=ma5) fun x y=>J5 (by kernel_rfl)
noncomputable def ma6:List (Nat×Sum):=[]
theorem Ia5:o9 prog G ma6:=trivial
@[reducible] noncomputable def pa2:Sum:=q7 (En ma6) od5
theorem Ma9:j7 prog G 72 pa2:=bd b72 Ia5
noncomputable def qa6:List (Nat×Sum):=[(72,pa2)]
theorem Pa7:o9 prog G qa6:=⟨Ma9,trivial⟩
@[reducible] noncomputable def ta1:Sum:=q7 (En qa6) od2
theorem Ta9:j7 prog G 53 ta1:=bd b53 Pa7
noncomputable def S5:List (Nat×Sum):=[(54,Bb0),(39,va7),(53,ta1)]
theorem Pa8:o9 prog G S5:=⟨bc6,Ga5,Ta9,trivial⟩
structure g8 where
 is3:Int
 K1:List Pln
 ta0:Int
 N5:Int
 ub8:Nat
 Ea2:Nat→List a7
 W7:Int
 da2:Int
 wc5:Nat
 Ba8:Nat→List a7
 ec7:Int
 d7:List Pln
 O6:Int
 O7:Int
 O8:Int
 O9:Int
 aa7:Int
 aa8:Int
 aa9:Int
 Ea3:Int
 da3:List Pln
structure g9 where
 ph:Nat
 fa4:Int
 wa2:Nat
 eh6:List (List a7)
 eh7:List (List a7)
noncomputable def Ia6 (p:g8) (s:g9):St:=⟨(.unk::((.ptr 0 0 0 0)::(.unk::((i p.is3)::((.ptr 1 0 0 0)::(.unk::((.ptr 2 0 0 0)::(.unk::(.unk::((eL tP p.K1)::((i p.ta0)::((i p.N5)::(ra 7 ((.tree 4 p.ub8 p.Ea2)::((i p.W7)::((i p.da2)::(ra 9 ((.tree 4 p.wc5 p.Ba8)::((i p.ec7)::((i s.fa4)::(ra 13 ((i 0)::(.unk::((.ptr 3 0 0 0)::((.v (.slice none 0 0))::((.ptr 4 0 0 0)::((.ptr 5 0 0 0)::(ra 31 [])))))))))))))))))))))))))))),[⟨0,1,[[(eL tP p.d7)]],true,false,0⟩,⟨0,4,[[(i p.O6),(i p.O7),(i p.O8),(i p.O9)]],true,false,0⟩,⟨0,4,[[(i p.aa7),(i p.aa8),(i p.aa9),(i p.Ea3)]],true,false,0⟩,⟨0,1,[[(eL tP p.da3)]],true,false,0⟩,⟨0,0,[[(.v (.slice none 0 0))]],true,false,0⟩,⟨0,0,[[(.ptr 6 0 0 0)]],true,false,0⟩,⟨84,0,[],true,false,0⟩]⟩
noncomputable def Ia7 (p:g8) (s:g9):St:=⟨(.unk::((.ptr 0 0 0 0)::(.unk::((i p.is3)::((.ptr 1 0 0 0)::(.unk::((.ptr 2 0 0 0)::(.unk::(.unk::((eL tP p.K1)::((i p.ta0)::((i p.N5)::(ra 7 ((.tree 4 p.ub8 p.Ea2)::((i p.W7)::((i p.da2)::(ra 9 ((.tree 4 p.wc5 p.Ba8)::((i p.ec7)::((i s.fa4)::(ra 13 ((i 0)::(.unk::((.ptr 3 0 0 0)::((.v (.slice none 0 0))::((.ptr 4 0 0 0)::((.ptr 5 0 0 0)::(ra 31 [])))))))))))))))))))))))))))),[⟨0,1,[[(eL tP p.d7)]],true,false,0⟩,⟨0,4,[[(i p.O6),(i p.O7),(i p.O8),(i p.O9)]],true,false,0⟩,⟨0,4,[[(i p.aa7),(i p.aa8),(i p.aa9),(i p.Ea3)]],true,false,0⟩,⟨0,1,[[(eL tP p.da3)]],true,false,0⟩,⟨0,0,[[(.sl 6 0 s.wa2 0)]],true,false,0⟩,⟨0,0,[[(.ptr 7 0 0 0)]],true,false,0⟩,⟨53,4,s.eh6,true,false,0⟩,⟨84,0,s.eh7,true,false,0⟩]⟩
noncomputable def Na0 (p:g8) (s:g9):St:=(sel (Nat.beq s.ph 1) (Ia7 p s) (Ia6 p s))
noncomputable def s5 {α:Type} (k:g9→α) (e:Nat→α) (z:α) (p:g8) (s:g9):α:=let t1:=(wa9 (⟨(⟨(⟨p.O6,p.O7,p.O8⟩:V3),p.O9⟩:Pln),(⟨(⟨p.aa7,p.aa8,p.aa9⟩:V3),p.Ea3⟩:Pln),(⟨(⟨(toI (hdA (p.Ba8 s.fa4.toNat))),(toI (hdA (tlA (p.Ba8 s.fa4.toNat)))),(toI (hdA (tlA (tlA (p.Ba8 s.fa4.toNat)))))⟩:V3),(toI (hdA (tlA (tlA (tlA (p.Ba8 s.fa4.toNat))))))⟩:Pln)⟩:Tp));let t2:=(N9 (rt tP p.da3) t1.1);(sl (decide (s.fa4 < p.ec7)) (sl (inB s.fa4 p.wc5) (sl ((Nat.ble 4 (len (p.Ba8 s.fa4.toNat)))&&(Ka9 [(CK.int .i64),(CK.int .i64),(CK.int .i64),(CK.int .i64)] (p.Ba8 s.fa4.toNat))) (sl (xa0 (⟨(⟨(⟨p.O6,p.O7,p.O8⟩:V3),p.O9⟩:Pln),(⟨(⟨p.aa7,p.aa8,p.aa9⟩:V3),p.Ea3⟩:Pln),(⟨(⟨(toI (hdA (p.Ba8 s.fa4.toNat))),(toI (hdA (tlA (p.Ba8 s.fa4.toNat)))),(toI (hdA (tlA (tlA (p.Ba8 s.fa4.toNat)))))⟩:V3),(toI (hdA (tlA (tlA (tlA (p.Ba8 s.fa4.toNat))))))⟩:Pln)⟩:Tp)) (sl t1.2 (sl (!(ob4 4 [(0,(.int .i64)),(1,(.int .i64)),(2,(.int .i64)),(3,(.int .i64))] [(i t1.1.px),(i t1.1.py),(i t1.1.pz),(i t1.1.pw)] [])) (sl (okE tP p.da3) (sl (O0 (rt tP p.da3) t1.1) (sl t2 (k ⟨1,(W (s.fa4+1)),1,[[(i t1.1.px),(i t1.1.py),(i t1.1.pz),(i t1.1.pw)]],(Ma1 [(0,(.int .i64)),(1,(.int .i64)),(2,(.int .i64)),(3,(.int .i64))] [(i t1.1.px),(i t1.1.py),(i t1.1.pz),(i t1.1.pw)] [(i t1.1.px),(i t1.1.py),(i t1.1.pz),(i t1.1.pw),(b true)] [])⟩) (k ⟨0,(W (s.fa4+1)),0,[],[]⟩)) z) z) (k ⟨0,(W (s.fa4+1)),0,[],[]⟩)) (k ⟨0,(W (s.fa4+1)),0,[],[]⟩)) z) z) z) (e 1))
noncomputable def s6 {α:Type} (k:g9→α) (e:Nat→α) (z:α) (p:g8) (s:g9):α:=let t1:=(wa9 (⟨(⟨(⟨p.O6,p.O7,p.O8⟩:V3),p.O9⟩:Pln),(⟨(⟨p.aa7,p.aa8,p.aa9⟩:V3),p.Ea3⟩:Pln),(⟨(⟨(toI (hdA (p.Ba8 s.fa4.toNat))),(toI (hdA (tlA (p.Ba8 s.fa4.toNat)))),(toI (hdA (tlA (tlA (p.Ba8 s.fa4.toNat)))))⟩:V3),(toI (hdA (tlA (tlA (tlA (p.Ba8 s.fa4.toNat))))))⟩:Pln)⟩:Tp));let t2:=(N9 (rt tP p.da3) t1.1);(sl (decide (s.fa4 < p.ec7)) (sl (inB s.fa4 p.wc5) (sl ((Nat.ble 4 (len (p.Ba8 s.fa4.toNat)))&&(Ka9 [(CK.int .i64),(CK.int .i64),(CK.int .i64),(CK.int .i64)] (p.Ba8 s.fa4.toNat))) (sl (xa0 (⟨(⟨(⟨p.O6,p.O7,p.O8⟩:V3),p.O9⟩:Pln),(⟨(⟨p.aa7,p.aa8,p.aa9⟩:V3),p.Ea3⟩:Pln),(⟨(⟨(toI (hdA (p.Ba8 s.fa4.toNat))),(toI (hdA (tlA (p.Ba8 s.fa4.toNat)))),(toI (hdA (tlA (tlA (p.Ba8 s.fa4.toNat)))))⟩:V3),(toI (hdA (tlA (tlA (tlA (p.Ba8 s.fa4.toNat))))))⟩:Pln)⟩:Tp)) (sl t1.2 (sl (!(ob4 4 [(0,(.int .i64)),(1,(.int .i64)),(2,(.int .i64)),(3,(.int .i64))] [(i t1.1.px),(i t1.1.py),(i t1.1.pz),(i t1.1.pw)] s.eh7)) (sl (okE tP p.da3) (sl (O0 (rt tP p.da3) t1.1) (sl t2 (sl (Nat.beq s.wa2 (len s.eh6)&&Nat.ble ((s.wa2+1)*32) room) (k ⟨1,(W (s.fa4+1)),(s.wa2+1),(app s.eh6 [[(i t1.1.px),(i t1.1.py),(i t1.1.pz),(i t1.1.pw)]]),(Ma1 [(0,(.int .i64)),(1,(.int .i64)),(2,(.int .i64)),(3,(.int .i64))] [(i t1.1.px),(i t1.1.py),(i t1.1.pz),(i t1.1.pw)] [(i t1.1.px),(i t1.1.py),(i t1.1.pz),(i t1.1.pw),(b true)] s.eh7)⟩) z) (k ⟨1,(W (s.fa4+1)),s.wa2,s.eh6,s.eh7⟩)) z) z) (k ⟨1,(W (s.fa4+1)),s.wa2,s.eh6,s.eh7⟩)) (k ⟨1,(W (s.fa4+1)),s.wa2,s.eh6,s.eh7⟩)) z) z) z) (e 2))
noncomputable def p6 (p:g8) (s:g9):Stp g9:=(sel (Nat.beq s.ph 1) (s6 .next .exit .fail p s) (s5 .next .exit .fail p s))
noncomputable def ba6:Lo g8 g9:=⟨En S5,0,Xc8,[1,1,1,0,1,4,4,1,4,4,1,1,0,4,1,1,4,4,1,1,0,4,1,1,4,4],[1,3,4,6,9,10,11,19,20,21,31,32,33,47,49,50,51,52],.p,[⟨((.s (.o .unk))::((.s (.o (.ptr 0 0 0 0)))::((.s (.o .unk))::((.s (.o (.int .i64)))::((.s (.o (.ptr 1 0 0 0)))::((.s (.o .unk))::((.s (.o (.ptr 2 0 0 0)))::((.s (.o .unk))::((.s (.o .unk))::((.s (.c 4 (nL tP)))::((.s (.o (.int .i64)))::((.s (.o (.int .i64)))::(ru2 7 ((.s (.o (.tree 4)))::((.s (.o (.int .i64)))::((.s (.o (.int .i64)))::(ru2 9 ((.s (.o (.tree 4)))::((.s (.o (.int .i64)))::((.s (.o (.int .i64)))::(ru2 13 ((.s (.o (.lit .i64 0)))::((.s (.o .unk))::((.s (.o (.ptr 3 0 0 0)))::((.s (.o .nil))::((.s (.o (.ptr 4 0 0 0)))::((.s (.o (.ptr 5 0 0 0)))::(ru2 31 [])))))))))))))))))))))))))))),[⟨0,1,true,(some [[(.c 4 (nL tP))]])⟩,⟨0,4,true,(some [[(.o (.int .i64)),(.o (.int .i64)),(.o (.int .i64)),(.o (.int .i64))]])⟩,⟨0,4,true,(some [[(.o (.int .i64)),(.o (.int .i64)),(.o (.int .i64)),(.o (.int .i64))]])⟩,⟨0,1,true,(some [[(.c 4 (nL tP))]])⟩,⟨0,0,true,(some [[(.o .nil)]])⟩,⟨0,0,true,(some [[(.o (.ptr 6 0 0 0))]])⟩,⟨84,0,true,(some [])⟩],fun a H=>(⟨(toI (slT a 3)),(rL tP (slT a 9)),(toI (slT a 10)),(toI (slT a 11)),(toN (slT a 19)),(toG (slT a 19)),(toI (slT a 20)),(toI (slT a 21)),(toN (slT a 31)),(toG (slT a 31)),(toI (slT a 32)),(rL tP (slT (rwT (elT H 0) 0) 0)),(toI (slT (rwT (elT H 1) 0) 0)),(toI (slT (rwT (elT H 1) 0) 1)),(toI (slT (rwT (elT H 1) 0) 2)),(toI (slT (rwT (elT H 1) 0) 3)),(toI (slT (rwT (elT H 2) 0) 0)),(toI (slT (rwT (elT H 2) 0) 1)),(toI (slT (rwT (elT H 2) 0) 2)),(toI (slT (rwT (elT H 2) 0) 3)),(rL tP (slT (rwT (elT H 3) 0) 0))⟩,⟨0,(toI (slT a 33)),0,[],[]⟩)⟩,⟨((.s (.o .unk))::((.s (.o (.ptr 0 0 0 0)))::((.s (.o .unk))::((.s (.o (.int .i64)))::((.s (.o (.ptr 1 0 0 0)))::((.s (.o .unk))::((.s (.o (.ptr 2 0 0 0)))::((.s (.o .unk))::((.s (.o .unk))::((.s (.c 4 (nL tP)))::((.s (.o (.int .i64)))::((.s (.o (.int .i64)))::(ru2 7 ((.s (.o (.tree 4)))::((.s (.o (.int .i64)))::((.s (.o (.int .i64)))::(ru2 9 ((.s (.o (.tree 4)))::((.s (.o (.int .i64)))::((.s (.o (.int .i64)))::(ru2 13 ((.s (.o (.lit .i64 0)))::((.s (.o .unk))::((.s (.o (.ptr 3 0 0 0)))::((.s (.o .nil))::((.s (.o (.ptr 4 0 0 0)))::((.s (.o (.ptr 5 0 0 0)))::(ru2 31 [])))))))))))))))))))))))))))),[⟨0,1,true,(some [[(.c 4 (nL tP))]])⟩,⟨0,4,true,(some [[(.o (.int .i64)),(.o (.int .i64)),(.o (.int .i64)),(.o (.int .i64))]])⟩,⟨0,4,true,(some [[(.o (.int .i64)),(.o (.int .i64)),(.o (.int .i64)),(.o (.int .i64))]])⟩,⟨0,1,true,(some [[(.c 4 (nL tP))]])⟩,⟨0,0,true,(some [[(.o (.sl 6 0 (some 0) none))]])⟩,⟨0,0,true,(some [[(.o (.ptr 7 0 0 0))]])⟩,⟨53,4,true,none⟩,⟨84,0,true,none⟩],fun a H=>(⟨(toI (slT a 3)),(rL tP (slT a 9)),(toI (slT a 10)),(toI (slT a 11)),(toN (slT a 19)),(toG (slT a 19)),(toI (slT a 20)),(toI (slT a 21)),(toN (slT a 31)),(toG (slT a 31)),(toI (slT a 32)),(rL tP (slT (rwT (elT H 0) 0) 0)),(toI (slT (rwT (elT H 1) 0) 0)),(toI (slT (rwT (elT H 1) 0) 1)),(toI (slT (rwT (elT H 1) 0) 2)),(toI (slT (rwT (elT H 1) 0) 3)),(toI (slT (rwT (elT H 2) 0) 0)),(toI (slT (rwT (elT H 2) 0) 1)),(toI (slT (rwT (elT H 2) 0) 2)),(toI (slT (rwT (elT H 2) 0) 3)),(rL tP (slT (rwT (elT H 3) 0) 0))⟩,⟨1,(toI (slT a 33)),(slN (slT (rwT (elT H 4) 0) 0)),(elT H 6),(elT H 7)⟩)⟩],p6,[(some 4,fun p s=>⟨(.unk::((.ptr 0 0 0 0)::(.unk::((i p.is3)::((.ptr 1 0 0 0)::(.unk::((.ptr 2 0 0 0)::(.unk::(.unk::((eL tP p.K1)::((i p.ta0)::((i p.N5)::(ra 7 ((.tree 4 p.ub8 p.Ea2)::((i p.W7)::((i p.da2)::(ra 9 ((.tree 4 p.wc5 p.Ba8)::((i p.ec7)::((i s.fa4)::((b (decide (s.fa4 < p.ec7)))::(ra 12 ((i 0)::(.unk::((.ptr 3 0 0 0)::((.v (.slice none 0 0))::((.ptr 4 0 0 0)::((.ptr 5 0 0 0)::(ra 31 []))))))))))))))))))))))))))))),[⟨0,1,[[(eL tP p.d7)]],true,false,0⟩,⟨0,4,[[(i p.O6),(i p.O7),(i p.O8),(i p.O9)]],true,false,0⟩,⟨0,4,[[(i p.aa7),(i p.aa8),(i p.aa9),(i p.Ea3)]],true,false,0⟩,⟨0,1,[[(eL tP p.da3)]],true,false,0⟩,⟨0,0,[[(.v (.slice none 0 0))]],true,false,0⟩,⟨0,0,[[(.ptr 6 0 0 0)]],true,false,0⟩,⟨84,0,[],true,false,0⟩]⟩),(some 4,fun p s=>⟨(.unk::((.ptr 0 0 0 0)::(.unk::((i p.is3)::((.ptr 1 0 0 0)::(.unk::((.ptr 2 0 0 0)::(.unk::(.unk::((eL tP p.K1)::((i p.ta0)::((i p.N5)::(ra 7 ((.tree 4 p.ub8 p.Ea2)::((i p.W7)::((i p.da2)::(ra 9 ((.tree 4 p.wc5 p.Ba8)::((i p.ec7)::((i s.fa4)::((b (decide (s.fa4 < p.ec7)))::(ra 12 ((i 0)::(.unk::((.ptr 3 0 0 0)::((.v (.slice none 0 0))::((.ptr 4 0 0 0)::((.ptr 5 0 0 0)::(ra 31 []))))))))))))))))))))))))))))),[⟨0,1,[[(eL tP p.d7)]],true,false,0⟩,⟨0,4,[[(i p.O6),(i p.O7),(i p.O8),(i p.O9)]],true,false,0⟩,⟨0,4,[[(i p.aa7),(i p.aa8),(i p.aa9),(i p.Ea3)]],true,false,0⟩,⟨0,1,[[(eL tP p.da3)]],true,false,0⟩,⟨0,0,[[(.sl 6 0 s.wa2 0)]],true,false,0⟩,⟨0,0,[[(.ptr 7 0 0 0)]],true,false,0⟩,⟨53,4,s.eh6,true,false,0⟩,⟨84,0,s.eh7,true,false,0⟩]⟩)],Na0⟩
theorem Na1:ba6.OkM:=Lo.okM [] (by kernel_rfl) .nil rfl (.cons (fun a H=>by kernel_rfl) (.cons (fun a H=>by kernel_rfl) .nil)) fun p s=>(.sel (Nat.beq s.ph 1) (.of @s6 (fun F _ _ _ _ _=>by unfold s6;(repeat' apply C7 (f:=F))<;>rfl) (by kernel_rfl)) (.of @s5 (fun F _ _ _ _ _=>by unfold s5;(repeat' apply C7 (f:=F))<;>rfl) (by kernel_rfl)))
structure i4 where
 is3:Int
 ta0:Int
 N5:Int
 ub8:Nat
 Ea2:Nat→List a7
 W7:Int
 O6:Int
 O7:Int
 O8:Int
 O9:Int
structure i6 where
 ph:Nat
 K1:List Pln
 da2:Int
 d7:List Pln
 K8:List Pln
 ub9:Nat
 eh5:List (List a7)
 eh6:List (List a7)
noncomputable def Ia8 (p:i4) (s:i6):St:=⟨(.unk::((.ptr 0 0 0 0)::(.unk::((i p.is3)::((.ptr 1 0 0 0)::(ra 4 ((eL tP s.K1)::((i p.ta0)::((i p.N5)::(ra 7 ((.tree 4 p.ub8 p.Ea2)::((i p.W7)::((i s.da2)::(ra 25 ((i 0)::(.unk::((.ptr 2 0 0 0)::((.v (.slice none 0 0))::((.ptr 3 0 0 0)::((.ptr 4 0 0 0)::(ra 31 []))))))))))))))))))))),[⟨0,1,[[(eL tP s.d7)]],true,false,0⟩,⟨0,4,[[(i p.O6),(i p.O7),(i p.O8),(i p.O9)]],true,false,0⟩,⟨0,1,[[(eL tP s.K8)]],true,false,0⟩,⟨0,0,[[(.v (.slice none 0 0))]],true,false,0⟩,⟨0,0,[[(.ptr 5 0 0 0)]],true,false,0⟩,⟨84,0,[],true,false,0⟩]⟩
noncomputable def Ia9 (p:i4) (s:i6):St:=⟨(.unk::((.ptr 0 0 0 0)::(.unk::((i p.is3)::((.ptr 1 0 0 0)::(ra 4 ((eL tP s.K1)::((i p.ta0)::((i p.N5)::(ra 7 ((.tree 4 p.ub8 p.Ea2)::((i p.W7)::((i s.da2)::(ra 25 ((i 0)::(.unk::((.ptr 2 0 0 0)::((.v (.slice none 0 0))::((.ptr 3 0 0 0)::((.ptr 4 0 0 0)::(ra 31 []))))))))))))))))))))),[⟨0,1,[[(eL tP s.d7)]],true,false,0⟩,⟨0,4,[[(i p.O6),(i p.O7),(i p.O8),(i p.O9)]],true,false,0⟩,⟨0,1,[[(eL tP s.K8)]],true,false,0⟩,⟨0,0,[[(.sl 5 0 s.ub9 0)]],true,false,0⟩,⟨0,0,[[(.ptr 6 0 0 0)]],true,false,0⟩,⟨53,4,s.eh5,true,false,0⟩,⟨84,0,s.eh6,true,false,0⟩]⟩
noncomputable def Na2 (p:i4) (s:i6):St:=(sel (Nat.beq s.ph 1) (Ia9 p s) (Ia8 p s))
noncomputable def s7 {α:Type} (k:i6→α) (e:Nat→α) (z:α) (p:i4) (s:i6):α:=let t1:=(lp (p6 (⟨p.is3,(rt tP s.K1),p.ta0,p.N5,p.ub8,p.Ea2,p.W7,s.da2,((List.length s.d7) - (W ((W (p.is3+s.da2))+2)).toNat),(fun k=>(fun k=>(tP).row (gL tP s.d7 k)) ((W ((W (p.is3+s.da2))+2)).toNat+k)),(↑((List.length s.d7) - (W ((W (p.is3+s.da2))+2)).toNat):Int),(rt tP s.d7),p.O6,p.O7,p.O8,p.O9,(toI (hdA (p.Ea2 s.da2.toNat))),(toI (hdA (tlA (p.Ea2 s.da2.toNat)))),(toI (hdA (tlA (tlA (p.Ea2 s.da2.toNat))))),(toI (hdA (tlA (tlA (tlA (p.Ea2 s.da2.toNat)))))),(rt tP s.K8)⟩:g8)) (⟨0,0,0,[],[]⟩:g9));(sl (decide (s.da2 < p.W7)) (sl (inB s.da2 p.ub8) (sl ((Nat.ble 4 (len (p.Ea2 s.da2.toNat)))&&(Ka9 [(CK.int .i64),(CK.int .i64),(CK.int .i64),(CK.int .i64)] (p.Ea2 s.da2.toNat))) (sl (inB (W ((W (p.is3+s.da2))+2)) ((List.length s.d7)+1)) (sl ((cnE tP s.K1)&&((cnE tP s.d7)&&((cnE tP s.K8)&&true))) (sl (Nat.beq t1.1 1) (k ⟨0,(rt tP s.K1),(W (s.da2+1)),(rt tP s.d7),(rt tP s.K8),0,[],[]⟩) (sl (Nat.beq t1.1 2) (k ⟨1,(rt tP s.K1),(W (s.da2+1)),(rt tP s.d7),(rt tP s.K8),t1.2.wa2,t1.2.eh6,t1.2.eh7⟩) z)) z) z) z) z) (e 1))
noncomputable def s8 {α:Type} (k:i6→α) (e:Nat→α) (z:α) (p:i4) (s:i6):α:=let t1:=(lp (p6 (⟨p.is3,(rt tP s.K1),p.ta0,p.N5,p.ub8,p.Ea2,p.W7,s.da2,((List.length s.d7) - (W ((W (p.is3+s.da2))+2)).toNat),(fun k=>(fun k=>(tP).row (gL tP s.d7 k)) ((W ((W (p.is3+s.da2))+2)).toNat+k)),(↑((List.length s.d7) - (W ((W (p.is3+s.da2))+2)).toNat):Int),(rt tP s.d7),p.O6,p.O7,p.O8,p.O9,(toI (hdA (p.Ea2 s.da2.toNat))),(toI (hdA (tlA (p.Ea2 s.da2.toNat)))),(toI (hdA (tlA (tlA (p.Ea2 s.da2.toNat))))),(toI (hdA (tlA (tlA (tlA (p.Ea2 s.da2.toNat)))))),(rt tP s.K8)⟩:g8)) (⟨1,0,s.ub9,s.eh5,s.eh6⟩:g9));(sl (decide (s.da2 < p.W7)) (sl (inB s.da2 p.ub8) (sl ((Nat.ble 4 (len (p.Ea2 s.da2.toNat)))&&(Ka9 [(CK.int .i64),(CK.int .i64),(CK.int .i64),(CK.int .i64)] (p.Ea2 s.da2.toNat))) (sl (inB (W ((W (p.is3+s.da2))+2)) ((List.length s.d7)+1)) (sl ((cnE tP s.K1)&&((cnE tP s.d7)&&((cnE tP s.K8)&&true))) (sl (Nat.beq t1.1 1) (k ⟨0,(rt tP s.K1),(W (s.da2+1)),(rt tP s.d7),(rt tP s.K8),0,[],[]⟩) (sl (Nat.beq t1.1 2) (k ⟨1,(rt tP s.K1),(W (s.da2+1)),(rt tP s.d7),(rt tP s.K8),t1.2.wa2,t1.2.eh6,t1.2.eh7⟩) z)) z) z) z) z) (e 2))
noncomputable def p7 (p:i4) (s:i6):Stp i6:=(sel (Nat.beq s.ph 1) (s8 .next .exit .fail p s) (s7 .next .exit .fail p s))
noncomputable def ba7:Lo i4 i6:=⟨En S5,0,Xc8,[1,1,1,0,1,4,4,1,4,4,1,1,0,4,1,1,4,4],[1,3,4,9,10,11,19,20,21,47,49,50,51,52],(.s .p (.s .p (.s (.b (.s .p (.s .p (.b (.u ba6.lsM))))) .p))),[⟨((.s (.o .unk))::((.s (.o (.ptr 0 0 0 0)))::((.s (.o .unk))::((.s (.o (.int .i64)))::((.s (.o (.ptr 1 0 0 0)))::(ru2 4 ((.s (.c 4 (nL tP)))::((.s (.o (.int .i64)))::((.s (.o (.int .i64)))::(ru2 7 ((.s (.o (.tree 4)))::((.s (.o (.int .i64)))::((.s (.o (.int .i64)))::(ru2 25 ((.s (.o (.lit .i64 0)))::((.s (.o .unk))::((.s (.o (.ptr 2 0 0 0)))::((.s (.o .nil))::((.s (.o (.ptr 3 0 0 0)))::((.s (.o (.ptr 4 0 0 0)))::(ru2 31 []))))))))))))))))))))),[⟨0,1,true,(some [[(.c 4 (nL tP))]])⟩,⟨0,4,true,(some [[(.o (.int .i64)),(.o (.int .i64)),(.o (.int .i64)),(.o (.int .i64))]])⟩,⟨0,1,true,(some [[(.c 4 (nL tP))]])⟩,⟨0,0,true,(some [[(.o .nil)]])⟩,⟨0,0,true,(some [[(.o (.ptr 5 0 0 0))]])⟩,⟨84,0,true,(some [])⟩],fun a H=>(⟨(toI (slT a 3)),(toI (slT a 10)),(toI (slT a 11)),(toN (slT a 19)),(toG (slT a 19)),(toI (slT a 20)),(toI (slT (rwT (elT H 1) 0) 0)),(toI (slT (rwT (elT H 1) 0) 1)),(toI (slT (rwT (elT H 1) 0) 2)),(toI (slT (rwT (elT H 1) 0) 3))⟩,⟨0,(rL tP (slT a 9)),(toI (slT a 21)),(rL tP (slT (rwT (elT H 0) 0) 0)),(rL tP (slT (rwT (elT H 2) 0) 0)),0,[],[]⟩)⟩,⟨((.s (.o .unk))::((.s (.o (.ptr 0 0 0 0)))::((.s (.o .unk))::((.s (.o (.int .i64)))::((.s (.o (.ptr 1 0 0 0)))::(ru2 4 ((.s (.c 4 (nL tP)))::((.s (.o (.int .i64)))::((.s (.o (.int .i64)))::(ru2 7 ((.s (.o (.tree 4)))::((.s (.o (.int .i64)))::((.s (.o (.int .i64)))::(ru2 25 ((.s (.o (.lit .i64 0)))::((.s (.o .unk))::((.s (.o (.ptr 2 0 0 0)))::((.s (.o .nil))::((.s (.o (.ptr 3 0 0 0)))::((.s (.o (.ptr 4 0 0 0)))::(ru2 31 []))))))))))))))))))))),[⟨0,1,true,(some [[(.c 4 (nL tP))]])⟩,⟨0,4,true,(some [[(.o (.int .i64)),(.o (.int .i64)),(.o (.int .i64)),(.o (.int .i64))]])⟩,⟨0,1,true,(some [[(.c 4 (nL tP))]])⟩,⟨0,0,true,(some [[(.o (.sl 5 0 (some 0) none))]])⟩,⟨0,0,true,(some [[(.o (.ptr 6 0 0 0))]])⟩,⟨53,4,true,none⟩,⟨84,0,true,none⟩],fun a H=>(⟨(toI (slT a 3)),(toI (slT a 10)),(toI (slT a 11)),(toN (slT a 19)),(toG (slT a 19)),(toI (slT a 20)),(toI (slT (rwT (elT H 1) 0) 0)),(toI (slT (rwT (elT H 1) 0) 1)),(toI (slT (rwT (elT H 1) 0) 2)),(toI (slT (rwT (elT H 1) 0) 3))⟩,⟨1,(rL tP (slT a 9)),(toI (slT a 21)),(rL tP (slT (rwT (elT H 0) 0) 0)),(rL tP (slT (rwT (elT H 2) 0) 0)),(slN (slT (rwT (elT H 3) 0) 0)),(elT H 5),(elT H 6)⟩)⟩],p7,[(some 2,fun p s=>⟨(.unk::((.ptr 0 0 0 0)::(.unk::((i p.is3)::((.ptr 1 0 0 0)::(ra 4 ((eL tP s.K1)::((i p.ta0)::((i p.N5)::(ra 7 ((.tree 4 p.ub8 p.Ea2)::((i p.W7)::((i s.da2)::((b (decide (s.da2 < p.W7)))::(ra 24 ((i 0)::(.unk::((.ptr 2 0 0 0)::((.v (.slice none 0 0))::((.ptr 3 0 0 0)::((.ptr 4 0 0 0)::(ra 31 [])))))))))))))))))))))),[⟨0,1,[[(eL tP s.d7)]],true,false,0⟩,⟨0,4,[[(i p.O6),(i p.O7),(i p.O8),(i p.O9)]],true,false,0⟩,⟨0,1,[[(eL tP s.K8)]],true,false,0⟩,⟨0,0,[[(.v (.slice none 0 0))]],true,false,0⟩,⟨0,0,[[(.ptr 5 0 0 0)]],true,false,0⟩,⟨84,0,[],true,false,0⟩]⟩),(some 2,fun p s=>⟨(.unk::((.ptr 0 0 0 0)::(.unk::((i p.is3)::((.ptr 1 0 0 0)::(ra 4 ((eL tP s.K1)::((i p.ta0)::((i p.N5)::(ra 7 ((.tree 4 p.ub8 p.Ea2)::((i p.W7)::((i s.da2)::((b (decide (s.da2 < p.W7)))::(ra 24 ((i 0)::(.unk::((.ptr 2 0 0 0)::((.v (.slice none 0 0))::((.ptr 3 0 0 0)::((.ptr 4 0 0 0)::(ra 31 [])))))))))))))))))))))),[⟨0,1,[[(eL tP s.d7)]],true,false,0⟩,⟨0,4,[[(i p.O6),(i p.O7),(i p.O8),(i p.O9)]],true,false,0⟩,⟨0,1,[[(eL tP s.K8)]],true,false,0⟩,⟨0,0,[[(.sl 5 0 s.ub9 0)]],true,false,0⟩,⟨0,0,[[(.ptr 6 0 0 0)]],true,false,0⟩,⟨53,4,s.eh5,true,false,0⟩,⟨84,0,s.eh6,true,false,0⟩]⟩)],Na2⟩
theorem Na3:ba7.OkM:=Lo.okM [ba6.prM] (by kernel_rfl) (.cons Na1 .nil) rfl (.cons (fun a H=>by kernel_rfl) (.cons (fun a H=>by kernel_rfl) .nil)) fun p s=>(.sel (Nat.beq s.ph 1) (.of @s8 (fun F _ _ _ _ _=>by unfold s8;(repeat' apply C7 (f:=F))<;>rfl) (by kernel_rfl)) (.of @s7 (fun F _ _ _ _ _=>by unfold s7;(repeat' apply C7 (f:=F))<;>rfl) (by kernel_rfl)))
structure n5 where
 ta0:Int
structure j5 where
 ph:Nat
 K1:List Pln
 N5:Int
 d7:List Pln
 pa5:List Pln
 Fb8:Nat
 eh4:List (List a7)
 eh5:List (List a7)
noncomputable def Ja0 (p:n5) (s:j5):St:=⟨(.unk::((.ptr 0 0 0 0)::(ra 7 ((eL tP s.K1)::((i p.ta0)::((i s.N5)::(ra 35 ((i 0)::(.unk::((.ptr 1 0 0 0)::((.v (.slice none 0 0))::((.ptr 2 0 0 0)::((.ptr 3 0 0 0)::(ra 31 [])))))))))))))),[⟨0,1,[[(eL tP s.d7)]],true,false,0⟩,⟨0,1,[[(eL tP s.pa5)]],true,false,0⟩,⟨0,0,[[(.v (.slice none 0 0))]],true,false,0⟩,⟨0,0,[[(.ptr 4 0 0 0)]],true,false,0⟩,⟨84,0,[],true,false,0⟩]⟩
noncomputable def Ja1 (p:n5) (s:j5):St:=⟨(.unk::((.ptr 0 0 0 0)::(ra 7 ((eL tP s.K1)::((i p.ta0)::((i s.N5)::(ra 35 ((i 0)::(.unk::((.ptr 1 0 0 0)::((.v (.slice none 0 0))::((.ptr 2 0 0 0)::((.ptr 3 0 0 0)::(ra 31 [])))))))))))))),[⟨0,1,[[(eL tP s.d7)]],true,false,0⟩,⟨0,1,[[(eL tP s.pa5)]],true,false,0⟩,⟨0,0,[[(.sl 4 0 s.Fb8 0)]],true,false,0⟩,⟨0,0,[[(.ptr 5 0 0 0)]],true,false,0⟩,⟨53,4,s.eh4,true,false,0⟩,⟨84,0,s.eh5,true,false,0⟩]⟩
noncomputable def Na4 (p:n5) (s:j5):St:=(sel (Nat.beq s.ph 1) (Ja1 p s) (Ja0 p s))
noncomputable def s9 {α:Type} (k:j5→α) (e:Nat→α) (z:α) (p:n5) (s:j5):α:=let t1:=(lp (p7 (⟨s.N5,p.ta0,s.N5,((List.length s.d7) - (W (s.N5+1)).toNat),(fun k=>(fun k=>(tP).row (gL tP s.d7 k)) ((W (s.N5+1)).toNat+k)),(↑((List.length s.d7) - (W (s.N5+1)).toNat):Int),(gL tP s.K1 s.N5.toNat).n.x,(gL tP s.K1 s.N5.toNat).n.y,(gL tP s.K1 s.N5.toNat).n.z,(gL tP s.K1 s.N5.toNat).b⟩:i4)) (⟨0,(rt tP s.K1),0,(rt tP s.d7),(rt tP s.pa5),0,[],[]⟩:i6));(sl (decide (s.N5 < p.ta0)) (sl (inB s.N5 (List.length s.K1)) (sl (inB (W (s.N5+1)) ((List.length s.d7)+1)) (sl ((cnE tP s.K1)&&((cnE tP s.d7)&&((cnE tP s.pa5)&&true))) (sl (Nat.beq t1.1 1) (k ⟨0,t1.2.K1,(W (s.N5+1)),t1.2.d7,t1.2.K8,0,[],[]⟩) (sl (Nat.beq t1.1 2) (k ⟨1,t1.2.K1,(W (s.N5+1)),t1.2.d7,t1.2.K8,t1.2.ub9,t1.2.eh5,t1.2.eh6⟩) z)) z) z) z) (e 1))
noncomputable def u4 {α:Type} (k:j5→α) (e:Nat→α) (z:α) (p:n5) (s:j5):α:=let t1:=(lp (p7 (⟨s.N5,p.ta0,s.N5,((List.length s.d7) - (W (s.N5+1)).toNat),(fun k=>(fun k=>(tP).row (gL tP s.d7 k)) ((W (s.N5+1)).toNat+k)),(↑((List.length s.d7) - (W (s.N5+1)).toNat):Int),(gL tP s.K1 s.N5.toNat).n.x,(gL tP s.K1 s.N5.toNat).n.y,(gL tP s.K1 s.N5.toNat).n.z,(gL tP s.K1 s.N5.toNat).b⟩:i4)) (⟨1,(rt tP s.K1),0,(rt tP s.d7),(rt tP s.pa5),s.Fb8,s.eh4,s.eh5⟩:i6));(sl (decide (s.N5 < p.ta0)) (sl (inB s.N5 (List.length s.K1)) (sl (inB (W (s.N5+1)) ((List.length s.d7)+1)) (sl ((cnE tP s.K1)&&((cnE tP s.d7)&&((cnE tP s.pa5)&&true))) (sl (Nat.beq t1.1 1) (k ⟨0,t1.2.K1,(W (s.N5+1)),t1.2.d7,t1.2.K8,0,[],[]⟩) (sl (Nat.beq t1.1 2) (k ⟨1,t1.2.K1,(W (s.N5+1)),t1.2.d7,t1.2.K8,t1.2.ub9,t1.2.eh5,t1.2.eh6⟩) z)) z) z) z) (e 2))
noncomputable def p8 (p:n5) (s:j5):Stp j5:=(sel (Nat.beq s.ph 1) (u4 .next .exit .fail p s) (s9 .next .exit .fail p s))
noncomputable def ba8:Lo n5 j5:=⟨En S5,0,Xc8,[1,1,1,0,1,4,4,1,4,4],[1,9,10,11,47,49,50,51,52],(.s .p (.s .p (.s (.b (.s .p (.s .p (.b (.u ba7.lsM))))) .p))),[⟨((.s (.o .unk))::((.s (.o (.ptr 0 0 0 0)))::(ru2 7 ((.s (.c 4 (nL tP)))::((.s (.o (.int .i64)))::((.s (.o (.int .i64)))::(ru2 35 ((.s (.o (.lit .i64 0)))::((.s (.o .unk))::((.s (.o (.ptr 1 0 0 0)))::((.s (.o .nil))::((.s (.o (.ptr 2 0 0 0)))::((.s (.o (.ptr 3 0 0 0)))::(ru2 31 [])))))))))))))),[⟨0,1,true,(some [[(.c 4 (nL tP))]])⟩,⟨0,1,true,(some [[(.c 4 (nL tP))]])⟩,⟨0,0,true,(some [[(.o .nil)]])⟩,⟨0,0,true,(some [[(.o (.ptr 4 0 0 0))]])⟩,⟨84,0,true,(some [])⟩],fun a H=>(⟨(toI (slT a 10))⟩,⟨0,(rL tP (slT a 9)),(toI (slT a 11)),(rL tP (slT (rwT (elT H 0) 0) 0)),(rL tP (slT (rwT (elT H 1) 0) 0)),0,[],[]⟩)⟩,⟨((.s (.o .unk))::((.s (.o (.ptr 0 0 0 0)))::(ru2 7 ((.s (.c 4 (nL tP)))::((.s (.o (.int .i64)))::((.s (.o (.int .i64)))::(ru2 35 ((.s (.o (.lit .i64 0)))::((.s (.o .unk))::((.s (.o (.ptr 1 0 0 0)))::((.s (.o .nil))::((.s (.o (.ptr 2 0 0 0)))::((.s (.o (.ptr 3 0 0 0)))::(ru2 31 [])))))))))))))),[⟨0,1,true,(some [[(.c 4 (nL tP))]])⟩,⟨0,1,true,(some [[(.c 4 (nL tP))]])⟩,⟨0,0,true,(some [[(.o (.sl 4 0 (some 0) none))]])⟩,⟨0,0,true,(some [[(.o (.ptr 5 0 0 0))]])⟩,⟨53,4,true,none⟩,⟨84,0,true,none⟩],fun a H=>(⟨(toI (slT a 10))⟩,⟨1,(rL tP (slT a 9)),(toI (slT a 11)),(rL tP (slT (rwT (elT H 0) 0) 0)),(rL tP (slT (rwT (elT H 1) 0) 0)),(slN (slT (rwT (elT H 2) 0) 0)),(elT H 4),(elT H 5)⟩)⟩],p8,[(some 0,fun p s=>⟨(.unk::((.ptr 0 0 0 0)::(ra 7 ((eL tP s.K1)::((i p.ta0)::((i s.N5)::((b (decide (s.N5 < p.ta0)))::(ra 34 ((i 0)::(.unk::((.ptr 1 0 0 0)::((.v (.slice none 0 0))::((.ptr 2 0 0 0)::((.ptr 3 0 0 0)::(ra 31 []))))))))))))))),[⟨0,1,[[(eL tP s.d7)]],true,false,0⟩,⟨0,1,[[(eL tP s.pa5)]],true,false,0⟩,⟨0,0,[[(.v (.slice none 0 0))]],true,false,0⟩,⟨0,0,[[(.ptr 4 0 0 0)]],true,false,0⟩,⟨84,0,[],true,false,0⟩]⟩),(some 0,fun p s=>⟨(.unk::((.ptr 0 0 0 0)::(ra 7 ((eL tP s.K1)::((i p.ta0)::((i s.N5)::((b (decide (s.N5 < p.ta0)))::(ra 34 ((i 0)::(.unk::((.ptr 1 0 0 0)::((.v (.slice none 0 0))::((.ptr 2 0 0 0)::((.ptr 3 0 0 0)::(ra 31 []))))))))))))))),[⟨0,1,[[(eL tP s.d7)]],true,false,0⟩,⟨0,1,[[(eL tP s.pa5)]],true,false,0⟩,⟨0,0,[[(.sl 4 0 s.Fb8 0)]],true,false,0⟩,⟨0,0,[[(.ptr 5 0 0 0)]],true,false,0⟩,⟨53,4,s.eh4,true,false,0⟩,⟨84,0,s.eh5,true,false,0⟩]⟩)],Na4⟩
theorem Na5:ba8.OkM:=Lo.okM [ba7.prM] (by kernel_rfl) (.cons Na3 .nil) rfl (.cons (fun a H=>by kernel_rfl) (.cons (fun a H=>by kernel_rfl) .nil)) fun p s=>(.sel (Nat.beq s.ph 1) (.of @u4 (fun F _ _ _ _ _=>by unfold u4;(repeat' apply C7 (f:=F))<;>rfl) (by kernel_rfl)) (.of @s9 (fun F _ _ _ _ _=>by unfold s9;(repeat' apply C7 (f:=F))<;>rfl) (by kernel_rfl)))
noncomputable def M8 (x:List Pln):Option (a7×List a8):=let t1:=(lp (p8 (⟨(↑(List.length x):Int)⟩:n5)) (⟨0,(rt tP x),0,(rt tP x),(rt tP x),0,[],[]⟩:j5));(sl ((cnE tP x)&&((cnE tP x)&&((cnE tP x)&&true))) (sl (Nat.beq t1.1 1) (some ((.v (.slice none 0 0)),[])) (sl (Nat.beq t1.1 2) (some ((.sl 0 0 t1.2.Fb8 0),[⟨53,4,t1.2.eh4,true,false,0⟩])) none)) none)
noncomputable def M9 (x:List Pln):List Pt:=la8 (one (r1L tX)) (M8 x)
noncomputable def N0 (x:List Pln):Bool:=okO (one (r1L tX)) (M8 x)
noncomputable def ga8:Sum:=wa5 (Fa8 tP) (fun x=>.guard (N0 x) (.ret ((one (r1L tX)).enc (M9 x),[])))
theorem qa7:j7 prog G 28 ga8:=hb6 (bd b28 Pa8) (one (r1L tX)) (o:=M8) fun x=>cd7 (.s .p (.s .p (.s .p (.s (.s .p (.b (.i (.s .p (.b (.u ba8.lsM)))))) .p)))) [ba8.prM] (by kernel_rfl) (.cons Na5 .nil) (by kernel_rfl)
end Go.Ev.Ce
end
section
namespace Go.Ev.Ce
open Go Go.Ev Go.Ev.L Go.Proofs
set_option maxRecDepth 100000
noncomputable def Wa3:List (Nat×Sum):=[]
theorem xb8:o9 prog G Wa3:=trivial
structure ba9 where
 is0:Int
 pc7:List Int
 is8:Int
structure G0 where
 is9:Int
noncomputable def sb0 (p:ba9) (s:G0):St:=⟨((i p.is0)::(ra 6 ((eL tI p.pc7)::((i p.is8)::((i s.is9)::(ra 13 [])))))),[]⟩
noncomputable def U9 {α:Type} (k:G0→α) (e:Nat→α) (z:α) (p:ba9) (s:G0):α:=(sl (decide (s.is9 < p.is8)) (sl (inB s.is9 (List.length p.pc7)) (sl (decide ((gL tI p.pc7 s.is9.toNat) < (W (0 - p.is0)))) (e 1) (sl (decide ((gL tI p.pc7 s.is9.toNat) > p.is0)) (e 1) (k ⟨(W (s.is9+1))⟩))) z) (e 2))
noncomputable def Y4 (p:ba9) (s:G0):Stp G0:=U9 .next .exit .fail p s
noncomputable def ua4:Lo ba9 G0:=⟨En Wa3,0,od3,[1,0,1,4,4],[0,7,8,9],.p,[⟨((.s (.o (.int .i64)))::(ru2 6 ((.s (.c 1 (nL tI)))::((.s (.o (.int .i64)))::((.s (.o (.int .i64)))::(ru2 13 [])))))),[],fun a H=>(⟨(toI (slT a 0)),(rL tI (slT a 7)),(toI (slT a 8))⟩,⟨(toI (slT a 9))⟩)⟩],Y4,[(none,fun p s=>⟨[(b false)],[]⟩),(some 0,fun p s=>⟨((i p.is0)::(ra 6 ((eL tI p.pc7)::((i p.is8)::((i s.is9)::((b (decide (s.is9 < p.is8)))::(ra 12 []))))))),[]⟩)],sb0⟩
theorem sb1:ua4.Ok:=Lo.ok [] (by kernel_rfl) .nil rfl (.cons (fun a H=>by kernel_rfl) .nil) fun p s=>(.of @U9 (fun F _ _ _ _ _=>by unfold U9;(repeat' apply C7 (f:=F))<;>rfl) (by kernel_rfl))
noncomputable def ia3 (x:Int) (y:List Int):Option (a7×List a8):=let t1:=(lp (Y4 (⟨x,(rt tI y),(↑(List.length y):Int)⟩:ba9)) (⟨0⟩:G0));(sl ((cnE tI y)&&true) (sl (Nat.beq t1.1 1) (some ((b false),[])) (sl (Nat.beq t1.1 2) (some ((b true),[])) none)) none)
noncomputable def ca0 (x:Int) (y:List Int):Bool:=la8 (one r1B) (ia3 x y)
noncomputable def ca1 (x:Int) (y:List Int):Bool:=okO (one r1B) (ia3 x y)
noncomputable def Ga6:Sum:=wa6 cI (Fa8 tI) (fun x y=>.guard (ca1 x y) (.ret ((one r1B).enc (ca0 x y),[])))
theorem Wa4:j7 prog G 63 Ga6:=Jb7 (bd b63 xb8) (one r1B) (o:=ia3) fun x y=>hb8 (.s .p (.s (.s .p (.b (.u ua4.ls))) .p)) [ua4.pr] (by kernel_rfl) (.cons sb1 .nil) (by kernel_rfl)
noncomputable def sb2:List (Nat×Sum):=[]
theorem mb4:o9 prog G sb2:=trivial
noncomputable def ka3 (x:Int):Int:=(if (W (0 - x)) > x then (W (0 - x)) else x)
noncomputable def Pa9:Sum:=wa5 cI (fun x=>.ret ((one r1I).enc (ka3 x),[]))
theorem sb3:j7 prog G 88 Pa9:=Eb7 (bd b88 mb4) fun x=>J5 (by kernel_rfl)
noncomputable def ua5:List (Nat×Sum):=[(88,Pa9)]
theorem sb4:o9 prog G ua5:=⟨sb3,trivial⟩
structure Q3 where
 la4:List Int
 is7:Int
 is8:Int
structure G8 where
 is3:Int
 is5:Int
noncomputable def mb5 (p:Q3) (s:G8):St:=⟨(ra 3 ((i s.is3)::(.unk::((i s.is5)::((eL tI p.la4)::((i p.is7)::((i p.is8)::(ra 15 [])))))))),[]⟩
noncomputable def R6 {α:Type} (k:G8→α) (e:Nat→α) (z:α) (p:Q3) (s:G8):α:=(sl (decide (s.is5 > 0)) (sl (s.is5==0) z (k ⟨s.is5,(Int.tmod s.is3 s.is5)⟩)) (e 1))
noncomputable def N4 (p:Q3) (s:G8):Stp G8:=R6 .next .exit .fail p s
noncomputable def qa8:Lo Q3 G8:=⟨En ua5,0,id3,[1,1,0,1,4,4,1,1,0,4,1,1,1,4,4],[3,5,6,7,8],.p,[⟨(ru2 3 ((.s (.o (.int .i64)))::((.s (.o .unk))::((.s (.o (.int .i64)))::((.s (.c 1 (nL tI)))::((.s (.o (.int .i64)))::((.s (.o (.int .i64)))::(ru2 15 [])))))))),[],fun a H=>(⟨(rL tI (slT a 6)),(toI (slT a 7)),(toI (slT a 8))⟩,⟨(toI (slT a 3)),(toI (slT a 5))⟩)⟩],N4,[(some 2,fun p s=>⟨(ra 3 ((i s.is3)::(.unk::((i s.is5)::((eL tI p.la4)::((i p.is7)::((i p.is8)::(ra 7 ((i s.is5)::((b (decide (s.is5 > 0)))::(ra 6 []))))))))))),[]⟩)],mb5⟩
theorem mb6:qa8.Ok:=Lo.ok [] (by kernel_rfl) .nil rfl (.cons (fun a H=>by kernel_rfl) .nil) fun p s=>(.of @R6 (fun F _ _ _ _ _=>by unfold R6;(repeat' apply C7 (f:=F))<;>rfl) (by kernel_rfl))
structure Y5 where
 is7:Int
structure E0 where
 is3:Int
 la4:List Int
 is8:Int
noncomputable def mb7 (p:Y5) (s:E0):St:=⟨(ra 3 ((i s.is3)::(.unk::(.unk::((eL tI s.la4)::((i p.is7)::((i s.is8)::(ra 15 [])))))))),[]⟩
noncomputable def R7 {α:Type} (k:E0→α) (e:Nat→α) (z:α) (p:Y5) (s:E0):α:=let t1:=(ka3 (gL tI s.la4 s.is8.toNat));let t2:=(lp (N4 (⟨(rt tI s.la4),p.is7,s.is8⟩:Q3)) (⟨s.is3,t1⟩:G8));(sl (decide (s.is8 < p.is7)) (sl (inB s.is8 (List.length s.la4)) (sl ((gL tI s.la4 s.is8.toNat)==(-9223372036854775808)) (e 1) (sl ((cnE tI s.la4)&&true) (sl (Nat.beq t2.1 1) (k ⟨t2.2.is3,(rt tI s.la4),(W (s.is8+1))⟩) z) z)) z) (e 2))
noncomputable def V0 (p:Y5) (s:E0):Stp E0:=R7 .next .exit .fail p s
noncomputable def qa9:Lo Y5 E0:=⟨En ua5,0,id3,[1,1,0,1,4,4],[3,6,7,8],(.s .p (.s .p (.s (.b (.s .p (.s .p (.s .p (.b (.u qa8.ls)))))) .p))),[⟨(ru2 3 ((.s (.o (.int .i64)))::((.s (.o .unk))::((.s (.o .unk))::((.s (.c 1 (nL tI)))::((.s (.o (.int .i64)))::((.s (.o (.int .i64)))::(ru2 15 [])))))))),[],fun a H=>(⟨(toI (slT a 7))⟩,⟨(toI (slT a 3)),(rL tI (slT a 6)),(toI (slT a 8))⟩)⟩],V0,[(none,fun p s=>⟨[(i 0)],[]⟩),(some 0,fun p s=>⟨(ra 3 ((i s.is3)::(.unk::(.unk::((eL tI s.la4)::((i p.is7)::((i s.is8)::((b (decide (s.is8 < p.is7)))::(ra 14 []))))))))),[]⟩)],mb7⟩
theorem mb8:qa9.Ok:=Lo.ok [qa8.pr] (by kernel_rfl) (.cons mb6 .nil) rfl (.cons (fun a H=>by kernel_rfl) .nil) fun p s=>(.of @R7 (fun F _ _ _ _ _=>by unfold R7;(repeat' apply C7 (f:=F))<;>rfl) (by kernel_rfl))
noncomputable def ea6 (x:List Int):Option (a7×List a8):=let t1:=(lp (V0 (⟨(↑(List.length x):Int)⟩:Y5)) (⟨0,(rt tI x),0⟩:E0));(sl ((cnE tI x)&&true) (sl (Nat.beq t1.1 1) (some ((i 0),[])) (sl (Nat.beq t1.1 2) (some ((i t1.2.is3),[])) none)) none)
noncomputable def na7 (x:List Int):Int:=la8 (one r1I) (ea6 x)
noncomputable def na8 (x:List Int):Bool:=okO (one r1I) (ea6 x)
noncomputable def Wa5:Sum:=wa5 (Fa8 tI) (fun x=>.guard (na8 x) (.ret ((one r1I).enc (na7 x),[])))
theorem xb9:j7 prog G 69 Wa5:=hb6 (bd b69 sb4) (one r1I) (o:=ea6) fun x=>hb8 (.s .p (.s .p (.s (.s .p (.b (.u qa9.ls))) .p))) [qa9.pr] (by kernel_rfl) (.cons mb8 .nil) (by kernel_rfl)
noncomputable def Lb6:List (Nat×Sum):=[(63,Ga6),(69,Wa5)]
theorem Cb3:o9 prog G Lb6:=⟨Wa4,xb9,trivial⟩
noncomputable def ma7 (x:Pln):Option (a7×List a8):=let t1:=(ca0 4608 [x.n.x,x.n.y,x.n.z]);let t2:=(na7 [x.n.x,x.n.y,x.n.z]);let t3:=(ca0 2097152 [x.b]);(sl (ca1 4608 [x.n.x,x.n.y,x.n.z]) (sl t1 (sl (na8 [x.n.x,x.n.y,x.n.z]) (sl (t2==1) (sl (ca1 2097152 [x.b]) (some ((b t3),[])) none) (some ((b false),[]))) none) (some ((b false),[]))) none)
noncomputable def va8 (x:Pln):Bool:=la8 (one r1B) (ma7 x)
noncomputable def va9 (x:Pln):Bool:=okO (one r1B) (ma7 x)
noncomputable def jb6:Sum:=wa5 (Ia3 tP) (fun x=>.guard (va9 x) (.ret ((one r1B).enc (va8 x),[])))
theorem Lb7:j7 prog G 45 jb6:=hb6 (bd b45 Cb3) (one r1B) (o:=ma7) fun x=>J5 (by kernel_rfl)
noncomputable def Cb4:List (Nat×Sum):=[(45,jb6)]
theorem yb0:o9 prog G Cb4:=⟨Lb7,trivial⟩
noncomputable def ia4 (x:Pln):Option (a7×List a8):=let t1:=(va8 x);(sl (va9 x) (some ((b (!t1)),[])) none)
noncomputable def ra0 (x:Pln):Bool:=la8 (one r1B) (ia4 x)
noncomputable def ra1 (x:Pln):Bool:=okO (one r1B) (ia4 x)
noncomputable def cb5:Sum:=wa5 (Ia3 tP) (fun x=>.guard (ra1 x) (.ret ((one r1B).enc (ra0 x),[])))
theorem Cb5:j7 prog G 49 cb5:=hb6 (bd b49 yb0) (one r1B) (o:=ia4) fun x=>J5 (by kernel_rfl)
structure L3 where
 v6:List Pln
noncomputable def ia5:List (Nat×Sum):=[(49,cb5)]
theorem Da1:o9 prog G ia5:=⟨Cb5,trivial⟩
structure E1 where
 v6:List Pln
 is7:Int
structure l4 where
 is8:Int
noncomputable def za8 (p:E1) (s:l4):St:=⟨((eL tP p.v6)::((.fn 49 [])::(ra 5 ((i p.is7)::((i s.is8)::(ra 10 [])))))),[]⟩
noncomputable def A6 {α:Type} (k:l4→α) (e:Nat→α) (z:α) (p:E1) (s:l4):α:=let t1:=(ra0 (gL tP p.v6 s.is8.toNat));(sl (decide (s.is8 < p.is7)) (sl (inB s.is8 (List.length p.v6)) (sl (ra1 (gL tP p.v6 s.is8.toNat)) (sl t1 (e 1) (k ⟨(W (s.is8+1))⟩)) z) z) (e 2))
noncomputable def D0 (p:E1) (s:l4):Stp l4:=A6 .next .exit .fail p s
noncomputable def S6:Lo E1 l4:=⟨En ia5,0,Xc9,[1,0,1,4,4],[0,1,7,8],.p,[⟨((.s (.c 4 (nL tP)))::((.s (.o (.fn 49)))::(ru2 5 ((.s (.o (.int .i64)))::((.s (.o (.int .i64)))::(ru2 10 [])))))),[],fun a H=>(⟨(rL tP (slT a 0)),(toI (slT a 7))⟩,⟨(toI (slT a 8))⟩)⟩],D0,[(none,fun p s=>⟨[(i s.is8)],[]⟩),(some 0,fun p s=>⟨((eL tP p.v6)::((.fn 49 [])::(ra 5 ((i p.is7)::((i s.is8)::((b (decide (s.is8 < p.is7)))::(ra 9 []))))))),[]⟩)],za8⟩
theorem za9:S6.Ok:=Lo.ok [] (by kernel_rfl) .nil rfl (.cons (fun a H=>by kernel_rfl) .nil) fun p s=>(.of @A6 (fun F _ _ _ _ _=>by unfold A6;(repeat' apply C7 (f:=F))<;>rfl) (by kernel_rfl))
structure L4 where
 alt:Nat
 is0:Int
noncomputable def B5 {α:Type} (kk:L4→α) (x:L3):α:=let t1:=(lp (D0 (⟨(rt tP x.v6),(↑(List.length x.v6):Int)⟩:E1)) (⟨0⟩:l4));(sl ((cnE tP x.v6)&&true) (sl (Nat.beq t1.1 1) (kk ⟨1,t1.2.is8⟩) (sl (Nat.beq t1.1 2) (kk ⟨1,(-1)⟩) (kk ⟨0,0⟩))) (kk ⟨0,0⟩))
noncomputable def X2 (x:L3):L4:=B5 (fun r=>r) x
noncomputable def V1 (x:L3) (r:L4):DT (a7×List a8):=(.ite (Nat.beq r.alt 1) (.ret ((i r.is0),[])) .fail)
theorem Ja2 {α β:Type} (F:α→β) (kk:L4→α) (x:L3):F (B5 kk x)=B5 (fun r=>F (kk r)) x:=by unfold B5;(repeat' apply C7 (f:=F))<;>rfl
noncomputable def ka7:Sum:=Ma8 ⟨[(.s (.c 4 (nL tP))),(.s (.o (.fn 49)))],[],fun a H=>(⟨(rL tP (slT a 0))⟩,())⟩ (fun x=>V1 x (X2 x))
theorem Ga7:j7 prog G 55 ka7:=Q1 (enc:=fun x=>⟨[(eL tP x.v6),(.fn 49 [])],[]⟩) (fun a H=>by kernel_rfl) (bd b55 Da1) fun x=>hb8 (.s .p (.s (.s .p (.b (.u S6.ls))) .p)) [S6.pr] (by kernel_rfl) (.cons za9 .nil) (Eq.trans (b:=B5 (fun r=>(V1 x r).run) x) (by kernel_rfl) (Ja2 (fun r=>(V1 x r).run) (fun r=>r) x).symm)
structure I1 where
 v6:List Pln
noncomputable def xa3:List (Nat×Sum):=[(55,ka7)]
theorem ua6:o9 prog G xa3:=⟨Ga7,trivial⟩
structure I4 where
 alt:Nat
 bs0:Bool
noncomputable def v8 {α:Type} (kk:I4→α) (x:I1):α:=let t1:=(X2 ⟨(rt tP x.v6)⟩);(sl ((cnE tP x.v6)&&true) (sl (Nat.beq t1.alt 1) (kk ⟨1,(decide (t1.is0≥0))⟩) (kk ⟨0,false⟩)) (kk ⟨0,false⟩))
noncomputable def Q7 (x:I1):I4:=v8 (fun r=>r) x
noncomputable def P1 (x:I1) (r:I4):DT (a7×List a8):=(.ite (Nat.beq r.alt 1) (.ret ((b r.bs0),[])) .fail)
theorem Aa0 {α β:Type} (F:α→β) (kk:I4→α) (x:I1):F (v8 kk x)=v8 (fun r=>F (kk r)) x:=by unfold v8;(repeat' apply C7 (f:=F))<;>rfl
noncomputable def ea7:Sum:=Ma8 ⟨[(.s (.c 4 (nL tP))),(.s (.o (.fn 49)))],[],fun a H=>(⟨(rL tP (slT a 0))⟩,())⟩ (fun x=>P1 x (Q7 x))
theorem xa4:j7 prog G 48 ea7:=Q1 (enc:=fun x=>⟨[(eL tP x.v6),(.fn 49 [])],[]⟩) (fun a H=>by kernel_rfl) (bd b48 ua6) fun x=>J5 (Eq.trans (b:=v8 (fun r=>(P1 x r).run) x) (by kernel_rfl) (Aa0 (fun r=>(P1 x r).run) (fun r=>r) x).symm)
noncomputable def Qb8:List (Nat×Sum):=[(48,ea7)]
theorem Lb8:o9 prog G Qb8:=⟨xa4,trivial⟩
noncomputable def ra2 (x:List Pln):Option (a7×List a8):=let t1:=(Q7 ⟨(rt tP x)⟩);(sl (decide ((↑(List.length x):Int) > 48)) (some ((i 2),[])) (sl ((cnE tP x)&&true) (sl (Nat.beq t1.alt 1) (sl t1.bs0 (some ((i 12),[])) (some ((i 0),[]))) none) none))
noncomputable def ra3 (x:List Pln):Int:=la8 (one r1I) (ra2 x)
noncomputable def ra4 (x:List Pln):Bool:=okO (one r1I) (ra2 x)
noncomputable def Ua0:Sum:=wa5 (Fa8 tP) (fun x=>.guard (ra4 x) (.ret ((one r1I).enc (ra3 x),[])))
theorem jb7:j7 prog G 19 Ua0:=hb6 (bd b19 Lb8) (one r1I) (o:=ra2) fun x=>J5 (by kernel_rfl)
noncomputable def Cb6:List (Nat×Sum):=[(19,Ua0)]
theorem yb1:o9 prog G Cb6:=⟨jb7,trivial⟩
noncomputable def ia6 (x:List Pln):Option (a7×List a8):=let t1:=(ra3 (rt tP x));(sl (okE tP x) (sl (ra4 (rt tP x)) (some ((b (t1 != 0)),[])) none) none)
noncomputable def ra5 (x:List Pln):Bool:=la8 (one r1B) (ia6 x)
noncomputable def ra6 (x:List Pln):Bool:=okO (one r1B) (ia6 x)
noncomputable def cb6:Sum:=wa5 (Fa8 tP) (fun x=>.guard (ra6 x) (.ret ((one r1B).enc (ra5 x),[])))
theorem Cb7:j7 prog G 51 cb6:=hb6 (bd b51 yb1) (one r1B) (o:=ia6) fun x=>J5 (by kernel_rfl)
end Go.Ev.Ce
end
namespace Go.Proofs
open Go.Shelf
set_option maxRecDepth 100000 in
def Ce.growP_ren:Go.Shelf.Ren:=⟨fun | 4=>71 | n=>n,fun | 22=>29 | 25=>42 | 3=>3 | 4=>4 | 9=>9 | 20=>20 | 0=>0 | n=>n,fun | n=>n⟩
set_option maxRecDepth 100000 in
theorem Ce.growP:Go.Proofs.Lays8.n4 Try.prog Ce.growP_ren:={
 mixed:=by kernel_rfl
 f4:=⟨Try.f71.name,by decide,Try.func71.trans (congrArg some (by kernel_rfl))⟩
 t0:=Try.underlying0
 a0:=Try.isAgg0
 z0:=Try.sizeOf0
 v0:=Try.zeroValue0
 t3:=Try.underlying3
 a3:=Try.isAgg3
 z3:=Try.sizeOf3
 v3:=Try.zeroValue3
 t4:=Try.underlying4
 a4:=Try.isAgg4
 z4:=Try.sizeOf4
 v4:=Try.zeroValue4
 t9:=Try.underlying9
 a9:=Try.isAgg9
 z9:=Try.sizeOf9
 v9:=Try.zeroValue9
 t20:=Try.underlying20
 a20:=Try.isAgg20
 z20:=Try.sizeOf20
 v20:=Try.zeroValue20
 t22:=Try.underlying29
 a22:=Try.isAgg29
 z22:=Try.sizeOf29
 v22:=Try.zeroValue29 }
end Go.Proofs
namespace Go.Ev.Ce
open Go Go.Ev Go.Proofs
noncomputable def bc7:List a7:=[i 0,i 0,i 0,i 0]
noncomputable def la9:Sum:=fun args blks=>match args,blks with
 | [.v (.slice none 0 0), .v (.int .i64 n)], [] => .ite (n == 0) (.ret (.v (.slice none 0 0), []))
   (.guard (Bool.and (decide (0 < n)) (Nat.ble (n.toNat*32) room)) (.ret (.sl 0 0 0 0,[⟨42,4,List.replicate n.toNat bc7,true,false,0⟩])))
 | _,_=>.fail
theorem z42:zeT Try.prog 42=some bc7:=by kernel_rfl
theorem s50:szT Try.prog 42=4:=by kernel_rfl
theorem y50:byT Try.prog 42=32:=by kernel_rfl
theorem t25:Ce.growP_ren.t 25=42:=by kernel_rfl
theorem f4:Ce.growP_ren.f 4=71:=by kernel_rfl
set_option maxRecDepth 100000 in
theorem cb7:j7 prog G 71 la9:=by
 intro args blks r out he W ρ F w args' hH hlen hargs hG
 refine⟨⟨_,Try.func71,by kernel_rfl,of_decide_eq_true (by kernel_rfl)⟩,?_⟩
 unfold la9 at he
 split at he
 case h_2=>cases he
 rename_i n
 match args',hlen with
 | [v0,v1],_ =>
 have e0:=R5 (hargs 0 _ _ rfl rfl)
 have e1:=R5 (hargs 1 _ _ rfl rfl)
 subst e0 e1
 rcases DT.run_ite_some he with⟨h0,he⟩ | ⟨h0,he⟩
 ·have h0:n=0:=by simpa using h0
  subst h0
  injection he with he;injection he with q1 q2;subst q1 q2
  have:=Any8.slices_Grow_room Ce.growP none 0 0 0 w (Nat.le_refl _) (by omega) (by omega) (by omega)
  rw[f4] at this
  refine this.mono fun e w' ⟨h1,h2⟩=>?_
  subst h1 h2
  exact⟨_,rfl,ρ,F,.refl,hH,.ofv _⟩
 ·obtain⟨hg,he⟩:=DT.run_guard_some he
  rw[Bool.and_eq_true,decide_eq_true_eq] at hg
  obtain⟨hpos,hroom⟩:=hg
  have hroom:=Nat.le_of_ble_eq_true hroom
  unfold room at hroom
  obtain⟨m,rfl⟩:=Int.eq_ofNat_of_zero_le (Int.le_of_lt hpos)
  have hm:0 < m:=by omega
  have he:some (a7.sl 0 0 0 0,[(⟨42,4,List.replicate m bc7,true,false,0⟩:a8)])=some (r,out):=he
  injection he with he;injection he with q1 q2;subst q1 q2
  obtain⟨ti,zv,hi,hzz,hzr,hone⟩:=ta6 (E:=En []) z42
  have hi:Try.prog.info? 42=some ti:=hi
  have hts:ti.size=4:=by have:=s50;simp only[szT,hi] at this;exact this
  have hby:ti.bytes=32:=by have:=y50;simp only[byT,hi] at this;exact this
  have hzs:zv.cells.size=4:=by
   have:=congrArg List.length hzr
   simpa [bc7] using this.symm
  have hroom':m*32≤140737488355328:=hroom
  have:=Any8.slices_Grow_grow Ce.growP ti zv (by rw[t25];exact hi) hzz (by omega) none 0 0 m [] w (Nat.le_refl _) (by omega) (by rw[hby];omega) (by omega) (by simp) (fun _=>rfl) (fun a ha=>by cases ha)
  rw[f4,t25] at this
  refine this.mono fun e w' ⟨h1,h2⟩=>?_
  have hcap:=grownCap_ge w (0+m) 0 42
  have hcap2:=grownCap_le_maxLen w (0+m) 0 42 (by unfold maxLen;omega)
  subst h1
  generalize grownCap w (0+m) 0 42=G' at *
  have hsz:∀ q,(Builtin.zeroCells zv.cells q).size=q*4:=fun q=>by simp[Builtin.zeroCells,hzs]
  have hcc:(#[]++Builtin.zeroCells zv.cells (0+m - 0)++Builtin.zeroCells zv.cells (G' - (0+m))).size=G'*4:=by
   rw[Array.size_append,Array.size_append,hsz,hsz]
   simp
   omega
  have hobj:w'.heap[w.heap.size]?=some (.cells (#[]++Builtin.zeroCells zv.cells (0+m - 0)++Builtin.zeroCells zv.cells (G' - (0+m))) 42 (0,0)):=by
   rw[h2]
   exact World.alloc_heap_new w.drew _
  have hold:∀ k,k < w.heap.size→w'.heap[k]?=w.heap[k]?:=fun k hk=>by
   rw[h2]
   simp only[World.alloc,Array.getElem?_push,World.drew]
   rw[if_neg (by omega)]
  have hws:w'.heap.size=w.heap.size+1:=by rw[h2];exact Array.size_push ..
  obtain⟨h6,h7⟩:=hH.newAt (w':=w') (by rw[h2];rfl) (by rw[h2];rfl) (by rw[h2];rfl) (by rw[h2];exact Nat.le_succ _) (by omega) hold w.heap.size (Nat.le_refl _) 42 4 (List.replicate m bc7) _ 42 hobj
   (fun j r hr=>by rw[List.getElem?_replicate] at hr;split at hr<;>cases hr;rfl) (by rw[List.length_replicate,hcc];omega)
   (fun j r c x hr hx=>by
    have hjm:j < m:=by
     have:=(List.getElem?_eq_some_iff.1 hr).1
     simpa using this
    rw[List.getElem?_replicate,if_pos hjm] at hr
    injection hr with hr
    subst hr
    have hc4:c < 4:=(List.getElem?_eq_some_iff.1 hx).1
    rw[hzr,List.getElem?_map] at hx
    have hcz:c < zv.cells.size:=by omega
    have hq:zv.cells.toList[c]?=some zv.cells[c]:=by simp[hcz]
    rw[hq] at hx
    injection hx with hx
    subst hx
    refine⟨zv.cells[c],?_,.v _ (hone _ (by simp))⟩
    have hlt:j*4+c < m*4:=by omega
    rw[Array.append_assoc,Array.empty_append,Array.getElem?_append_left (by rw[hsz];omega)]
    have hm4:(j*4+c) % 4=c:=by omega
    simp only[Builtin.zeroCells,hzs]
    rw[Array.getElem?_map,Array.getElem?_range]
    rw[if_pos (by omega)]
    simp[hm4,hcz])
   (fun _=>rfl)
  refine⟨_,rfl,_,F,h6,h7,.val (.cell ?_)⟩
  refine .sl 0 0 0 0 _ _ { et:=42,es:=4,elems:=List.replicate m bc7,own:=true,dead:=false,g:=0 } rfl rfl (Nat.le_refl _) (Nat.zero_le _) rfl hcap2 fun _=>⟨.inr ?_,?_,by simp⟩
  ·simp[ρnew]
  ·simp only[ρnew,List.length_nil,if_true]
   rw[hcc,Nat.zero_add]
end Go.Ev.Ce
section
namespace Go.Ev.Ce
open Go Go.Ev Go.Ev.L Go.Proofs
set_option maxRecDepth 100000
noncomputable def da8:List (Nat×Sum):=[(71,la9)]
theorem Qa0:o9 prog G da8:=⟨cb7,trivial⟩
structure J6 where
 ha1:List (List Pln)
 Ob9:List (List Pln)
 ta0:Int
structure o3 where
 is3:Int
 N5:Int
noncomputable def Na6 (p:J6) (s:o3):St:=⟨((eL (tLs tP) p.ha1)::(.unk::(.unk::((i s.is3)::(ra 5 ((eL (tLs tP) p.Ob9)::((i p.ta0)::((i s.N5)::(ra 24 []))))))))),[]⟩
noncomputable def G2 {α:Type} (k:o3→α) (e:Nat→α) (z:α) (p:J6) (s:o3):α:=(sl (decide (s.N5 < p.ta0)) (sl (inB s.N5 (List.length p.Ob9)) (sl (decide ((W (s.is3+(↑(List.length (gL (tLs tP) p.Ob9 s.N5.toNat)):Int))) < 0)) z (k ⟨(W (s.is3+(↑(List.length (gL (tLs tP) p.Ob9 s.N5.toNat)):Int))),(W (s.N5+1))⟩)) z) (e 1))
noncomputable def D6 (p:J6) (s:o3):Stp o3:=G2 .next .exit .fail p s
noncomputable def ca2:Lo J6 o3:=⟨En da8,0,hd9,[1,1,0,1,4,4],[0,3,9,10,11],.p,[⟨((.s (.c 1 (nL (tLs tP))))::((.s (.o .unk))::((.s (.o .unk))::((.s (.o (.int .i64)))::(ru2 5 ((.s (.c 1 (nL (tLs tP))))::((.s (.o (.int .i64)))::((.s (.o (.int .i64)))::(ru2 24 []))))))))),[],fun a H=>(⟨(rL (tLs tP) (slT a 0)),(rL (tLs tP) (slT a 9)),(toI (slT a 10))⟩,⟨(toI (slT a 3)),(toI (slT a 11))⟩)⟩],D6,[(some 0,fun p s=>⟨((eL (tLs tP) p.ha1)::(.unk::(.unk::((i s.is3)::(ra 5 ((eL (tLs tP) p.Ob9)::((i p.ta0)::((i s.N5)::((b (decide (s.N5 < p.ta0)))::(ra 23 [])))))))))),[]⟩)],Na6⟩
theorem Na7:ca2.OkM:=Lo.okM [] (by kernel_rfl) .nil rfl (.cons (fun a H=>by kernel_rfl) .nil) fun p s=>(.of @G2 (fun F _ _ _ _ _=>by unfold G2;(repeat' apply C7 (f:=F))<;>rfl) (by kernel_rfl))
structure o4 where
 ba0:List (List Pln)
 pc8:Int
structure i8 where
 ph:Nat
 Ka7:Int
 ns6:Nat
 eh0:List (List a7)
noncomputable def Ja3 (p:o4) (s:i8):St:=⟨(ra 6 ((.v (.slice none 0 0))::(ra 18 ((eL (tLs tP) p.ba0)::((i p.pc8)::((i s.Ka7)::(ra 8 []))))))),[]⟩
noncomputable def Ja4 (p:o4) (s:i8):St:=⟨(ra 6 ((.sl 0 0 s.ns6 0)::(ra 18 ((eL (tLs tP) p.ba0)::((i p.pc8)::((i s.Ka7)::(ra 8 []))))))),[⟨42,4,s.eh0,true,false,0⟩]⟩
noncomputable def Na8 (p:o4) (s:i8):St:=(sel (Nat.beq s.ph 1) (Ja4 p s) (Ja3 p s))
noncomputable def u5 {α:Type} (k:i8→α) (e:Nat→α) (z:α) (p:o4) (s:i8):α:=(sl (decide (s.Ka7 < p.pc8)) (sl (inB s.Ka7 (List.length p.ba0)) (sl (Nat.beq (len (o2 (fun k=>(tP).row (gL tP (gL (tLs tP) p.ba0 s.Ka7.toNat) k)) (List.range (List.length (gL (tLs tP) p.ba0 s.Ka7.toNat))))) 0) (k ⟨0,(W (s.Ka7+1)),0,[]⟩) z) z) (e 1))
noncomputable def u6 {α:Type} (k:i8→α) (e:Nat→α) (z:α) (p:o4) (s:i8):α:=(sl (decide (s.Ka7 < p.pc8)) (sl (inB s.Ka7 (List.length p.ba0)) (sl (Nat.ble (s.ns6+(len (o2 (fun k=>(tP).row (gL tP (gL (tLs tP) p.ba0 s.Ka7.toNat) k)) (List.range (List.length (gL (tLs tP) p.ba0 s.Ka7.toNat)))))) (len s.eh0)) (k ⟨1,(W (s.Ka7+1)),(s.ns6+(len (o2 (fun k=>(tP).row (gL tP (gL (tLs tP) p.ba0 s.Ka7.toNat) k)) (List.range (List.length (gL (tLs tP) p.ba0 s.Ka7.toNat)))))),(app (E9 s.eh0 s.ns6) (app (o2 (fun k=>(tP).row (gL tP (gL (tLs tP) p.ba0 s.Ka7.toNat) k)) (List.range (List.length (gL (tLs tP) p.ba0 s.Ka7.toNat)))) (j9 s.eh0 (s.ns6+(len (o2 (fun k=>(tP).row (gL tP (gL (tLs tP) p.ba0 s.Ka7.toNat) k)) (List.range (List.length (gL (tLs tP) p.ba0 s.Ka7.toNat)))))))))⟩) z) z) (e 2))
noncomputable def y8 (p:o4) (s:i8):Stp i8:=(sel (Nat.beq s.ph 1) (u6 .next .exit .fail p s) (u5 .next .exit .fail p s))
noncomputable def ca3:Lo o4 i8:=⟨En da8,0,hd9,[1,1,1,1,0,1,4,4],[6,25,26,27],.p,[⟨(ru2 6 ((.s (.o .nil))::(ru2 18 ((.s (.c 1 (nL (tLs tP))))::((.s (.o (.int .i64)))::((.s (.o (.int .i64)))::(ru2 8 []))))))),[],fun a H=>(⟨(rL (tLs tP) (slT a 25)),(toI (slT a 26))⟩,⟨0,(toI (slT a 27)),0,[]⟩)⟩,⟨(ru2 6 ((.s (.o (.sl 0 0 (some 0) none)))::(ru2 18 ((.s (.c 1 (nL (tLs tP))))::((.s (.o (.int .i64)))::((.s (.o (.int .i64)))::(ru2 8 []))))))),[⟨42,4,true,none⟩],fun a H=>(⟨(rL (tLs tP) (slT a 25)),(toI (slT a 26))⟩,⟨1,(toI (slT a 27)),(slN (slT a 6)),(elT H 0)⟩)⟩],y8,[(some 2,fun p s=>⟨(ra 6 ((.v (.slice none 0 0))::(ra 18 ((eL (tLs tP) p.ba0)::((i p.pc8)::((i s.Ka7)::((b (decide (s.Ka7 < p.pc8)))::(ra 7 [])))))))),[]⟩),(some 2,fun p s=>⟨(ra 6 ((.sl 0 0 s.ns6 0)::(ra 18 ((eL (tLs tP) p.ba0)::((i p.pc8)::((i s.Ka7)::((b (decide (s.Ka7 < p.pc8)))::(ra 7 [])))))))),[⟨42,4,s.eh0,true,false,0⟩]⟩)],Na8⟩
theorem Na9:ca3.OkM:=Lo.okM [] (by kernel_rfl) .nil rfl (.cons (fun a H=>by kernel_rfl) (.cons (fun a H=>by kernel_rfl) .nil)) fun p s=>(.sel (Nat.beq s.ph 1) (.of @u6 (fun F _ _ _ _ _=>by unfold u6;(repeat' apply C7 (f:=F))<;>rfl) (by kernel_rfl)) (.of @u5 (fun F _ _ _ _ _=>by unfold u5;(repeat' apply C7 (f:=F))<;>rfl) (by kernel_rfl)))
structure X0 where
 alt:Nat
 ns0:Nat
 eh0:List (List a7)
noncomputable def H4 {α:Type} (kk:X0→α) (x:List (List Pln)):α:=let t1:=(lp (D6 (⟨(rt (tLs tP) x),(rt (tLs tP) x),(↑(List.length x):Int)⟩:J6)) (⟨0,0⟩:o3));let t2:=(lp (y8 (⟨(rt (tLs tP) (rt (tLs tP) x)),(↑(List.length (rt (tLs tP) x)):Int)⟩:o4)) (⟨0,0,0,[]⟩:i8));let t3:=(lp (y8 (⟨(rt (tLs tP) (rt (tLs tP) x)),(↑(List.length (rt (tLs tP) x)):Int)⟩:o4)) (⟨1,0,0,(List.replicate t1.2.is3.toNat bc7)⟩:i8));(sl ((cnE (tLs tP) x)&&((cnE (tLs tP) x)&&true)) (sl (Nat.beq t1.1 1) (sl (t1.2.is3==0) (sl ((cnE (tLs tP) (rt (tLs tP) x))&&true) (sl (Nat.beq t2.1 1) (kk ⟨1,0,[]⟩) (sl (Nat.beq t2.1 2) (kk ⟨2,t2.2.ns6,t2.2.eh0⟩) (kk ⟨0,0,[]⟩))) (kk ⟨0,0,[]⟩)) (sl (Bool.and (decide (0 < t1.2.is3)) (Nat.ble (t1.2.is3.toNat*32) room)) (sl ((cnE (tLs tP) (rt (tLs tP) x))&&true) (sl (Nat.beq t3.1 1) (kk ⟨1,0,[]⟩) (sl (Nat.beq t3.1 2) (kk ⟨2,t3.2.ns6,t3.2.eh0⟩) (kk ⟨0,0,[]⟩))) (kk ⟨0,0,[]⟩)) (kk ⟨0,0,[]⟩))) (kk ⟨0,0,[]⟩)) (kk ⟨0,0,[]⟩))
noncomputable def X1 (x:List (List Pln)):X0:=H4 (fun r=>r) x
noncomputable def da9 (r:X0):DT (a7×List a8):=(.ite (Nat.beq r.alt 1) (.ret ((.v (.slice none 0 0)),[])) (.ite (Nat.beq r.alt 2) (.ret ((.sl 0 0 r.ns0 0),[⟨42,4,r.eh0,true,false,0⟩])) .fail))
theorem Xa2 {α β:Type} (F:α→β) (kk:X0→α) (x:List (List Pln)):F (H4 kk x)=H4 (fun r=>F (kk r)) x:=by unfold H4;(repeat' apply C7 (f:=F))<;>rfl
noncomputable def ta2:Sum:=wa5 (Fa8 (tLs tP)) (fun x=>da9 (X1 x))
theorem Ua1:j7 prog G 52 ta2:=Eb7 (bd b52 Qa0) fun x=>cd7 (.s .p (.s .p (.s (.s .p (.b (.u ca2.lsM))) (.s .p (.s (.s .p (.b (.u ca3.lsM))) .p))))) [ca2.prM,ca3.prM] (by kernel_rfl) (.cons Na7 (.cons Na9 .nil)) (Eq.trans (b:=H4 (fun r=>(da9 r).run) x) (by kernel_rfl) (Xa2 (fun r=>(da9 r).run) (fun r=>r) x).symm)
noncomputable def vc0:List (Nat×Sum):=[(52,ta2)]
theorem mc1:o9 prog G vc0:=⟨Ua1,trivial⟩
noncomputable def Qa1 (x:List (List Pln)):Option (a7×List a8):=let t1:=(X1 (rt (tLs tP) x));(sl (okE (tLs tP) x) (sl (Nat.beq t1.alt 1) (some ((.sl 0 0 6 0),[⟨42,4,[[(i 1),(i 0),(i 0),(i 24)],[(i (-1)),(i 0),(i 0),(i 24)],[(i 0),(i 1),(i 0),(i 24)],[(i 0),(i (-1)),(i 0),(i 24)],[(i 0),(i 0),(i 1),(i 24)],[(i 0),(i 0),(i (-1)),(i 24)]],true,false,0⟩])) (sl (Nat.beq t1.alt 2) (sl (Nat.beq t1.ns0 (len t1.eh0)&&Nat.ble ((t1.ns0+1)*32) room) (sl (Nat.beq (t1.ns0+1) (len (app t1.eh0 [[(i 1),(i 0),(i 0),(i 24)]]))&&Nat.ble (((t1.ns0+1)+1)*32) room) (sl (Nat.beq ((t1.ns0+1)+1) (len (app (app t1.eh0 [[(i 1),(i 0),(i 0),(i 24)]]) [[(i (-1)),(i 0),(i 0),(i 24)]]))&&Nat.ble ((((t1.ns0+1)+1)+1)*32) room) (sl (Nat.beq (((t1.ns0+1)+1)+1) (len (app (app (app t1.eh0 [[(i 1),(i 0),(i 0),(i 24)]]) [[(i (-1)),(i 0),(i 0),(i 24)]]) [[(i 0),(i 1),(i 0),(i 24)]]))&&Nat.ble (((((t1.ns0+1)+1)+1)+1)*32) room) (sl (Nat.beq ((((t1.ns0+1)+1)+1)+1) (len (app (app (app (app t1.eh0 [[(i 1),(i 0),(i 0),(i 24)]]) [[(i (-1)),(i 0),(i 0),(i 24)]]) [[(i 0),(i 1),(i 0),(i 24)]]) [[(i 0),(i (-1)),(i 0),(i 24)]]))&&Nat.ble ((((((t1.ns0+1)+1)+1)+1)+1)*32) room) (sl (Nat.beq (((((t1.ns0+1)+1)+1)+1)+1) (len (app (app (app (app (app t1.eh0 [[(i 1),(i 0),(i 0),(i 24)]]) [[(i (-1)),(i 0),(i 0),(i 24)]]) [[(i 0),(i 1),(i 0),(i 24)]]) [[(i 0),(i (-1)),(i 0),(i 24)]]) [[(i 0),(i 0),(i 1),(i 24)]]))&&Nat.ble (((((((t1.ns0+1)+1)+1)+1)+1)+1)*32) room) (some ((.sl 0 0 ((((((t1.ns0+1)+1)+1)+1)+1)+1) 0),[⟨42,4,(app (app (app (app (app (app t1.eh0 [[(i 1),(i 0),(i 0),(i 24)]]) [[(i (-1)),(i 0),(i 0),(i 24)]]) [[(i 0),(i 1),(i 0),(i 24)]]) [[(i 0),(i (-1)),(i 0),(i 24)]]) [[(i 0),(i 0),(i 1),(i 24)]]) [[(i 0),(i 0),(i (-1)),(i 24)]]),true,false,0⟩])) none) none) none) none) none) none) none)) none)
noncomputable def ua7 (x:List (List Pln)):List Pln:=la8 (one (r1L tP)) (Qa1 x)
noncomputable def ua8 (x:List (List Pln)):Bool:=okO (one (r1L tP)) (Qa1 x)
noncomputable def gb0:Sum:=wa5 (Fa8 (tLs tP)) (fun x=>.guard (ua8 x) (.ret ((one (r1L tP)).enc (ua7 x),[])))
theorem mb9:j7 prog G 27 gb0:=hb6 (bd b27 mc1) (one (r1L tP)) (o:=Qa1) fun x=>J5 (by kernel_rfl)
structure L5 where
 ha1:List (List Pln)
noncomputable def ia7:List (Nat×Sum):=[(51,cb6)]
theorem Da2:o9 prog G ia7:=⟨Cb7,trivial⟩
structure E2 where
 ha1:List (List Pln)
 is7:Int
structure l5 where
 is8:Int
noncomputable def Aa1 (p:E2) (s:l5):St:=⟨((eL (tLs tP) p.ha1)::((.fn 51 [])::(ra 5 ((i p.is7)::((i s.is8)::(ra 10 [])))))),[]⟩
noncomputable def A7 {α:Type} (k:l5→α) (e:Nat→α) (z:α) (p:E2) (s:l5):α:=let t1:=(ra5 (rt tP (gL (tLs tP) p.ha1 s.is8.toNat)));(sl (decide (s.is8 < p.is7)) (sl (inB s.is8 (List.length p.ha1)) (sl (okE tP (gL (tLs tP) p.ha1 s.is8.toNat)) (sl (ra6 (rt tP (gL (tLs tP) p.ha1 s.is8.toNat))) (sl t1 (e 1) (k ⟨(W (s.is8+1))⟩)) z) z) z) (e 2))
noncomputable def D1 (p:E2) (s:l5):Stp l5:=A7 .next .exit .fail p s
noncomputable def S7:Lo E2 l5:=⟨En ia7,0,od4,[1,0,1,4,4],[0,1,7,8],.p,[⟨((.s (.c 1 (nL (tLs tP))))::((.s (.o (.fn 51)))::(ru2 5 ((.s (.o (.int .i64)))::((.s (.o (.int .i64)))::(ru2 10 [])))))),[],fun a H=>(⟨(rL (tLs tP) (slT a 0)),(toI (slT a 7))⟩,⟨(toI (slT a 8))⟩)⟩],D1,[(none,fun p s=>⟨[(i s.is8)],[]⟩),(some 0,fun p s=>⟨((eL (tLs tP) p.ha1)::((.fn 51 [])::(ra 5 ((i p.is7)::((i s.is8)::((b (decide (s.is8 < p.is7)))::(ra 9 []))))))),[]⟩)],Aa1⟩
theorem Aa2:S7.Ok:=Lo.ok [] (by kernel_rfl) .nil rfl (.cons (fun a H=>by kernel_rfl) .nil) fun p s=>(.of @A7 (fun F _ _ _ _ _=>by unfold A7;(repeat' apply C7 (f:=F))<;>rfl) (by kernel_rfl))
structure L6 where
 alt:Nat
 is0:Int
noncomputable def B7 {α:Type} (kk:L6→α) (x:L5):α:=let t1:=(lp (D1 (⟨(rt (tLs tP) x.ha1),(↑(List.length x.ha1):Int)⟩:E2)) (⟨0⟩:l5));(sl ((cnE (tLs tP) x.ha1)&&true) (sl (Nat.beq t1.1 1) (kk ⟨1,t1.2.is8⟩) (sl (Nat.beq t1.1 2) (kk ⟨1,(-1)⟩) (kk ⟨0,0⟩))) (kk ⟨0,0⟩))
noncomputable def X3 (x:L5):L6:=B7 (fun r=>r) x
noncomputable def V2 (x:L5) (r:L6):DT (a7×List a8):=(.ite (Nat.beq r.alt 1) (.ret ((i r.is0),[])) .fail)
theorem Ja5 {α β:Type} (F:α→β) (kk:L6→α) (x:L5):F (B7 kk x)=B7 (fun r=>F (kk r)) x:=by unfold B7;(repeat' apply C7 (f:=F))<;>rfl
noncomputable def ka8:Sum:=Ma8 ⟨[(.s (.c 1 (nL (tLs tP)))),(.s (.o (.fn 51)))],[],fun a H=>(⟨(rL (tLs tP) (slT a 0))⟩,())⟩ (fun x=>V2 x (X3 x))
theorem Ga8:j7 prog G 70 ka8:=Q1 (enc:=fun x=>⟨[(eL (tLs tP) x.ha1),(.fn 51 [])],[]⟩) (fun a H=>by kernel_rfl) (bd b70 Da2) fun x=>hb8 (.s .p (.s (.s .p (.b (.u S7.ls))) .p)) [S7.pr] (by kernel_rfl) (.cons Aa2 .nil) (Eq.trans (b:=B7 (fun r=>(V2 x r).run) x) (by kernel_rfl) (Ja5 (fun r=>(V2 x r).run) (fun r=>r) x).symm)
structure I5 where
 ha1:List (List Pln)
noncomputable def xa5:List (Nat×Sum):=[(70,ka8)]
theorem ua9:o9 prog G xa5:=⟨Ga8,trivial⟩
structure I6 where
 alt:Nat
 bs0:Bool
noncomputable def w6 {α:Type} (kk:I6→α) (x:I5):α:=let t1:=(X3 ⟨(rt (tLs tP) x.ha1)⟩);(sl ((cnE (tLs tP) x.ha1)&&true) (sl (Nat.beq t1.alt 1) (kk ⟨1,(decide (t1.is0≥0))⟩) (kk ⟨0,false⟩)) (kk ⟨0,false⟩))
noncomputable def Q8 (x:I5):I6:=w6 (fun r=>r) x
noncomputable def P3 (x:I5) (r:I6):DT (a7×List a8):=(.ite (Nat.beq r.alt 1) (.ret ((b r.bs0),[])) .fail)
theorem Aa3 {α β:Type} (F:α→β) (kk:I6→α) (x:I5):F (w6 kk x)=w6 (fun r=>F (kk r)) x:=by unfold w6;(repeat' apply C7 (f:=F))<;>rfl
noncomputable def ea8:Sum:=Ma8 ⟨[(.s (.c 1 (nL (tLs tP)))),(.s (.o (.fn 51)))],[],fun a H=>(⟨(rL (tLs tP) (slT a 0))⟩,())⟩ (fun x=>P3 x (Q8 x))
theorem xa6:j7 prog G 50 ea8:=Q1 (enc:=fun x=>⟨[(eL (tLs tP) x.ha1),(.fn 51 [])],[]⟩) (fun a H=>by kernel_rfl) (bd b50 ua9) fun x=>J5 (Eq.trans (b:=w6 (fun r=>(P3 x r).run) x) (by kernel_rfl) (Aa3 (fun r=>(P3 x r).run) (fun r=>r) x).symm)
noncomputable def Qb9:List (Nat×Sum):=[(50,ea8)]
theorem Lb9:o9 prog G Qb9:=⟨xa6,trivial⟩
noncomputable def ra7 (x:List (List Pln)):Option (a7×List a8):=let t1:=(Q8 ⟨(rt (tLs tP) x)⟩);(sl ((cnE (tLs tP) x)&&true) (sl (Nat.beq t1.alt 1) (some ((b (!t1.bs0)),[])) none) none)
noncomputable def S8 (x:List (List Pln)):Bool:=la8 (one r1B) (ra7 x)
noncomputable def S9 (x:List (List Pln)):Bool:=okO (one r1B) (ra7 x)
noncomputable def ka4:Sum:=wa5 (Fa8 (tLs tP)) (fun x=>.guard (S9 x) (.ret ((one r1B).enc (S8 x),[])))
theorem ma8:j7 prog G 26 ka4:=hb6 (bd b26 Lb9) (one r1B) (o:=ra7) fun x=>J5 (by kernel_rfl)
structure T0 where
 Ca0:Int
 Ca1:Int
 Ca2:Int
 Ia2:Int
 y6:Int
 o8:Int
 y7:Int
 c8:Int
noncomputable def Qa2:List (Nat×Sum):=[(32,La8)]
theorem Oa0:o9 prog G Qa2:=⟨Ta4,trivial⟩
structure K6 where
 bs0:Bool
noncomputable def K7 {α:Type} (kk:K6→α) (x:T0):α:=let t1:=(da5 (⟨(⟨x.y6,x.o8,x.y7⟩:V3),x.c8⟩:Pln) (⟨x.Ca0,x.Ca1,x.Ca2,x.Ia2⟩:Pt));(kk ⟨(decide (t1 > 0))⟩)
noncomputable def ea0 (x:T0):K6:=K7 (fun r=>r) x
noncomputable def ca4 (x:T0) (r:K6):DT (a7×List a8):=.ret ((b r.bs0),[⟨0,4,[[(i x.y6),(i x.o8),(i x.y7),(i x.c8)]],true,false,0⟩])
theorem Ua2 {α β:Type} (F:α→β) (kk:K6→α) (x:T0):F (K7 kk x)=K7 (fun r=>F (kk r)) x:=by unfold K7;(repeat' apply C7 (f:=F))<;>rfl
noncomputable def ra8:Sum:=Ma8 ⟨[(.agg [(.o (.int .i64)),(.o (.int .i64)),(.o (.int .i64)),(.o (.int .i64))]),(.s (.o (.ptr 0 0 0 0)))],[⟨0,4,true,(some [[(.o (.int .i64)),(.o (.int .i64)),(.o (.int .i64)),(.o (.int .i64))]])⟩],fun a H=>(⟨(toI (slT (cellsOf (slT a 0)) 0)),(toI (slT (cellsOf (slT a 0)) 1)),(toI (slT (cellsOf (slT a 0)) 2)),(toI (slT (cellsOf (slT a 0)) 3)),(toI (slT (rwT (elT H 0) 0) 0)),(toI (slT (rwT (elT H 0) 0) 1)),(toI (slT (rwT (elT H 0) 0) 2)),(toI (slT (rwT (elT H 0) 0) 3))⟩,())⟩ (fun x=>ca4 x (ea0 x))
theorem Qa3:j7 prog G 60 ra8:=Q1 (enc:=fun x=>⟨[(.agg [(i x.Ca0),(i x.Ca1),(i x.Ca2),(i x.Ia2)]),(.ptr 0 0 0 0)],[⟨0,4,[[(i x.y6),(i x.o8),(i x.y7),(i x.c8)]],true,false,0⟩]⟩) (fun a H=>by kernel_rfl) (bd b60 Oa0) fun x=>J5 (Eq.trans (b:=K7 (fun r=>(ca4 x r).run) x) (by kernel_rfl) (Ua2 (fun r=>(ca4 x r).run) (fun r=>r) x).symm)
structure O1 where
 G4:List Pt
 y6:Int
 o8:Int
 y7:Int
 c8:Int
noncomputable def ka9:List (Nat×Sum):=[(60,ra8)]
theorem Ga9:o9 prog G ka9:=⟨Qa3,trivial⟩
structure F6 where
 G4:List Pt
 is7:Int
 y6:Int
 o8:Int
 y7:Int
 c8:Int
structure m8 where
 is8:Int
noncomputable def Da3 (p:F6) (s:m8):St:=⟨((eL tX p.G4)::((.fn 60 [(.ptr 0 0 0 0)])::(ra 5 ((i p.is7)::((i s.is8)::(ra 10 [])))))),[⟨0,4,[[(i p.y6),(i p.o8),(i p.y7),(i p.c8)]],true,false,0⟩]⟩
noncomputable def D2 {α:Type} (k:m8→α) (e:Nat→α) (z:α) (p:F6) (s:m8):α:=let t1:=(ea0 ⟨(gL tX p.G4 s.is8.toNat).px,(gL tX p.G4 s.is8.toNat).py,(gL tX p.G4 s.is8.toNat).pz,(gL tX p.G4 s.is8.toNat).pw,p.y6,p.o8,p.y7,p.c8⟩);(sl (decide (s.is8 < p.is7)) (sl (inB s.is8 (List.length p.G4)) (sl t1.bs0 (e 1) (k ⟨(W (s.is8+1))⟩)) z) (e 2))
noncomputable def E3 (p:F6) (s:m8):Stp m8:=D2 .next .exit .fail p s
noncomputable def V4:Lo F6 m8:=⟨En ka9,1,id1,[1,0,1,4,4],[0,1,7,8],.p,[⟨((.s (.c 4 (nL tX)))::((.fn 60 [(.o (.ptr 0 0 0 0))])::(ru2 5 ((.s (.o (.int .i64)))::((.s (.o (.int .i64)))::(ru2 10 [])))))),[⟨0,4,true,(some [[(.o (.int .i64)),(.o (.int .i64)),(.o (.int .i64)),(.o (.int .i64))]])⟩],fun a H=>(⟨(rL tX (slT a 0)),(toI (slT a 7)),(toI (slT (rwT (elT H 0) 0) 0)),(toI (slT (rwT (elT H 0) 0) 1)),(toI (slT (rwT (elT H 0) 0) 2)),(toI (slT (rwT (elT H 0) 0) 3))⟩,⟨(toI (slT a 8))⟩)⟩],E3,[(none,fun p s=>⟨[(i s.is8)],[⟨0,4,[[(i p.y6),(i p.o8),(i p.y7),(i p.c8)]],true,false,0⟩]⟩),(some 0,fun p s=>⟨((eL tX p.G4)::((.fn 60 [(.ptr 0 0 0 0)])::(ra 5 ((i p.is7)::((i s.is8)::((b (decide (s.is8 < p.is7)))::(ra 9 []))))))),[⟨0,4,[[(i p.y6),(i p.o8),(i p.y7),(i p.c8)]],true,false,0⟩]⟩)],Da3⟩
theorem Da4:V4.Ok:=Lo.ok [] (by kernel_rfl) .nil rfl (.cons (fun a H=>by kernel_rfl) .nil) fun p s=>(.of @D2 (fun F _ _ _ _ _=>by unfold D2;(repeat' apply C7 (f:=F))<;>rfl) (by kernel_rfl))
structure O2 where
 alt:Nat
 is0:Int
noncomputable def D7 {α:Type} (kk:O2→α) (x:O1):α:=let t1:=(lp (E3 (⟨(rt tX x.G4),(↑(List.length x.G4):Int),x.y6,x.o8,x.y7,x.c8⟩:F6)) (⟨0⟩:m8));(sl ((cnE tX x.G4)&&true) (sl (Nat.beq t1.1 1) (kk ⟨1,t1.2.is8⟩) (sl (Nat.beq t1.1 2) (kk ⟨1,(-1)⟩) (kk ⟨0,0⟩))) (kk ⟨0,0⟩))
noncomputable def Z6 (x:O1):O2:=D7 (fun r=>r) x
noncomputable def X4 (x:O1) (r:O2):DT (a7×List a8):=(.ite (Nat.beq r.alt 1) (.ret ((i r.is0),[⟨0,4,[[(i x.y6),(i x.o8),(i x.y7),(i x.c8)]],true,false,0⟩])) .fail)
theorem Oa1 {α β:Type} (F:α→β) (kk:O2→α) (x:O1):F (D7 kk x)=D7 (fun r=>F (kk r)) x:=by unfold D7;(repeat' apply C7 (f:=F))<;>rfl
noncomputable def ma9:Sum:=Ma8 ⟨[(.s (.c 4 (nL tX))),(.fn 60 [(.o (.ptr 0 0 0 0))])],[⟨0,4,true,(some [[(.o (.int .i64)),(.o (.int .i64)),(.o (.int .i64)),(.o (.int .i64))]])⟩],fun a H=>(⟨(rL tX (slT a 0)),(toI (slT (rwT (elT H 0) 0) 0)),(toI (slT (rwT (elT H 0) 0) 1)),(toI (slT (rwT (elT H 0) 0) 2)),(toI (slT (rwT (elT H 0) 0) 3))⟩,())⟩ (fun x=>X4 x (Z6 x))
theorem Ja6:j7 prog G 61 ma9:=Q1 (enc:=fun x=>⟨[(eL tX x.G4),(.fn 60 [(.ptr 0 0 0 0)])],[⟨0,4,[[(i x.y6),(i x.o8),(i x.y7),(i x.c8)]],true,false,0⟩]⟩) (fun a H=>by kernel_rfl) (bd b61 Ga9) fun x=>hb8 (.s .p (.s (.s .p (.b (.u V4.ls))) .p)) [V4.pr] (by kernel_rfl) (.cons Da4 .nil) (Eq.trans (b:=D7 (fun r=>(X4 x r).run) x) (by kernel_rfl) (Oa1 (fun r=>(X4 x r).run) (fun r=>r) x).symm)
structure J9 where
 G4:List Pt
 y6:Int
 o8:Int
 y7:Int
 c8:Int
noncomputable def Aa4:List (Nat×Sum):=[(61,ma9)]
theorem xa7:o9 prog G Aa4:=⟨Ja6,trivial⟩
structure K0 where
 alt:Nat
 bs0:Bool
noncomputable def z6 {α:Type} (kk:K0→α) (x:J9):α:=let t1:=(Z6 ⟨(rt tX x.G4),x.y6,x.o8,x.y7,x.c8⟩);(sl ((cnE tX x.G4)&&true) (sl (Nat.beq t1.alt 1) (kk ⟨1,(decide (t1.is0≥0))⟩) (kk ⟨0,false⟩)) (kk ⟨0,false⟩))
noncomputable def T1 (x:J9):K0:=z6 (fun r=>r) x
noncomputable def Q9 (x:J9) (r:K0):DT (a7×List a8):=(.ite (Nat.beq r.alt 1) (.ret ((b r.bs0),[⟨0,4,[[(i x.y6),(i x.o8),(i x.y7),(i x.c8)]],true,false,0⟩])) .fail)
theorem Da5 {α β:Type} (F:α→β) (kk:K0→α) (x:J9):F (z6 kk x)=z6 (fun r=>F (kk r)) x:=by unfold z6;(repeat' apply C7 (f:=F))<;>rfl
noncomputable def ha4:Sum:=Ma8 ⟨[(.s (.c 4 (nL tX))),(.fn 60 [(.o (.ptr 0 0 0 0))])],[⟨0,4,true,(some [[(.o (.int .i64)),(.o (.int .i64)),(.o (.int .i64)),(.o (.int .i64))]])⟩],fun a H=>(⟨(rL tX (slT a 0)),(toI (slT (rwT (elT H 0) 0) 0)),(toI (slT (rwT (elT H 0) 0) 1)),(toI (slT (rwT (elT H 0) 0) 2)),(toI (slT (rwT (elT H 0) 0) 3))⟩,())⟩ (fun x=>Q9 x (T1 x))
theorem Aa5:j7 prog G 37 ha4:=Q1 (enc:=fun x=>⟨[(eL tX x.G4),(.fn 60 [(.ptr 0 0 0 0)])],[⟨0,4,[[(i x.y6),(i x.o8),(i x.y7),(i x.c8)]],true,false,0⟩]⟩) (fun a H=>by kernel_rfl) (bd b37 xa7) fun x=>J5 (Eq.trans (b:=z6 (fun r=>(Q9 x r).run) x) (by kernel_rfl) (Da5 (fun r=>(Q9 x r).run) (fun r=>r) x).symm)
structure Y6 where
 Ca0:Int
 Ca1:Int
 Ca2:Int
 Ia2:Int
 i9:List Pt
noncomputable def Xa3:List (Nat×Sum):=[(37,ha4)]
theorem Ua3:o9 prog G Xa3:=⟨Aa5,trivial⟩
structure P4 where
 alt:Nat
 bs0:Bool
noncomputable def J7 {α:Type} (kk:P4→α) (x:Y6):α:=let t1:=(T1 ⟨(rt tX x.i9),x.Ca0,x.Ca1,x.Ca2,x.Ia2⟩);(sl ((cnE tX x.i9)&&true) (sl (Nat.beq t1.alt 1) (kk ⟨1,(!t1.bs0)⟩) (kk ⟨0,false⟩)) (kk ⟨0,false⟩))
noncomputable def Y7 (x:Y6):P4:=J7 (fun r=>r) x
noncomputable def ga9 (x:Y6) (r:P4):DT (a7×List a8):=(.ite (Nat.beq r.alt 1) (.ret ((b r.bs0),[⟨0,1,[[(eL tX x.i9)]],true,false,0⟩])) .fail)
theorem cb8 {α β:Type} (F:α→β) (kk:P4→α) (x:Y6):F (J7 kk x)=J7 (fun r=>F (kk r)) x:=by unfold J7;(repeat' apply C7 (f:=F))<;>rfl
noncomputable def xa8:Sum:=Ma8 ⟨[(.agg [(.o (.int .i64)),(.o (.int .i64)),(.o (.int .i64)),(.o (.int .i64))]),(.s (.o (.ptr 0 0 0 0)))],[⟨0,1,true,(some [[(.c 4 (nL tX))]])⟩],fun a H=>(⟨(toI (slT (cellsOf (slT a 0)) 0)),(toI (slT (cellsOf (slT a 0)) 1)),(toI (slT (cellsOf (slT a 0)) 2)),(toI (slT (cellsOf (slT a 0)) 3)),(rL tX (slT (rwT (elT H 0) 0) 0))⟩,())⟩ (fun x=>ga9 x (Y7 x))
theorem Xa4:j7 prog G 59 xa8:=Q1 (enc:=fun x=>⟨[(.agg [(i x.Ca0),(i x.Ca1),(i x.Ca2),(i x.Ia2)]),(.ptr 0 0 0 0)],[⟨0,1,[[(eL tX x.i9)]],true,false,0⟩]⟩) (fun a H=>by kernel_rfl) (bd b59 Ua3) fun x=>J5 (Eq.trans (b:=J7 (fun r=>(ga9 x r).run) x) (by kernel_rfl) (cb8 (fun r=>(ga9 x r).run) (fun r=>r) x).symm)
structure L7 where
 v6:List Pln
 i9:List Pt
noncomputable def ia8:List (Nat×Sum):=[(59,xa8)]
theorem Da6:o9 prog G ia8:=⟨Xa4,trivial⟩
structure E4 where
 v6:List Pln
 is7:Int
structure l6 where
 is8:Int
 i9:List Pt
noncomputable def Aa6 (p:E4) (s:l6):St:=⟨((eL tP p.v6)::((.fn 59 [(.ptr 0 0 0 0)])::(ra 5 ((i p.is7)::((i s.is8)::(ra 10 [])))))),[⟨0,1,[[(eL tX s.i9)]],true,false,0⟩]⟩
noncomputable def A8 {α:Type} (k:l6→α) (e:Nat→α) (z:α) (p:E4) (s:l6):α:=let t1:=(Y7 ⟨(gL tP p.v6 s.is8.toNat).n.x,(gL tP p.v6 s.is8.toNat).n.y,(gL tP p.v6 s.is8.toNat).n.z,(gL tP p.v6 s.is8.toNat).b,(rt tX s.i9)⟩);(sl (decide (s.is8 < p.is7)) (sl (inB s.is8 (List.length p.v6)) (sl ((cnE tX s.i9)&&true) (sl (Nat.beq t1.alt 1) (sl t1.bs0 (e 1) (k ⟨(W (s.is8+1)),(rt tX s.i9)⟩)) z) z) z) (e 2))
noncomputable def D3 (p:E4) (s:l6):Stp l6:=A8 .next .exit .fail p s
noncomputable def T2:Lo E4 l6:=⟨En ia8,1,od6,[1,0,1,4,4],[0,1,7,8],.p,[⟨((.s (.c 4 (nL tP)))::((.fn 59 [(.o (.ptr 0 0 0 0))])::(ru2 5 ((.s (.o (.int .i64)))::((.s (.o (.int .i64)))::(ru2 10 [])))))),[⟨0,1,true,(some [[(.c 4 (nL tX))]])⟩],fun a H=>(⟨(rL tP (slT a 0)),(toI (slT a 7))⟩,⟨(toI (slT a 8)),(rL tX (slT (rwT (elT H 0) 0) 0))⟩)⟩],D3,[(none,fun p s=>⟨[(i s.is8)],[⟨0,1,[[(eL tX (rt tX s.i9))]],true,false,0⟩]⟩),(some 0,fun p s=>⟨((eL tP p.v6)::((.fn 59 [(.ptr 0 0 0 0)])::(ra 5 ((i p.is7)::((i s.is8)::((b (decide (s.is8 < p.is7)))::(ra 9 []))))))),[⟨0,1,[[(eL tX s.i9)]],true,false,0⟩]⟩)],Aa6⟩
theorem Aa7:T2.Ok:=Lo.ok [] (by kernel_rfl) .nil rfl (.cons (fun a H=>by kernel_rfl) .nil) fun p s=>(.of @A8 (fun F _ _ _ _ _=>by unfold A8;(repeat' apply C7 (f:=F))<;>rfl) (by kernel_rfl))
structure L8 where
 alt:Nat
 is0:Int
 i9:List Pt
noncomputable def B8 {α:Type} (kk:L8→α) (x:L7):α:=let t1:=(lp (D3 (⟨(rt tP x.v6),(↑(List.length x.v6):Int)⟩:E4)) (⟨0,(rt tX x.i9)⟩:l6));(sl ((cnE tP x.v6)&&((cnE tX x.i9)&&true)) (sl (Nat.beq t1.1 1) (kk ⟨1,t1.2.is8,(rt tX t1.2.i9)⟩) (sl (Nat.beq t1.1 2) (kk ⟨1,(-1),t1.2.i9⟩) (kk ⟨0,0,[]⟩))) (kk ⟨0,0,[]⟩))
noncomputable def X5 (x:L7):L8:=B8 (fun r=>r) x
noncomputable def V5 (x:L7) (r:L8):DT (a7×List a8):=(.ite (Nat.beq r.alt 1) (.ret ((i r.is0),[⟨0,1,[[(eL tX r.i9)]],true,false,0⟩])) .fail)
theorem Ja7 {α β:Type} (F:α→β) (kk:L8→α) (x:L7):F (B8 kk x)=B8 (fun r=>F (kk r)) x:=by unfold B8;(repeat' apply C7 (f:=F))<;>rfl
noncomputable def la0:Sum:=Ma8 ⟨[(.s (.c 4 (nL tP))),(.fn 59 [(.o (.ptr 0 0 0 0))])],[⟨0,1,true,(some [[(.c 4 (nL tX))]])⟩],fun a H=>(⟨(rL tP (slT a 0)),(rL tX (slT (rwT (elT H 0) 0) 0))⟩,())⟩ (fun x=>V5 x (X5 x))
theorem Ha0:j7 prog G 85 la0:=Q1 (enc:=fun x=>⟨[(eL tP x.v6),(.fn 59 [(.ptr 0 0 0 0)])],[⟨0,1,[[(eL tX x.i9)]],true,false,0⟩]⟩) (fun a H=>by kernel_rfl) (bd b85 Da6) fun x=>hb8 (.s .p (.s (.s .p (.b (.u T2.ls))) .p)) [T2.pr] (by kernel_rfl) (.cons Aa7 .nil) (Eq.trans (b:=B8 (fun r=>(V5 x r).run) x) (by kernel_rfl) (Ja7 (fun r=>(V5 x r).run) (fun r=>r) x).symm)
structure I7 where
 v6:List Pln
 i9:List Pt
noncomputable def xa9:List (Nat×Sum):=[(85,la0)]
theorem va0:o9 prog G xa9:=⟨Ha0,trivial⟩
structure I8 where
 alt:Nat
 bs0:Bool
 i9:List Pt
noncomputable def w7 {α:Type} (kk:I8→α) (x:I7):α:=let t1:=(X5 ⟨(rt tP x.v6),(rt tX x.i9)⟩);(sl ((cnE tP x.v6)&&((cnE tX x.i9)&&true)) (sl (Nat.beq t1.alt 1) (kk ⟨1,(decide (t1.is0≥0)),t1.i9⟩) (kk ⟨0,false,[]⟩)) (kk ⟨0,false,[]⟩))
noncomputable def R2 (x:I7):I8:=w7 (fun r=>r) x
noncomputable def P5 (x:I7) (r:I8):DT (a7×List a8):=(.ite (Nat.beq r.alt 1) (.ret ((b r.bs0),[⟨0,1,[[(eL tX r.i9)]],true,false,0⟩])) .fail)
theorem Aa8 {α β:Type} (F:α→β) (kk:I8→α) (x:I7):F (w7 kk x)=w7 (fun r=>F (kk r)) x:=by unfold w7;(repeat' apply C7 (f:=F))<;>rfl
noncomputable def ea9:Sum:=Ma8 ⟨[(.s (.c 4 (nL tP))),(.fn 59 [(.o (.ptr 0 0 0 0))])],[⟨0,1,true,(some [[(.c 4 (nL tX))]])⟩],fun a H=>(⟨(rL tP (slT a 0)),(rL tX (slT (rwT (elT H 0) 0) 0))⟩,())⟩ (fun x=>P5 x (R2 x))
theorem ya0:j7 prog G 58 ea9:=Q1 (enc:=fun x=>⟨[(eL tP x.v6),(.fn 59 [(.ptr 0 0 0 0)])],[⟨0,1,[[(eL tX x.i9)]],true,false,0⟩]⟩) (fun a H=>by kernel_rfl) (bd b58 va0) fun x=>J5 (Eq.trans (b:=w7 (fun r=>(P5 x r).run) x) (by kernel_rfl) (Aa8 (fun r=>(P5 x r).run) (fun r=>r) x).symm)
noncomputable def hb9:List (Nat×Sum):=[(28,ga8),(58,ea9)]
theorem cb9:o9 prog G hb9:=⟨qa7,ya0,trivial⟩
noncomputable def V6 (x:List Pln):Option (a7×List a8):=let t1:=(M9 (rt tP x));let t2:=(R2 ⟨(rt tP x),(rt tX t1)⟩);(sl (okE tP x) (sl (N0 (rt tP x)) (sl ((cnE tP x)&&((cnE tX t1)&&true)) (sl (Nat.beq t2.alt 1) (some ((b (!t2.bs0)),[])) none) none) none) none)
noncomputable def V7 (x:List Pln):Bool:=la8 (one r1B) (V6 x)
noncomputable def V8 (x:List Pln):Bool:=okO (one r1B) (V6 x)
noncomputable def oa6:Sum:=wa5 (Fa8 tP) (fun x=>.guard (V8 x) (.ret ((one r1B).enc (V7 x),[])))
theorem Ba9:j7 prog G 36 oa6:=hb6 (bd b36 cb9) (one r1B) (o:=V6) fun x=>J5 (by kernel_rfl)
noncomputable def Mb0:List (Nat×Sum):=[(26,ka4),(27,gb0),(28,ga8)]
theorem Cb8:o9 prog G Mb0:=⟨ma8,mb9,qa7,trivial⟩
noncomputable def na0 (x:List Pln):Option (a7×List a8):=let t1:=(S8 [(rt tP x)]);let t2:=(ua7 [(rt tP x)]);let t3:=(M9 (rt tP t2));(sl ((okE tP x)&&true) (sl (S9 [(rt tP x)]) (sl (!t1) (some ((.v (.slice none 0 0)),[])) (sl ((okE tP x)&&true) (sl (ua8 [(rt tP x)]) (sl (okE tP t2) (sl (N0 (rt tP t2)) (some ((eL tX t3),[])) none) none) none) none)) none) none)
noncomputable def O3 (x:List Pln):List Pt:=la8 (one (r1L tX)) (na0 x)
noncomputable def O4 (x:List Pln):Bool:=okO (one (r1L tX)) (na0 x)
noncomputable def ga1:Sum:=wa5 (Fa8 tP) (fun x=>.guard (O4 x) (.ret ((one (r1L tX)).enc (O3 x),[])))
theorem ia9:j7 prog G 9 ga1:=hb6 (bd b9 Cb8) (one (r1L tX)) (o:=na0) fun x=>J5 (by kernel_rfl)
noncomputable def bc8:List (Nat×Sum):=[(26,ka4),(27,gb0),(36,oa6)]
theorem Rb0:o9 prog G bc8:=⟨ma8,mb9,Ba9,trivial⟩
noncomputable def ya1 (x:List Pln):Option (a7×List a8):=let t1:=(S8 [(rt tP x)]);let t2:=(ua7 [(rt tP x)]);let t3:=(V7 (rt tP t2));(sl ((okE tP x)&&true) (sl (S9 [(rt tP x)]) (sl t1 (sl ((okE tP x)&&true) (sl (ua8 [(rt tP x)]) (sl (okE tP t2) (sl (V8 (rt tP t2)) (some ((b t3),[])) none) none) none) none) (some ((b false),[]))) none) none)
noncomputable def da6 (x:List Pln):Bool:=la8 (one r1B) (ya1 x)
noncomputable def da7 (x:List Pln):Bool:=okO (one r1B) (ya1 x)
noncomputable def ya2:Sum:=wa5 (Fa8 tP) (fun x=>.guard (da7 x) (.ret ((one r1B).enc (da6 x),[])))
theorem Da7:j7 prog G 20 ya2:=hb6 (bd b20 Rb0) (one r1B) (o:=ya1) fun x=>J5 (by kernel_rfl)
noncomputable def Rb1:List (Nat×Sum):=[]
theorem Mb1:o9 prog G Rb1:=trivial
noncomputable def ra9 (x:Int) (y:Int):Option (a7×List a8):=(sl (y==0) none (sl (y==0) none (sl (decide ((Int.tmod x y) < 0)) (some ((i (W ((W (Int.tdiv x y)) - 1))),[])) (some ((i (W (Int.tdiv x y))),[])))))
noncomputable def T3 (x:Int) (y:Int):Int:=la8 (one r1I) (ra9 x y)
noncomputable def T4 (x:Int) (y:Int):Bool:=okO (one r1I) (ra9 x y)
noncomputable def sb5:Sum:=wa6 cI cI (fun x y=>.guard (T4 x y) (.ret ((one r1I).enc (T3 x y),[])))
theorem Rb2:j7 prog G 25 sb5:=Jb7 (bd b25 Mb1) (one r1I) (o:=ra9) fun x y=>J5 (by kernel_rfl)
noncomputable def jb8:List (Nat×Sum):=[(20,ya2),(24,Ta3),(9,ga1),(25,sb5)]
theorem Mb2:o9 prog G jb8:=⟨Da7,jb4,ia9,Rb2,trivial⟩
structure ja0 where
 N6:List Pt
 bd7:Int
structure P6 where
 W7:Int
 aa7:Int
 aa8:Int
 aa9:Int
 vb0:Int
 vb1:Int
 vb2:Int
noncomputable def Cb9 (p:ja0) (s:P6):St:=⟨(.unk::(.unk::((.ptr 0 0 0 0)::((.ptr 1 0 0 0)::(.unk::((.ptr 2 0 0 0)::((.ptr 3 0 0 0)::(ra 11 ((eL tX p.N6)::((i p.bd7)::((i s.W7)::(ra 62 [])))))))))))),[⟨0,3,[[(i 0),(i 0),(i 0)]],true,false,0⟩,⟨0,3,[[(i 0),(i 0),(i 0)]],true,false,0⟩,⟨0,3,[[(i s.aa7),(i s.aa8),(i s.aa9)]],true,false,0⟩,⟨0,3,[[(i s.vb0),(i s.vb1),(i s.vb2)]],true,false,0⟩]⟩
noncomputable def ca5 {α:Type} (k:P6→α) (e:Nat→α) (z:α) (p:ja0) (s:P6):α:=let t1:=(T3 (gL tX p.N6 s.W7.toNat).px (gL tX p.N6 s.W7.toNat).pw);let t2:=(T3 (gL tX p.N6 s.W7.toNat).py (gL tX p.N6 s.W7.toNat).pw);let t3:=(T3 (gL tX p.N6 s.W7.toNat).pz (gL tX p.N6 s.W7.toNat).pw);let t4:=(T3 (W (0 - (gL tX p.N6 s.W7.toNat).px)) (gL tX p.N6 s.W7.toNat).pw);let t5:=(T3 (W (0 - (gL tX p.N6 s.W7.toNat).py)) (gL tX p.N6 s.W7.toNat).pw);let t6:=(T3 (W (0 - (gL tX p.N6 s.W7.toNat).pz)) (gL tX p.N6 s.W7.toNat).pw);(sl (decide (s.W7 < p.bd7)) (sl (inB s.W7 (List.length p.N6)) (sl (T4 (gL tX p.N6 s.W7.toNat).px (gL tX p.N6 s.W7.toNat).pw) (sl (T4 (gL tX p.N6 s.W7.toNat).py (gL tX p.N6 s.W7.toNat).pw) (sl (T4 (gL tX p.N6 s.W7.toNat).pz (gL tX p.N6 s.W7.toNat).pw) (sl (T4 (W (0 - (gL tX p.N6 s.W7.toNat).px)) (gL tX p.N6 s.W7.toNat).pw) (sl (T4 (W (0 - (gL tX p.N6 s.W7.toNat).py)) (gL tX p.N6 s.W7.toNat).pw) (sl (T4 (W (0 - (gL tX p.N6 s.W7.toNat).pz)) (gL tX p.N6 s.W7.toNat).pw) (k ⟨(W (s.W7+1)),(if t1 < s.aa7 then t1 else s.aa7),(if t2 < s.aa8 then t2 else s.aa8),(if t3 < s.aa9 then t3 else s.aa9),(if (W (0 - t4)) > s.vb0 then (W (0 - t4)) else s.vb0),(if (W (0 - t5)) > s.vb1 then (W (0 - t5)) else s.vb1),(if (W (0 - t6)) > s.vb2 then (W (0 - t6)) else s.vb2)⟩) z) z) z) z) z) z) z) (e 1))
noncomputable def X9 (p:ja0) (s:P6):Stp P6:=ca5 .next .exit .fail p s
noncomputable def Ha1:Lo ja0 P6:=⟨En jb8,0,pf8,[1,1,1,1,0,1,4,4],[2,3,5,6,18,19,20],.p,[⟨((.s (.o .unk))::((.s (.o .unk))::((.s (.o (.ptr 0 0 0 0)))::((.s (.o (.ptr 1 0 0 0)))::((.s (.o .unk))::((.s (.o (.ptr 2 0 0 0)))::((.s (.o (.ptr 3 0 0 0)))::(ru2 11 ((.s (.c 4 (nL tX)))::((.s (.o (.int .i64)))::((.s (.o (.int .i64)))::(ru2 62 [])))))))))))),[⟨0,3,true,(some [[(.o (.lit .i64 0)),(.o (.lit .i64 0)),(.o (.lit .i64 0))]])⟩,⟨0,3,true,(some [[(.o (.lit .i64 0)),(.o (.lit .i64 0)),(.o (.lit .i64 0))]])⟩,⟨0,3,true,(some [[(.o (.int .i64)),(.o (.int .i64)),(.o (.int .i64))]])⟩,⟨0,3,true,(some [[(.o (.int .i64)),(.o (.int .i64)),(.o (.int .i64))]])⟩],fun a H=>(⟨(rL tX (slT a 18)),(toI (slT a 19))⟩,⟨(toI (slT a 20)),(toI (slT (rwT (elT H 2) 0) 0)),(toI (slT (rwT (elT H 2) 0) 1)),(toI (slT (rwT (elT H 2) 0) 2)),(toI (slT (rwT (elT H 3) 0) 0)),(toI (slT (rwT (elT H 3) 0) 1)),(toI (slT (rwT (elT H 3) 0) 2))⟩)⟩],X9,[(some 0,fun p s=>⟨(.unk::(.unk::((.ptr 0 0 0 0)::((.ptr 1 0 0 0)::(.unk::((.ptr 2 0 0 0)::((.ptr 3 0 0 0)::(ra 11 ((eL tX p.N6)::((i p.bd7)::((i s.W7)::((b (decide (s.W7 < p.bd7)))::(ra 61 []))))))))))))),[⟨0,3,[[(i 0),(i 0),(i 0)]],true,false,0⟩,⟨0,3,[[(i 0),(i 0),(i 0)]],true,false,0⟩,⟨0,3,[[(i s.aa7),(i s.aa8),(i s.aa9)]],true,false,0⟩,⟨0,3,[[(i s.vb0),(i s.vb1),(i s.vb2)]],true,false,0⟩]⟩)],Cb9⟩
theorem Db0:Ha1.Ok:=Lo.ok [] (by kernel_rfl) .nil rfl (.cons (fun a H=>by kernel_rfl) .nil) fun p s=>(.of @ca5 (fun F _ _ _ _ _=>by unfold ca5;(repeat' apply C7 (f:=F))<;>rfl) (by kernel_rfl))
noncomputable def sa0 (x:List Pln):Option (a7×List a8):=let t1:=(da6 (rt tP x));let t2:=(K5 (⟨24,24,24⟩:V3) (-1));let t3:=(O3 (rt tP x));let t4:=(lp (X9 (⟨(rt tX t3),(↑(List.length t3):Int)⟩:ja0)) (⟨0,24,24,24,t2.x,t2.y,t2.z⟩:P6));(sl (okE tP x) (sl (da7 (rt tP x)) (sl (!t1) (some ((.tup [(.agg [(i 0),(i 0),(i 0)]),(.agg [(i 0),(i 0),(i 0)]),(b false)]),[])) (sl (okE tP x) (sl (O4 (rt tP x)) (sl ((cnE tX t3)&&true) (sl (Nat.beq t4.1 1) (some ((.tup [(.agg [(i t4.2.aa7),(i t4.2.aa8),(i t4.2.aa9)]),(.agg [(i t4.2.vb0),(i t4.2.vb1),(i t4.2.vb2)]),(b true)]),[])) none) none) none) none)) none) none)
noncomputable def sa1 (x:List Pln):V3×V3×Bool:=la8 (jc3 r1V r1V r1B) (sa0 x)
noncomputable def sa2 (x:List Pln):Bool:=okO (jc3 r1V r1V r1B) (sa0 x)
noncomputable def Ua4:Sum:=wa5 (Fa8 tP) (fun x=>.guard (sa2 x) (.ret ((jc3 r1V r1V r1B).enc (sa1 x),[])))
theorem jb9:j7 prog G 8 Ua4:=hb6 (bd b8 Mb2) (jc3 r1V r1V r1B) (o:=sa0) fun x=>hb8 (.s .p (.s .p (.s .p (.s .p (.s (.s .p (.b (.u Ha1.ls))) .p))))) [Ha1.pr] (by kernel_rfl) (.cons Db0 .nil) (by kernel_rfl)
end Go.Ev.Ce
end
namespace Go.Ev.Ce
open Go Go.Ev Go.Ev.L Go.Proofs
theorem Gc5 (P:ka2) (g n:Int) (hn:n.natAbs≤9223372036854775808):lp (ma4 P) ⟨g,n⟩=(1,⟨eu g n,0⟩) :=
 Wc3 (mk:=fun g n=>(⟨g,n⟩:Y2)) (fun g n h=>by simp[ma4,ia0,lb9,h]) (fun g=>by simp[ma4,ia0,lb9]) g n hn
theorem Gc6 (l:List Int) (hl:l.length≤1000000000) (hb:∀ x∈l,x.natAbs≤9223372036854775808):lp (ga0 ⟨(l.length:Int)⟩) ⟨0,l,0⟩=(1,⟨l.foldl eu 0,l,l.length⟩):=by
 have := Fb0 (step := ga0 ⟨(l.length : Int)⟩) (mk := fun j a => (⟨a, l, (j : Int)⟩ : Y3)) (f := eu) (fin := 1) tI l (fun _ _ => True) hl (fun j a hj _ => ⟨by
   simp only[ga0,ia1,Int.toNat_natCast,G6,K4,Gc5 _ _ _ (hb _ (ac4 tI hj)),N2 hj (by omega)]
   rw[bt (Kb0 hj),bt (q9 hj)]
   rfl,trivial⟩) (fun a _=>by simp[ga0,ia1,lb9]) 0 (Nat.zero_le _) 0 trivial
 simpa using this.1
theorem sb6:∀ (l:List Int) (g:Int),(l.foldl eu g).natAbs=l.foldl (fun a x=>Nat.gcd a x.natAbs) g.natAbs
 | [],_=>rfl
 | x::l,g=>by rw[List.foldl_cons,sb6 l,List.foldl_cons,Lc3];rfl
theorem id5 (l:List Int) (hl:l.length≤1000000000) (hb:∀ x∈l,x.natAbs≤9223372036854775807) (h0:(l.foldl eu 0).natAbs≤9223372036854775807):Ga3 l=some (i ((l.foldl eu 0).natAbs:Int),[]):=by
 unfold Ga3
 simp only[G6,K4,Gc6 l hl (fun x hx=>Nat.le_succ_of_le (hb x hx))]
 generalize l.foldl eu 0=e at *
 have:W (0 - e)=-e:=by rw[Ca9 (by omega) (by omega)];omega
 rw[this]
 show some (i (if -e > e then -e else e),[])=_
 congr 3
 split<;>omega
noncomputable def rm (p:Pln) (x:Pt):Int:=W (p.b*x.pw - (p.n.x*x.px+p.n.y*x.py+p.n.z*x.pz))
theorem bc9 (p:Pln) (x:Pt):da5 p x=rm p x:=by
 unfold da5 pa1 rm
 simp only[Jb9,tc7,Kc9,Lc0]
structure Bd (p:Pln):Prop where
 x1:-4608≤p.n.x
 x2:p.n.x≤4608
 y1:-4608≤p.n.y
 y2:p.n.y≤4608
 z1:-4608≤p.n.z
 z2:p.n.z≤4608
 b1:-2097152≤p.b
 b2:p.b≤2097152
def mv (p q r:Pln):V3 :=
 ⟨(o5 q.n r.n).x*p.b+(o5 r.n p.n).x*q.b+(o5 p.n q.n).x*r.b,
  (o5 q.n r.n).y*p.b+(o5 r.n p.n).y*q.b+(o5 p.n q.n).y*r.b,
  (o5 q.n r.n).z*p.b+(o5 r.n p.n).z*q.b+(o5 p.n q.n).z*r.b⟩
def gc (v:V3) (w:Int):Int:=(Nat.gcd (Nat.gcd v.x.natAbs v.y.natAbs) (Nat.gcd v.z.natAbs w.natAbs):Nat)
def mpt (p q r:Pln):Pt×Bool :=
 if mw p q r=0 then (⟨0,0,0,0⟩,false)
 else if mw p q r < 0 then (⟨Int.tdiv (-(mv p q r).x) (gc (mv p q r) (mw p q r)),Int.tdiv (-(mv p q r).y) (gc (mv p q r) (mw p q r)),Int.tdiv (-(mv p q r).z) (gc (mv p q r) (mw p q r)),Int.tdiv (-(mw p q r)) (gc (mv p q r) (mw p q r))⟩,true)
 else (⟨Int.tdiv (mv p q r).x (gc (mv p q r) (mw p q r)),Int.tdiv (mv p q r).y (gc (mv p q r) (mw p q r)),Int.tdiv (mv p q r).z (gc (mv p q r) (mw p q r)),Int.tdiv (mw p q r) (gc (mv p q r) (mw p q r))⟩,true)
def Sm (n:Int) (x:Int):Prop:=-n≤x∧x≤n
theorem sb7 {a b:V3} (ha:Sm 4608 a.x∧Sm 4608 a.y∧Sm 4608 a.z) (hb:Sm 4608 b.x∧Sm 4608 b.y∧Sm 4608 b.z):Sm 42467328 (o5 a b).x∧Sm 42467328 (o5 a b).y∧Sm 42467328 (o5 a b).z:=by
 obtain⟨⟨a1,a2⟩,⟨a3,a4⟩,a5,a6⟩:=ha
 obtain⟨⟨b1,b2⟩,⟨b3,b4⟩,b5,b6⟩:=hb
 have h1:=mb a3 a4 b5 b6;have h2:=mb a5 a6 b3 b4;have h3:=mb a5 a6 b1 b2;have h4:=mb a1 a2 b5 b6;have h5:=mb a1 a2 b3 b4;have h6:=mb a3 a4 b1 b2
 unfold Sm o5
 simp only
 omega
theorem Bd.n {p:Pln} (h:Bd p):Sm 4608 p.n.x∧Sm 4608 p.n.y∧Sm 4608 p.n.z:=⟨⟨h.x1,h.x2⟩,⟨h.y1,h.y2⟩,h.z1,h.z2⟩
theorem cd8 {p q r:Pln} (hp:Bd p) (hq:Bd q) (hr:Bd r):Sm 600000000000 (mw p q r):=by
 obtain⟨⟨c1,c2⟩,⟨c3,c4⟩,c5,c6⟩:=sb7 hq.n hr.n
 have h1:=mb hp.x1 hp.x2 c1 c2;have h2:=mb hp.y1 hp.y2 c3 c4;have h3:=mb hp.z1 hp.z2 c5 c6
 unfold Sm mw dot
 omega
theorem cd9 {p q r:Pln} (hp:Bd p) (hq:Bd q) (hr:Bd r):Sm 300000000000000 (mv p q r).x∧Sm 300000000000000 (mv p q r).y∧Sm 300000000000000 (mv p q r).z:=by
 obtain⟨⟨c1,c2⟩,⟨c3,c4⟩,c5,c6⟩:=sb7 hq.n hr.n
 obtain⟨⟨d1,d2⟩,⟨d3,d4⟩,d5,d6⟩:=sb7 hr.n hp.n
 obtain⟨⟨e1,e2⟩,⟨e3,e4⟩,e5,e6⟩:=sb7 hp.n hq.n
 have a1:=mb c1 c2 hp.b1 hp.b2;have a2:=mb c3 c4 hp.b1 hp.b2;have a3:=mb c5 c6 hp.b1 hp.b2
 have b1:=mb d1 d2 hq.b1 hq.b2;have b2:=mb d3 d4 hq.b1 hq.b2;have b3:=mb d5 d6 hq.b1 hq.b2
 have f1:=mb e1 e2 hr.b1 hr.b2;have f2:=mb e3 e4 hr.b1 hr.b2;have f3:=mb e5 e6 hr.b1 hr.b2
 unfold Sm mv
 simp only
 omega
theorem Fb3 (a b:V3):K3 a b=⟨W (o5 a b).x,W (o5 a b).y,W (o5 a b).z⟩:=by
 unfold K3 o5
 simp only[Kc9,Lc0]
theorem id6 (p q r:Pln):dot r.n (o5 p.n q.n)=mw p q r:=by unfold mw dot o5;grind
theorem vd0 (a b c d:Nat):[a,b,c,d].foldl Nat.gcd 0=Nat.gcd (Nat.gcd a b) (Nat.gcd c d):=by
 simp only[List.foldl_cons,List.foldl_nil,Nat.gcd_zero_left]
 rw[Nat.gcd_assoc]
theorem cc2 {v:V3} {w:Int} (h:w≠0):0 < gc v w:=by
 unfold gc
 have:0 < Nat.gcd v.z.natAbs w.natAbs:=Nat.gcd_pos_of_pos_right _ (by omega)
 have:=Nat.gcd_pos_of_pos_right (Nat.gcd v.x.natAbs v.y.natAbs) this
 omega
theorem dd0 {v:V3} {w:Int} (h:w≠0):gc v w≤w.natAbs:=by
 unfold gc
 have h1:Nat.gcd v.z.natAbs w.natAbs≤w.natAbs:=Nat.gcd_le_right _ (by omega)
 have h2:0 < Nat.gcd v.z.natAbs w.natAbs:=Nat.gcd_pos_of_pos_right _ (by omega)
 have h3:=Nat.gcd_le_right (m:=Nat.gcd v.x.natAbs v.y.natAbs) (n:=Nat.gcd v.z.natAbs w.natAbs) h2
 omega
theorem yb2 {x:Int} (h:Sm 1000000000000000000 x):W x=x:=Ca9 (by have:=h.1;omega) (by have:=h.2;omega)
theorem Sm.mono {n m x:Int} (h:Sm n x) (hn:n≤m):Sm m x:=⟨by have:=h.1;omega,by have:=h.2;omega⟩
theorem Y8 {n x g:Int} (h:Sm n x) (hg:0 < g):Sm n (Int.tdiv x g):=by
 have h1:(Int.tdiv x g).natAbs≤x.natAbs:=by rw[Int.natAbs_tdiv];exact Nat.div_le_self _ _
 have:=h.1;have:=h.2
 constructor<;>omega
theorem vc1 {p q r:Pln} (hp:Bd p) (hq:Bd q) (hr:Bd r) (h:(mpt p q r).2=true):0 < (mpt p q r).1.pw∧Sm 300000000000000 (mpt p q r).1.px∧Sm 300000000000000 (mpt p q r).1.py∧Sm 300000000000000 (mpt p q r).1.pz∧(mpt p q r).1.pw≤600000000000:=by
 have hw:=cd8 hp hq hr
 obtain⟨v1,v2,v3⟩:=cd9 hp hq hr
 have neg:∀ {n x:Int},Sm n x→Sm n (-x):=fun h=>⟨by have:=h.2;omega,by have:=h.1;omega⟩
 have pos:∀ {x:Int},0 < x→x.natAbs=(mw p q r).natAbs→0 < Int.tdiv x (gc (mv p q r) (mw p q r)):=fun {x} hx he=>by
  have h0:mw p q r≠0:=by omega
  have h1:=cc2 (v:=mv p q r) h0
  have h2:=dd0 (v:=mv p q r) h0
  rw[Int.tdiv_eq_ediv_of_nonneg (by omega)]
  exact Int.ediv_pos_of_pos_of_dvd hx (by omega) (by
   rw[← Int.dvd_natAbs,he]
   exact Int.natCast_dvd_natCast.2 (Nat.dvd_trans (Nat.gcd_dvd_right _ _) (Nat.gcd_dvd_right _ _)))
 unfold mpt at h ⊢
 by_cases h0:mw p q r=0
 ·rw[if_pos h0] at h;cases h
 ·rw[if_neg h0]
  have hg:=cc2 (v:=mv p q r) h0
  by_cases h1:mw p q r < 0
  ·rw[if_pos h1]
   exact⟨pos (by omega) (by omega),Y8 (neg v1) hg,Y8 (neg v2) hg,Y8 (neg v3) hg,(Y8 (neg hw) hg).2⟩
  ·rw[if_neg h1]
   exact⟨pos (by omega) rfl,Y8 v1 hg,Y8 v2 hg,Y8 v3 hg,(Y8 hw hg).2⟩
theorem zc3 {p q r:Pln} (hp:Bd p) (hq:Bd q) (hr:Bd r):wa8 ⟨p,q,r⟩=some (.tup [.agg (tX.row (mpt p q r).1),b (mpt p q r).2],[]):=by
 have hw:=cd8 hp hq hr
 obtain⟨v1,v2,v3⟩:=cd9 hp hq hr
 have e1:pa1 r.n (K3 p.n q.n)=mw p q r:=by
  rw[Fb3]
  unfold pa1
  simp only[Jb9,tc7,gd4]
  show W (dot r.n (o5 p.n q.n))=_
  rw[id6,yb2 (hw.mono (by omega))]
 have e2:G7 (G7 (G7 ⟨0,0,0⟩ (K5 (K3 q.n r.n) p.b)) (K5 (K3 r.n p.n) q.b)) (K5 (K3 p.n q.n) r.b)=mv p q r:=by
  rw[Fb3,Fb3,Fb3]
  unfold G7 K5
  simp only[Jb9,tc7,Lc1,Int.zero_add]
  show (⟨W (mv p q r).x,W (mv p q r).y,W (mv p q r).z⟩:V3)=_
  rw[yb2 (v1.mono (by omega)),yb2 (v2.mono (by omega)),yb2 (v3.mono (by omega))]
 unfold wa8
 simp only[e1,e2]
 have hb:∀ x∈[(mv p q r).x,(mv p q r).y,(mv p q r).z,mw p q r],x.natAbs≤9223372036854775807:=by
  intro x hx
  simp only[List.mem_cons,List.not_mem_nil,or_false] at hx
  unfold Sm at *
  rcases hx with rfl | rfl | rfl | rfl<;>omega
 have hf:([(mv p q r).x,(mv p q r).y,(mv p q r).z,mw p q r].foldl eu 0).natAbs=Nat.gcd (Nat.gcd (mv p q r).x.natAbs (mv p q r).y.natAbs) (Nat.gcd (mv p q r).z.natAbs (mw p q r).natAbs):=by
  rw[sb6,← vd0];rfl
 unfold mpt
 by_cases h0:mw p q r=0
 ·rw[bt (by rw[h0];rfl),if_pos h0]
  rfl
 ·have hz:(mw p q r==0)=false:=by simpa using h0
  rw[bf hz,if_neg h0]
  have hgp:=cc2 (v:=mv p q r) h0
  have hgl:=dd0 (v:=mv p q r) h0
  have hge:=id5 _ (by simp) hb (by rw[hf];unfold gc at hgl;unfold Sm at hw;omega)
  have hgv:Ta7 [(mv p q r).x,(mv p q r).y,(mv p q r).z,mw p q r]=gc (mv p q r) (mw p q r):=by
   unfold Ta7;rw[hge,hf];rfl
  have hgg:Ta8 [(mv p q r).x,(mv p q r).y,(mv p q r).z,mw p q r]=true:=by
   unfold Ta8;rw[hge];rfl
  rw[hgv,bt hgg]
  generalize hG:gc (mv p q r) (mw p q r)=G at *
  have hGW:W (0 - G)=-G:=by unfold Sm at hw;rw[Ca9 (by omega) (by omega)];omega
  have hGn:(-G==0)=false:=by simp;omega
  have hGp:(G==0)=false:=by simp;omega
  by_cases h1:mw p q r < 0
  ·rw[bt (decide_eq_true h1),if_pos h1]
   simp only[hGW]
   rw[bf hGn,bf hGn,bf hGn,bf hGn]
   simp only[Int.tdiv_neg,← Int.neg_tdiv]
   have neg:∀ {n x:Int},Sm n x→Sm n (-x):=fun h=>⟨by have:=h.2;omega,by have:=h.1;omega⟩
   rw[yb2 ((Y8 (neg v1) hgp).mono (by omega)),yb2 ((Y8 (neg v2) hgp).mono (by omega)),yb2 ((Y8 (neg v3) hgp).mono (by omega)),yb2 ((Y8 (neg hw) hgp).mono (by omega))]
   rfl
  ·rw[bf (decide_eq_false h1),if_neg h1,bf hGp,bf hGp,bf hGp,bf hGp]
   rw[yb2 ((Y8 v1 hgp).mono (by omega)),yb2 ((Y8 v2 hgp).mono (by omega)),yb2 ((Y8 v3 hgp).mono (by omega)),yb2 ((Y8 hw hgp).mono (by omega))]
   rfl
theorem id7 {p q r:Pln} (hp:Bd p) (hq:Bd q) (hr:Bd r):wa9 ⟨p,q,r⟩=mpt p q r:=by unfold wa9;rw[zc3 hp hq hr];rfl
theorem id8 {p q r:Pln} (hp:Bd p) (hq:Bd q) (hr:Bd r):xa0 ⟨p,q,r⟩=true:=by unfold xa0;rw[zc3 hp hq hr];rfl
end Go.Ev.Ce
namespace Go.Ev.Ce
open Go Go.Ev Go.Ev.L Go.Proofs
noncomputable def inn (l:List Pln) (x:Pt):Bool:=l.all fun p=>!decide (rm p x < 0)
theorem Yc2 (l:List Pln) (x:Pt):inn l x=!l.any fun p=>decide (rm p x < 0):=by unfold inn;rw[List.not_any_eq_all_not]
theorem od8 (p:Pln) (x:Pt):za4 ⟨p.n.x,p.n.y,p.n.z,p.b,x.px,x.py,x.pz,x.pw⟩=⟨decide (rm p x < 0)⟩:=by
 show ea3.mk (decide (da5 p x < 0))=_
 rw[bc9]
theorem Yc3 (l:List Pln) (x:Pt) (hl:l.length≤1000000000):L2 ⟨l,x.px,x.py,x.pz,x.pw⟩=⟨1,if l.any (fun p=>decide (rm p x < 0)) then ((l.findIdx (fun p=>decide (rm p x < 0)):Nat):Int) else -1⟩:=by
 have h:=Sa8 (step:=C9 ⟨l,(l.length:Int),x.px,x.py,x.pz,x.pw⟩) (mk:=fun j=>(⟨(j:Int)⟩:l0)) (c:=fun p=>decide (rm p x < 0)) (u:=1) (fin:=2) tP l hl
  (fun j hj=>by
   simp only[C9,A5,Int.toNat_natCast,od8,N2 hj (by omega)]
   rw[bt (Kb0 hj),bt (q9 hj)])
  (by simp only[C9,A5];rw[bf (Eb8 (Nat.lt_irrefl _))]) 0 (Nat.zero_le _)
 rw[List.drop_zero] at h
 unfold L2 B4
 simp only[G6,K4]
 rw[show (⟨0⟩:l0)=⟨((0:Nat):Int)⟩ from rfl,h]
 split
 ·simp only[Nat.zero_add];rfl
 ·rfl
theorem Wb0 (l:List Pln) (x:Pt) (hl:l.length≤1000000000):ma5 l x=some (b (inn l x),[]):=by
 unfold ma5 Q6 v7
 simp only[G6,K4,Yc3 l x hl,Yc2]
 split
 ·rename_i h
  rw[h,show decide (((l.findIdx (fun p=>decide (rm p x < 0)):Nat):Int)≥0)=true from decide_eq_true (by omega)];rfl
 ·rename_i h
  rw[Bool.not_eq_true] at h
  rw[h];rfl
theorem Mb3 (l:List Pln) (x:Pt) (hl:l.length≤1000000000):N9 l x=inn l x:=by unfold N9;rw[Wb0 l x hl];rfl
theorem Mb4 (l:List Pln) (x:Pt) (hl:l.length≤1000000000):O0 l x=true:=by unfold O0;rw[Wb0 l x hl];rfl
def eqX (x q:Pt):Bool:=q.px==x.px&&(q.py==x.py&&(q.pz==x.pz&&(q.pw==x.pw&&true)))
theorem cc3 (x q:Pt):eqX x q=true↔q=x:=by
 unfold eqX
 simp only[Bool.and_true,Bool.and_eq_true,beq_iff_eq]
 exact⟨fun⟨h1,h2,h3,h4⟩=>by cases q;cases x;simp_all,fun h=>by subst h;exact⟨rfl,rfl,rfl,rfl⟩⟩
def Db1 (l:List Pt) (x:Pt):Bool:=l.any (eqX x)
theorem Oc3 (l:List Pt) (x:Pt):Db1 l x=true↔x∈l:=by
 unfold Db1
 rw[List.any_eq_true]
 exact⟨fun⟨q,h,e⟩=>(cc3 x q).1 e ▸ h,fun h=>⟨x,h,(cc3 x x).2 rfl⟩⟩
def smb (n x:Int):Bool:=!decide (x < -n)&&!decide (x > n)
theorem gb1 (n x:Int):smb n x=true↔Sm n x:=by unfold smb Sm;simp only[Bool.and_eq_true,Bool.not_eq_true',decide_eq_false_iff_not];omega
theorem Mb5 (n:Int) (l:List Int) (hn:0≤n∧n≤1000000000) (hl:l.length≤1000000000):ia3 n l=some (b (l.all (smb n)),[]):=by
 have hW:W (0 - n)=-n:=by rw[Ca9 (by omega) (by omega)];omega
 have h:=tc8 (step:=Y4 ⟨n,l,(l.length:Int)⟩) (mk:=fun j=>(⟨(j:Int)⟩:G0)) (c:=fun x=>!smb n x) (u:=1) (fin:=2) tI l hl
  (fun j hj=>by
   simp only[Y4,U9,Int.toNat_natCast,N2 hj (by omega),hW]
   rw[bt (Kb0 hj),bt (q9 hj)]
   unfold smb
   cases decide (gL tI l j < -n)<;>cases decide (gL tI l j > n)<;>rfl)
  (by simp only[Y4,U9];rw[bf (Eb8 (Nat.lt_irrefl _))]) 0 (Nat.zero_le _)
 rw[List.drop_zero] at h
 unfold ia3
 simp only[G6,K4]
 rw[show (⟨0⟩:G0)=⟨((0:Nat):Int)⟩ from rfl,h]
 have e:(l.any fun x=>!smb n x)=!l.all (smb n):=by rw[List.not_all_eq_any_not]
 rw[e]
 cases l.all (smb n)<;>rfl
theorem yb3 (n:Int) (l:List Int) (hn:0≤n∧n≤1000000000) (hl:l.length≤1000000000):ca0 n l=l.all (smb n):=by unfold ca0;rw[Mb5 n l hn hl];rfl
theorem yb4 (n:Int) (l:List Int) (hn:0≤n∧n≤1000000000) (hl:l.length≤1000000000):ca1 n l=true:=by unfold ca1;rw[Mb5 n l hn hl];rfl
theorem mc2 {n:Int} (h:Sm 1000000000000000000 n):ka3 n=(n.natAbs:Int):=by
 unfold ka3
 obtain⟨h1,h2⟩:=h
 rw[Ca9 (by omega) (by omega)]
 split<;>omega
def g3 (v:V3):Int:=(Nat.gcd (Nat.gcd v.x.natAbs v.y.natAbs) v.z.natAbs:Nat)
theorem id9 (g n:Nat):eu (g:Int) (n:Int)=(Nat.gcd g n:Nat):=by rw[gd6 (by omega) (by omega)];rfl
theorem Rb3 (P:Q3) (g n:Nat) (hn:n≤1000000000000000000):lp (N4 P) ⟨(g:Int),(n:Int)⟩=(1,⟨(Nat.gcd g n:Nat),0⟩):=by
 have:=jc8 (step:=N4 P) (mk:=fun g n=>(⟨g,n⟩:G8)) (fun g n h=>by
  have h0:n≠0:=by omega
  simp[N4,R6,lb9,h,h0]) (fun g=>by simp[N4,R6,lb9]) (g:Int) (n:Int) (by omega) (by omega) (by omega)
 rw[this,id9]
theorem vc2 (l:List Int) (hl:l.length≤1000000000) (hb:∀ x∈l,Sm 1000000000000000000 x):ea6 l=some (i (l.foldl (fun g x=>Nat.gcd g x.natAbs) 0:Nat),[]):=by
 have h := Fb0 (step := V0 ⟨(l.length : Int)⟩) (mk := fun j (a : Nat) => (⟨(a : Int), l, (j : Int)⟩ : E0)) (f := fun g x => Nat.gcd g x.natAbs) (fin := 2) tI l (fun _ _ => True) hl (fun j a hj _ => ⟨by
   have hm:=hb _ (ac4 tI hj)
   have hne:(gL tI l j==(-9223372036854775808:Int))=false:=by
    have:=hm.1
    rw[beq_eq_false_iff_ne];omega
   have hs:(gL tI l j).natAbs≤1000000000000000000:=by obtain⟨h1,h2⟩:=hm;omega
   simp only[V0,R7,Int.toNat_natCast,G6,K4,mc2 hm,Rb3 _ _ _ hs,N2 hj (by omega)]
   rw[bt (Kb0 hj),bt (q9 hj),bf hne]
   rfl,trivial⟩) (fun a _=>by simp only[V0,R7];rw[bf (Eb8 (Nat.lt_irrefl _))]) 0 (Nat.zero_le _) 0 trivial
 have h:=h.1
 rw[List.drop_zero] at h
 unfold ea6
 simp only[G6,K4]
 rw[show (⟨0,l,0⟩:E0)=⟨((0:Nat):Int),l,((0:Nat):Int)⟩ from rfl,h]
 rfl
def okp (p:Pln):Bool:=[p.n.x,p.n.y,p.n.z].all (smb 4608)&&(g3 p.n==1&&[p.b].all (smb 2097152))
theorem jd0 (p:Pln):Bd p↔[p.n.x,p.n.y,p.n.z].all (smb 4608)=true∧[p.b].all (smb 2097152)=true:=by
 simp only[List.all_cons,List.all_nil,Bool.and_true,Bool.and_eq_true,gb1,Sm]
 exact⟨fun h=>⟨⟨⟨h.x1,h.x2⟩,⟨h.y1,h.y2⟩,h.z1,h.z2⟩,h.b1,h.b2⟩,fun⟨⟨⟨a,b⟩,⟨c,d⟩,e,f⟩,g,h⟩=>⟨a,b,c,d,e,f,g,h⟩⟩
theorem Mb6 {p:Pln} (h:okp p=true):Bd p:=by
 unfold okp at h
 rw[Bool.and_eq_true,Bool.and_eq_true] at h
 exact (jd0 p).2 ⟨h.1,h.2.2⟩
theorem sm3 {v:V3} (h:[v.x,v.y,v.z].all (smb 4608)=true):Sm 4608 v.x∧Sm 4608 v.y∧Sm 4608 v.z:=by
 simpa only[List.all_cons,List.all_nil,Bool.and_true,Bool.and_eq_true,gb1] using h
theorem mc3 (p:Pln):ma7 p=some (b (okp p),[]):=by
 unfold ma7 okp
 have l3:[p.n.x,p.n.y,p.n.z].length≤1000000000:=by simp
 have l1:[p.b].length≤1000000000:=by simp
 simp only[yb3 4608 _ (by omega) l3,yb4 4608 _ (by omega) l3,yb3 2097152 _ (by omega) l1,yb4 2097152 _ (by omega) l1]
 cases hw:[p.n.x,p.n.y,p.n.z].all (smb 4608) with
 | false=>rfl
 | true =>
  obtain⟨h1,h2,h3⟩:=sm3 hw
  have hd:=vc2 [p.n.x,p.n.y,p.n.z] l3 (by
   intro x hx
   simp only[List.mem_cons,List.not_mem_nil,or_false] at hx
   rcases hx with rfl | rfl | rfl
   ·exact h1.mono (by omega)
   ·exact h2.mono (by omega)
   ·exact h3.mono (by omega))
  have hg:([p.n.x,p.n.y,p.n.z].foldl (fun g x=>Nat.gcd g x.natAbs) 0:Nat)=Nat.gcd (Nat.gcd p.n.x.natAbs p.n.y.natAbs) p.n.z.natAbs:=by
   simp only[List.foldl_cons,List.foldl_nil,Nat.gcd_zero_left]
  have hp:na7 [p.n.x,p.n.y,p.n.z]=g3 p.n:=by unfold na7;rw[hd,hg];rfl
  have hgd:na8 [p.n.x,p.n.y,p.n.z]=true:=by unfold na8;rw[hd];rfl
  rw[hp,hgd]
  cases g3 p.n==1<;>rfl
theorem Yc4 (p:Pln):va8 p=okp p:=by unfold va8;rw[mc3 p];rfl
theorem Yc5 (p:Pln):va9 p=true:=by unfold va9;rw[mc3 p];rfl
def chk (l:List Pln):Int:=if (l.length:Int) > 48 then 2 else if l.all okp then 0 else 12
theorem mc4 (l:List Pln) (hl:l.length≤1000000000):ra2 l=some (i (chk l),[]):=by
 have hk1:∀ p,ia4 p=some (b (!okp p),[]):=fun p=>by unfold ia4;rw[Yc5,Yc4];rfl
 have hp1:∀ p,ra0 p=!okp p:=fun p=>by unfold ra0;rw[hk1];rfl
 have hg1:∀ p,ra1 p=true:=fun p=>by unfold ra1;rw[hk1];rfl
 have h:=Sa8 (step:=D0 ⟨l,(l.length:Int)⟩) (mk:=fun j=>(⟨(j:Int)⟩:l4)) (c:=fun p=>!okp p) (u:=1) (fin:=2) tP l hl
  (fun j hj=>by
   simp only[D0,A6,Int.toNat_natCast,hp1,hg1,N2 hj (by omega)]
   rw[bt (Kb0 hj),bt (q9 hj),na5])
  (by simp only[D0,A6];rw[bf (Eb8 (Nat.lt_irrefl _))]) 0 (Nat.zero_le _)
 rw[List.drop_zero] at h
 have e:(l.any fun x=>!okp x)=!l.all okp:=by rw[List.not_all_eq_any_not]
 unfold ra2 Q7 v8 X2 B5 chk
 simp only[G6,K4]
 rw[show (⟨0⟩:l4)=⟨((0:Nat):Int)⟩ from rfl,h,e]
 by_cases hn:(l.length:Int) > 48
 ·rw[bt (decide_eq_true hn),if_pos hn]
 ·rw[bf (decide_eq_false hn),if_neg hn]
  cases l.all okp with
  | true=>rfl
  | false =>
   simp only[Bool.not_false,if_true,Nat.zero_add]
   show sl true (sl (Nat.beq 1 1) (sl (decide (((l.findIdx fun p=>!okp p:Nat):Int)≥0)) _ _) _) _=_
   rw[show decide (((l.findIdx fun p=>!okp p:Nat):Int)≥0)=true from decide_eq_true (by omega)]
   rfl
theorem zc4 (l:List Pln) (hl:l.length≤1000000000):ra3 l=chk l:=by unfold ra3;rw[mc4 l hl];rfl
theorem zc5 (l:List Pln) (hl:l.length≤1000000000):ra4 l=true:=by unfold ra4;rw[mc4 l hl];rfl
theorem sb8 {l:List Pln}:chk l=0↔l.length≤48∧∀ p∈l,okp p=true:=by
 unfold chk
 by_cases hn:(l.length:Int) > 48
 ·rw[if_pos hn]
  exact⟨fun h=>absurd h (by decide),fun h=>by omega⟩
 ·rw[if_neg hn]
  cases h:l.all okp with
  | true=>exact⟨fun _=>⟨by omega,List.all_eq_true.1 h⟩,fun _=>rfl⟩
  | false=>exact⟨fun h=>absurd h (by decide),fun h'=>by rw[List.all_eq_true.2 h'.2] at h;cases h⟩
end Go.Ev.Ce
namespace Go.Ev.Ce
open Go Go.Ev Go.Ev.L Go.Proofs
theorem btD {p:Prop} {inst:Decidable p} (h:p) {α:Type} (t e:α):sl (@decide p inst) t e=t:=bt (decide_eq_true h) t e
theorem bfD {p:Prop} {inst:Decidable p} (h:¬ p) {α:Type} (t e:α):sl (@decide p inst) t e=e:=bf (decide_eq_false h) t e
theorem O5 {j n:Nat} (h:j < n):(j:Int) < (n:Int):=Int.ofNat_lt.2 h
theorem sa3 {j n:Nat} (h:¬ j < n):¬ (j:Int) < (n:Int):=fun h'=>h (Int.ofNat_lt.1 h')
theorem Qa4 {σ τ α : Type} {step : σ → Stp σ} {mk : Nat → τ → σ} {f : α → List α → τ → τ} {g : List α → τ → τ} {fin : τ → Nat} (l : List α) (I : Nat → τ → Prop) (hl : l.length ≤ 1000000000)
  (g0:∀ a,g [] a=a) (g1:∀ x r a,g (x::r) a=g r (f x r a))
  (h:∀ j a (hj:j < l.length),I j a→step (mk j a)=.next (mk (j+1) (f l[j] (l.drop (j+1)) a))∧I (j+1) (f l[j] (l.drop (j+1)) a))
  (hf:∀ j a,l.length≤j→I j a→step (mk j a)=.exit (fin a)) (j0:Nat) (a:τ) (hi:I j0 a) :
  lp step (mk j0 a)=(fin (g (l.drop j0) a),mk (max j0 l.length) (g (l.drop j0) a))∧I (max j0 l.length) (g (l.drop j0) a):=by
 have key:=mb0 (step:=step) (I:=fun m s=>∃ j b,m=l.length - j∧max j l.length=max j0 l.length∧s=mk j b∧I j b∧g (l.drop j) b=g (l.drop j0) a)
  (Q:=fun u s=>u=fin (g (l.drop j0) a)∧s=mk (max j0 l.length) (g (l.drop j0) a)∧I (max j0 l.length) (g (l.drop j0) a)) (fun m s ⟨j,b,hm,hj,hs,hb,he⟩=>by
   subst hs
   by_cases hlt:j < l.length
   ·obtain⟨h1,h2⟩:=h j b hlt hb
    refine .inr ⟨_,l.length - (j+1),by omega,h1,j+1,_,rfl,by omega,rfl,h2,?_⟩
    rw[← he,List.drop_eq_getElem_cons hlt,g1]
   ·have hd:l.drop j=[]:=List.drop_eq_nil_of_le (by omega)
    rw[hd,g0] at he
    have hj':j=max j0 l.length:=by omega
    subst he
    rw[← hj']
    exact .inl ⟨_,hf j _ (by omega) hb,rfl,rfl,hb⟩) (l.length - j0) (mk j0 a) (by omega) ⟨j0,a,rfl,rfl,rfl,hi,rfl⟩
 exact⟨Prod.ext key.1 key.2.1,key.2.2⟩
noncomputable def pa3 (r:List Pln) (p q:Pln) (out:List Pt) (s:Pln):List Pt :=
 if (mpt p q s).2&&(!Db1 out (mpt p q s).1&&inn r (mpt p q s).1) then out++[(mpt p q s).1] else out
noncomputable def Ua5 (r:List Pln) (p q:Pln) (l:List Pln) (out:List Pt):List Pt:=l.foldl (pa3 r p q) out
noncomputable def Ja8 (r:List Pln) (p:Pln):List Pln→List Pt→List Pt
 | [],out=>out
 | q::l,out=>Ja8 r p l (Ua5 r p q l out)
noncomputable def yb5 (r:List Pln):List Pln→List Pt→List Pt
 | [],out=>out
 | p::l,out=>yb5 r l (Ja8 r p l out)
noncomputable def cor (r:List Pln):List Pt:=yb5 r r []
def Bds (r:List Pln):Prop:=∀ p∈r,Bd p
theorem Wb1 (r:List Pln) (p q:Pln) (out:List Pt) (s:Pln):(pa3 r p q out s).length≤out.length+1:=by
 unfold pa3
 split
 ·simp
 ·omega
theorem Mb7 (r:List Pln) (p q:Pln):∀ (l:List Pln) (out:List Pt),(Ua5 r p q l out).length≤out.length+l.length
 | [],out=>Nat.le_refl _
 | s::l,out=>by
  have h1:=Wb1 r p q out s
  have h2:=Mb7 r p q l (pa3 r p q out s)
  show (Ua5 r p q l (pa3 r p q out s)).length≤_
  simp only[List.length_cons]
  omega
theorem Mb8 (r:List Pln) (p:Pln):∀ (l:List Pln) (out:List Pt),l.length≤200→(Ja8 r p l out).length≤out.length+200*l.length
 | [],out,_=>by simp[Ja8]
 | q::l,out,h=>by
  simp only[List.length_cons] at h ⊢
  have h1:=Mb7 r p q l out
  have h2:=Mb8 r p l (Ua5 r p q l out) (by omega)
  show (Ja8 r p l (Ua5 r p q l out)).length≤_
  omega
theorem mc5 (r:List Pln):∀ (l:List Pln) (out:List Pt),l.length≤200→(yb5 r l out).length≤out.length+40000*l.length
 | [],out,_=>by simp[yb5]
 | p::l,out,h=>by
  simp only[List.length_cons] at h ⊢
  have h1:=Mb8 r p l out (by omega)
  have h2:=mc5 r l (Ja8 r p l out) (by omega)
  show (yb5 r l (Ja8 r p l out)).length≤_
  omega
theorem zc6 (r:List Pln) (_:Bds r) (hr:r.length≤200):(cor r).length≤8000000:=by
 have:=mc5 r r [] hr
 rw[List.length_nil] at this
 show (yb5 r r []).length≤_
 omega
noncomputable def ph (out:List Pt):Nat:=match out with
 | []=>0
 | _::_=>1
theorem Oc4 (x:Pt):Db1 [] x=false:=rfl
theorem Fb4 {α:Type} (t:Ty α) (l:List α) (n k:Nat):gL t (l.drop n) k=gL t l (n+k):=by simp[gL,List.getD_eq_getElem?_getD,List.getElem?_drop]
theorem Oc5 {n:Nat} {l:List Pt} (hn:n=l.length) (h:l.length≤1000000000):(Nat.beq n (len (bL tX l))&&Nat.ble ((n+1)*32) room)=true:=by
 subst hn
 rw[ua0,Nat.beq_refl,Bool.true_and]
 exact Eb9 (by omega)
theorem Yc6 (l:List Pt) (x:Pt):app (bL tX l) [[i x.px,i x.py,i x.pz,i x.pw]]=bL tX (l++[x]):=bb0 tX l [x]
noncomputable def slX (l:List Pt):a7×List a8:=match l with
 | []=>(.v (.slice none 0 0),[])
 | _::_=>(.sl 0 0 l.length 0,[⟨53,4,bL tX l,true,false,0⟩])
theorem Oc6 (l:List Pt):(one (r1L tX)).rd (slX l)=some l:=by
 cases l with
 | nil=>rfl
 | cons x l =>
  show Bool.rec (motive:=fun _=>Option (List Pt)) none (some (slR tX (bL tX (x::l)) 0 (x::l).length)) (Bool.and true (okS tX (bL tX (x::l)) 0 (x::l).length))=_
  rw[Kc1,Kc2]
  rfl
theorem Qa5 {ρ:Type} (R:RR ρ) {x:a7×List a8} {r:ρ} (h:R.rd x=some r):la8 R (some x)=r:=by
 show Option.rec (motive:=fun _=>ρ) R.d (fun x=>x) (R.rd x)=r
 rw[h]
theorem db0 {ρ:Type} (R:RR ρ) {x:a7×List a8} {r:ρ} (h:R.rd x=some r):okO R (some x)=true:=by
 show Option.rec (motive:=fun _=>Bool) false (fun _=>true) (R.rd x)=true
 rw[h]
noncomputable def Rb4 (x:Pt):List a7:=[i x.px,i x.py,i x.pz,i x.pw,b true]
noncomputable def Wa6 (l:List Pt):List (List a7):=l.map Rb4
@[reducible] noncomputable def flK:List (Nat×CK):=[(0,(.int .i64)),(1,(.int .i64)),(2,(.int .i64)),(3,(.int .i64))]
theorem mc6 (x q:Pt):gb8 flK [i x.px,i x.py,i x.pz,i x.pw] (Rb4 q)=eqX x q:=by
 show Bool.and (decide (x.px=q.px)) (Bool.and (decide (x.py=q.py)) (Bool.and (decide (x.pz=q.pz)) (Bool.and (decide (x.pw=q.pw)) true)))=_
 unfold eqX
 have h:∀ a c:Int,decide (a=c)=(c==a):=fun a c=>by rw[Bool.eq_iff_iff,decide_eq_true_eq,beq_iff_eq];exact eq_comm
 rw[h,h,h,h]
theorem Mb9 (x:Pt):∀ l,ob4 4 flK [i x.px,i x.py,i x.pz,i x.pw] (Wa6 l)=Db1 l x
 | []=>rfl
 | q::l=>by
  have ih:=Mb9 x l
  unfold ob4 at ih ⊢
  show Option.rec (motive:=fun _=>Bool) false (fun r=>toB (hdA (j9 r 4))) (Bool.rec (motive:=fun _=>Option (List a7)) (Ab0 flK [i x.px,i x.py,i x.pz,i x.pw] (Wa6 l)) (some (Rb4 q)) (gb8 flK [i x.px,i x.py,i x.pz,i x.pw] (Rb4 q)))=Db1 (q::l) x
  rw[mc6]
  unfold Db1 at ih ⊢
  rw[List.any_cons]
  cases eqX x q with
  | true=>rfl
  | false=>exact ih
theorem Wb2 (x:Pt):∀ l,Db1 l x=false→Ma1 flK [i x.px,i x.py,i x.pz,i x.pw] (Rb4 x) (Wa6 l)=Wa6 (l++[x])
 | [],_=>rfl
 | q::l,h=>by
  unfold Db1 at h
  rw[List.any_cons,Bool.or_eq_false_iff] at h
  show Bool.rec (motive:=fun _=>List (List a7)) (Rb4 q::Ma1 flK [i x.px,i x.py,i x.pz,i x.pw] (Rb4 x) (Wa6 l)) (Rb4 x::Wa6 l) (gb8 flK [i x.px,i x.py,i x.pz,i x.pw] (Rb4 q))=_
  rw[mc6,h.1,Wb2 x l h.2]
  rfl
@[reducible] noncomputable def ib0 (k:Nat) (out:List Pt):g9:=⟨ph out,(k:Int),out.length,bL tX out,Wa6 out⟩
structure C2 (P:g8) (r:List Pln) (p q:Pln) (lo:Nat):Prop where
 ns:P.wc5=(r.drop lo).length
 gs:P.Ba8=fun k=>tP.row (gL tP r (lo+k))
 is:P.ec7=((r.drop lo).length:Int)
 p1:(⟨⟨P.O6,P.O7,P.O8⟩,P.O9⟩:Pln)=p
 q1:(⟨⟨P.aa7,P.aa8,P.aa9⟩,P.Ea3⟩:Pln)=q
 r1:P.da3=r
theorem cc4 (s:Pln):(⟨⟨toI (hdA (tP.row s)),toI (hdA (tlA (tP.row s))),toI (hdA (tlA (tlA (tP.row s))))⟩,toI (hdA (tlA (tlA (tlA (tP.row s)))))⟩:Pln)=s:=rfl
theorem cc5 (s:Pln):((Nat.ble 4 (len (tP.row s)))&&(Ka9 [(CK.int .i64),(CK.int .i64),(CK.int .i64),(CK.int .i64)] (tP.row s)))=true:=rfl
theorem Yc7 {P : g8} {r : List Pln} {p q : Pln} {lo : Nat} (h : C2 P r p q lo) (hb : Bds r) (hr : r.length ≤ 200) (hp : Bd p) (hq : Bd q) (k : Nat) (out : List Pt) (ho : out.length ≤ 1000000000) (hk : k < (r.drop lo).length) :
  p6 P (ib0 k out)=.next (ib0 (k+1) (pa3 r p q out (r.drop lo)[k])):=by
 have hwi:∀ x,N9 r x=inn r x:=fun x=>Mb3 r x (by omega)
 have hwg:∀ x,O0 r x=true:=fun x=>Mb4 r x (by omega)
 have hs:gL tP r (lo+k)=(r.drop lo)[k]:=by rw[← Fb4,qb8 tP hk]
 have hbs:Bd (r.drop lo)[k]:=hb _ (List.mem_of_mem_drop (List.getElem_mem hk))
 have hd:(r.drop lo).length≤200:=by rw[List.length_drop];omega
 have hme:=id7 hp hq hbs
 have hmg:=id8 hp hq hbs
 obtain⟨x1,x2,x3,x4,x5,x6,x7,x8,x9,x10,x11,x12,x13,x14,x15,x16,x17,x18,x19,x20,x21⟩:=P
 obtain⟨ns,gs,is,p1,q1,r1⟩:=h
 simp only at ns gs is p1 q1 r1
 have r1:=r1.symm
 subst ns gs is r1
 unfold p6
 cases out with
 | nil =>
  show s5 Stp.next Stp.exit Stp.fail _ (ib0 k [])=_
  simp only[s5,ib0,Int.toNat_natCast,G6,la7,p1,q1,hs,cc4,cc5,hme,hmg,hwi,hwg,N2 hk (by omega)]
  rw[btD (O5 hk),bt (q9 hk),na5,na5]
  unfold pa3
  rw[Oc4]
  cases (mpt p q (r.drop lo)[k]).2 with
  | false=>rfl
  | true =>
   cases inn r (mpt p q (r.drop lo)[k]).1 with
   | false=>rfl
   | true=>rfl
 | cons o os =>
  show s6 Stp.next Stp.exit Stp.fail _ (ib0 k (o::os))=_
  simp only[s6,ib0,Int.toNat_natCast,G6,la7,p1,q1,hs,cc4,cc5,hme,hmg,hwi,hwg,N2 hk (by omega),Mb9]
  rw[btD (O5 hk),bt (q9 hk),na5,na5,Oc5 rfl ho,Yc6]
  unfold pa3
  cases (mpt p q (r.drop lo)[k]).2 with
  | false=>rfl
  | true =>
   cases hx:Db1 (o::os) (mpt p q (r.drop lo)[k]).1 with
   | true=>rfl
   | false =>
    cases inn r (mpt p q (r.drop lo)[k]).1 with
    | false=>rfl
    | true =>
     show Stp.next (⟨1,((k+1:Nat):Int),(o::os).length+1,bL tX (o::os++[(mpt p q (r.drop lo)[k]).1]),Ma1 flK [i (mpt p q (r.drop lo)[k]).1.px,i (mpt p q (r.drop lo)[k]).1.py,i (mpt p q (r.drop lo)[k]).1.pz,i (mpt p q (r.drop lo)[k]).1.pw] (Rb4 (mpt p q (r.drop lo)[k]).1) (Wa6 (o::os))⟩:g9)=_
     rw[Wb2 _ _ hx]
     simp[ph]
theorem jd1 {P:g8} {r:List Pln} {p q:Pln} {lo:Nat} (h:C2 P r p q lo) (k:Nat) (out:List Pt) (hk:(r.drop lo).length≤k):p6 P (ib0 k out)=.exit (ph out+1):=by
 obtain⟨x1,x2,x3,x4,x5,x6,x7,x8,x9,x10,x11,x12,x13,x14,x15,x16,x17,x18,x19,x20,x21⟩:=P
 obtain⟨ns,gs,is,p1,q1,r1⟩:=h
 simp only at ns gs is p1 q1 r1
 have r1:=r1.symm
 subst ns gs is r1
 unfold p6
 have this:¬ ((k:Int) < ((r.drop lo).length:Int)):=by omega
 cases out with
 | nil =>
  show s5 Stp.next Stp.exit Stp.fail _ (ib0 k [])=_
  simp only[s5,ib0]
  rw[bfD this]
  rfl
 | cons o os =>
  show s6 Stp.next Stp.exit Stp.fail _ (ib0 k (o::os))=_
  simp only[s6,ib0]
  rw[bfD this]
  rfl
theorem Yc8 {P : g8} {r : List Pln} {p q : Pln} {lo : Nat} (h : C2 P r p q lo) (hb : Bds r) (hr : r.length ≤ 200) (hp : Bd p) (hq : Bd q) (out : List Pt) (ho : out.length ≤ 100000000) :
  ∃ m,lp (p6 P) (ib0 0 out)=(ph (Ua5 r p q (r.drop lo) out)+1,ib0 m (Ua5 r p q (r.drop lo) out)):=by
 have hd:(r.drop lo).length≤200:=by rw[List.length_drop];omega
 exact⟨_,(Qa4 (mk:=ib0) (f:=fun s _ out=>pa3 r p q out s) (g:=fun l out=>Ua5 r p q l out) (fin:=fun out=>ph out+1) (r.drop lo) (fun j o=>o.length≤out.length+j) (by omega)
  (fun _=>rfl) (fun _ _ _=>rfl) (fun j o hj hi=>⟨Yc7 h hb hr hp hq j o (by omega) hj,by have:=Wb1 r p q o (r.drop lo)[j];show (pa3 r p q o (r.drop lo)[j]).length≤out.length+(j+1);omega⟩)
  (fun j o hj _=>jd1 h j o hj) 0 out (by omega)).1⟩
@[reducible] noncomputable def ib1 (r:List Pln) (j:Nat) (out:List Pt):i6:=⟨ph out,r,(j:Int),r,r,out.length,bL tX out,Wa6 out⟩
structure C1 (P:i4) (r:List Pln) (p:Pln) (a:Nat):Prop where
 i3:P.is3=(a:Int)
 ns:P.ub8=(r.drop (a+1)).length
 gs:P.Ea2=fun k=>tP.row (gL tP r (a+1+k))
 is:P.W7=((r.drop (a+1)).length:Int)
 p1:(⟨⟨P.O6,P.O7,P.O8⟩,P.O9⟩:Pln)=p
theorem Yc9 {P : i4} {r : List Pln} {p : Pln} {a : Nat} (h : C1 P r p a) (hb : Bds r) (hr : r.length ≤ 200) (hp : Bd p) (j : Nat) (out : List Pt) (ho : out.length ≤ 100000000) (hj : j < (r.drop (a + 1)).length) :
  p7 P (ib1 r j out)=.next (ib1 r (j+1) (Ua5 r p (r.drop (a+1))[j] ((r.drop (a+1)).drop (j+1)) out)):=by
 have hs:gL tP r (a+1+j)=(r.drop (a+1))[j]:=by rw[← Fb4,qb8 tP hj]
 have hbs:Bd (r.drop (a+1))[j]:=hb _ (List.mem_of_mem_drop (List.getElem_mem hj))
 have hd:=hj
 rw[List.length_drop] at hd
 have hW:W (W ((a:Int)+(j:Int))+2)=((a+1+(j+1):Nat):Int):=by rw[Jb9,Ca9 (by omega) (by omega)];omega
 have hdl:(r.drop (a+1)).length≤4611686018427387904:=by rw[List.length_drop];omega
 have hlo:inB ((a+1+(j+1):Nat):Int) (r.length+1)=true:=q9 (by omega)
 rw[List.drop_drop]
 generalize hq:(r.drop (a+1))[j]=q at *
 obtain⟨x1,x2,x3,x4,x5,x6,x7,x8,x9,x10⟩:=P
 obtain⟨i3,ns,gs,is,p1⟩:=h
 simp only at i3 ns gs is p1
 subst i3 ns gs is
 unfold p7
 have key:∀ (P2:g8),C2 P2 r p q (a+1+(j+1))→_:=fun P2 h2=>Yc8 h2 hb hr hp hbs out ho
 cases out with
 | nil =>
  show s7 Stp.next Stp.exit Stp.fail _ (ib1 r j [])=_
  simp only[s7,ib1,G6,K4,N2 hj hdl,hW,Int.toNat_natCast,hs,cc5,hlo]
  rw[show (⟨0,0,0,[],[]⟩:g9)=ib0 0 [] from rfl]
  generalize hP:g8.mk _ _ _ _ _ _ _ _ _ _ _ _ _ _ _ _ _ _ _ _ _=P2
  obtain⟨m,hm⟩:=key P2 (by
   subst hP
   exact⟨by simp,rfl,by simp,p1,cc4 q,rfl⟩)
  rw[hm,btD (O5 hj),bt (q9 hj)]
  cases Ua5 r p q (r.drop (a+1+(j+1))) []<;>rfl
 | cons o os =>
  show s8 Stp.next Stp.exit Stp.fail _ (ib1 r j (o::os))=_
  simp only[s8,ib1,G6,K4,N2 hj hdl,hW,Int.toNat_natCast,hs,cc5,hlo]
  rw[show (⟨1,0,(o::os).length,bL tX (o::os),Wa6 (o::os)⟩:g9)=ib0 0 (o::os) from rfl]
  generalize hP:g8.mk _ _ _ _ _ _ _ _ _ _ _ _ _ _ _ _ _ _ _ _ _=P2
  obtain⟨m,hm⟩:=key P2 (by
   subst hP
   exact⟨by simp,rfl,by simp,p1,cc4 q,rfl⟩)
  rw[hm,btD (O5 hj),bt (q9 hj)]
  cases Ua5 r p q (r.drop (a+1+(j+1))) (o::os)<;>rfl
theorem jd2 {P:i4} {r:List Pln} {p:Pln} {a:Nat} (h:C1 P r p a) (j:Nat) (out:List Pt) (hj:(r.drop (a+1)).length≤j):p7 P (ib1 r j out)=.exit (ph out+1):=by
 obtain⟨x1,x2,x3,x4,x5,x6,x7,x8,x9,x10⟩:=P
 obtain⟨i3,ns,gs,is,p1⟩:=h
 simp only at i3 ns gs is p1
 subst i3 ns gs is
 unfold p7
 have this:¬ ((j:Int) < ((r.drop (a+1)).length:Int)):=by omega
 cases out with
 | nil =>
  show s7 Stp.next Stp.exit Stp.fail _ (ib1 r j [])=_
  simp only[s7,ib1]
  rw[bfD this]
  rfl
 | cons o os =>
  show s8 Stp.next Stp.exit Stp.fail _ (ib1 r j (o::os))=_
  simp only[s8,ib1]
  rw[bfD this]
  rfl
theorem Zc0 {P : i4} {r : List Pln} {p : Pln} {a : Nat} (h : C1 P r p a) (hb : Bds r) (hr : r.length ≤ 200) (hp : Bd p) (out : List Pt) (ho : out.length ≤ 10000000) :
  ∃ m,lp (p7 P) (ib1 r 0 out)=(ph (Ja8 r p (r.drop (a+1)) out)+1,ib1 r m (Ja8 r p (r.drop (a+1)) out)):=by
 have hd:(r.drop (a+1)).length≤200:=by rw[List.length_drop];omega
 exact⟨_,(Qa4 (mk:=ib1 r) (f:=fun q l out=>Ua5 r p q l out) (g:=fun l out=>Ja8 r p l out) (fin:=fun out=>ph out+1) (r.drop (a+1)) (fun k o=>o.length≤out.length+200*k) (by omega)
  (fun _=>rfl) (fun _ _ _=>rfl) (fun k o hj hi=>⟨Yc9 h hb hr hp k o (by omega) hj,by
   have:=Mb7 r p (r.drop (a+1))[k] ((r.drop (a+1)).drop (k+1)) o
   rw[List.length_drop] at this
   show (Ua5 r p (r.drop (a+1))[k] ((r.drop (a+1)).drop (k+1)) o).length≤out.length+200*(k+1)
   omega⟩)
  (fun k o hj _=>jd2 h k o hj) 0 out (by omega)).1⟩
@[reducible] noncomputable def nb0 (r:List Pln) (j:Nat) (out:List Pt):j5:=⟨ph out,r,(j:Int),r,r,out.length,bL tX out,Wa6 out⟩
theorem Zc1 {P : n5} (r : List Pln) (h : P.ta0 = (r.length : Int)) (hb : Bds r) (hr : r.length ≤ 200) (a : Nat) (ha : a < r.length) (out : List Pt) (ho : out.length ≤ 40000 * a) :
  p8 P (nb0 r a out)=.next (nb0 r (a+1) (Ja8 r r[a] (r.drop (a+1)) out)):=by
 have hbs:Bd r[a]:=hb _ (List.getElem_mem ha)
 have hlo:inB ((a+1:Nat):Int) (r.length+1)=true:=q9 (by omega)
 have key:∀ (P2:i4),C1 P2 r r[a] a→_:=fun P2 h2=>Zc0 h2 hb hr hbs out (by omega)
 obtain⟨x1⟩:=P
 simp only at h
 subst h
 unfold p8
 cases out with
 | nil =>
  show s9 Stp.next Stp.exit Stp.fail _ (nb0 r a [])=_
  simp only[s9,nb0,G6,K4,N2 ha (by omega),Int.toNat_natCast,hlo,qb8 tP ha]
  rw[show (⟨0,r,0,r,r,0,[],[]⟩:i6)=ib1 r 0 [] from rfl]
  generalize hP:i4.mk _ _ _ _ _ _ _ _ _ _=P2
  obtain⟨m,hm⟩:=key P2 (by
   subst hP
   exact⟨rfl,by simp,rfl,by simp,rfl⟩)
  rw[hm,btD (O5 ha),bt (q9 ha)]
  cases Ja8 r r[a] (r.drop (a+1)) []<;>rfl
 | cons o os =>
  show u4 Stp.next Stp.exit Stp.fail _ (nb0 r a (o::os))=_
  simp only[u4,nb0,G6,K4,N2 ha (by omega),Int.toNat_natCast,hlo,qb8 tP ha]
  rw[show (⟨1,r,0,r,r,(o::os).length,bL tX (o::os),Wa6 (o::os)⟩:i6)=ib1 r 0 (o::os) from rfl]
  generalize hP:i4.mk _ _ _ _ _ _ _ _ _ _=P2
  obtain⟨m,hm⟩:=key P2 (by
   subst hP
   exact⟨rfl,by simp,rfl,by simp,rfl⟩)
  rw[hm,btD (O5 ha),bt (q9 ha)]
  cases Ja8 r r[a] (r.drop (a+1)) (o::os)<;>rfl
theorem jd3 {P:n5} (r:List Pln) (h:P.ta0=(r.length:Int)) (j:Nat) (out:List Pt) (hj:r.length≤j):p8 P (nb0 r j out)=.exit (ph out+1):=by
 obtain⟨x1⟩:=P
 simp only at h
 subst h
 unfold p8
 have this:¬ ((j:Int) < (r.length:Int)):=by omega
 cases out with
 | nil =>
  show s9 Stp.next Stp.exit Stp.fail _ (nb0 r j [])=_
  simp only[s9,nb0]
  rw[bfD this]
  rfl
 | cons o os =>
  show u4 Stp.next Stp.exit Stp.fail _ (nb0 r j (o::os))=_
  simp only[u4,nb0]
  rw[bfD this]
  rfl
theorem Zc2 (r:List Pln) (hb:Bds r) (hr:r.length≤200):∃ m,lp (p8 ⟨(r.length:Int)⟩) (nb0 r 0 [])=(ph (cor r)+1,nb0 r m (cor r)) :=
 ⟨_,(Qa4 (step:=p8 ⟨(r.length:Int)⟩) (mk:=nb0 r) (f:=fun q l out=>Ja8 r q l out) (g:=fun l out=>yb5 r l out) (fin:=fun out=>ph out+1) r (fun k o=>o.length≤40000*k) (by omega)
  (fun _=>rfl) (fun _ _ _=>rfl) (fun k o hj hi=>⟨Zc1 r rfl hb hr k hj o hi,by
   have h1:=Mb8 r r[k] (r.drop (k+1)) o (by rw[List.length_drop];omega)
   rw[List.length_drop] at h1
   show (Ja8 r r[k] (r.drop (k+1)) o).length≤40000*(k+1)
   omega⟩)
  (fun k o hj _=>jd3 r rfl k o hj) 0 [] (by simp)).1⟩
theorem Nb0 (r:List Pln) (hb:Bds r) (hr:r.length≤200):M8 r=some (slX (cor r)):=by
 obtain⟨m,hm⟩:=Zc2 r hb hr
 unfold M8
 simp only[G6,K4]
 rw[show (⟨0,r,0,r,r,0,[],[]⟩:j5)=nb0 r 0 [] from rfl,hm]
 cases cor r<;>rfl
theorem Wb3 (r:List Pln) (hb:Bds r) (hr:r.length≤200):M9 r=cor r:=by unfold M9;rw[Nb0 r hb hr];exact Qa5 _ (Oc6 _)
theorem Wb4 (r:List Pln) (hb:Bds r) (hr:r.length≤200):N0 r=true:=by unfold N0;rw[Nb0 r hb hr];exact db0 _ (Oc6 _)
end Go.Ev.Ce
