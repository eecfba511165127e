/- Own work. -/
import Derived.Test.YtkfaiccnekeklaaGreatDoorChecked
import Derived.Test.YtkfaiccnekeklaaGreatDoorEvOaCePf
import Derived.KernelRfl
set_option linter.all false
def Qha:=@List.getD_eq_getElem?_getD
def Qhb:=@List.getElem?_eq_getElem
def Qhc:=@List.drop_eq_getElem_cons
def Qhd:=@Eq.trans
def Qhe:=@Nat.le_refl
def Qhf:=@List.length_mergeSort
def Qhg:=@Bool.false_eq_true
namespace Go.Ev.Ce
open Go Go.Ev Go.Proofs
set_option maxRecDepth 1000000
theorem mx:(Tryz.prog).follows .mixedOrders=true:=Checked.mixed Tryz.checked
abbrev Bdq(n:Nat)(pf:PFn):Prop:=wd2 Tryz.prog n λE=>pb2 E pf
theorem bdq{f:FuncId}{fn:Func}(hf:(Tryz.prog).funcs[f]?=some fn)(hn:decide (fn.name ≠ "runtime.NumGoroutine")=true:=by kernel_rfl)(hc:Option.isSome (e7 Tryz.prog fn)=true:=by kernel_rfl):Bdq f (got (e7 Tryz.prog fn)):=Be9 mx hf hn (wd1 hc)
theorem b3:Bdq 3 pf3:=bdq Tryz.func3
theorem b4:Bdq 4 pf4:=bdq Tryz.func4
theorem b5:Bdq 5 pf5:=bdq Tryz.func5
theorem b6:Bdq 6 pf6:=bdq Tryz.func6
theorem b7:Bdq 7 pf7:=bdq Tryz.func7
theorem b8:Bdq 8 pf8:=bdq Tryz.func8
theorem b9:Bdq 9 pf9:=bdq Tryz.func9
theorem b10:Bdq 10 Ce0:=bdq Tryz.func10
theorem b11:wd2 Tryz.prog 11 λE=>vb7 E ee9:=le2 (h:=h11) mx Tryz.func11 (by kernel_rfl) Tryz.func77 (by kernel_rfl) (wd1 (by kernel_rfl))
theorem b12:Bdq 12 Ce1:=bdq Tryz.func12
theorem b13:Bdq 13 Ce2:=bdq Tryz.func13
theorem b14:Bdq 14 we1:=bdq Tryz.func14
theorem b15:Bdq 15 we2:=bdq Tryz.func15
theorem b16:Bdq 16 Ce3:=bdq Tryz.func16
theorem b17:Bdq 17 Ce4:=bdq Tryz.func17
theorem b18:Bdq 18 Ce5:=bdq Tryz.func18
theorem b19:Bdq 19 Ce6:=bdq Tryz.func19
theorem b20:Bdq 20 Ce7:=bdq Tryz.func20
theorem b21:Bdq 21 Ce8:=bdq Tryz.func21
theorem b22:Bdq 22 Ce9:=bdq Tryz.func22
theorem b23:Bdq 23 De0:=bdq Tryz.func23
theorem b24:Bdq 24 De1:=bdq Tryz.func24
theorem b25:Bdq 25 De2:=bdq Tryz.func25
theorem b26:Bdq 26 De3:=bdq Tryz.func26
theorem b27:Bdq 27 De4:=bdq Tryz.func27
theorem b28:Bdq 28 Ud0:=bdq Tryz.func28
theorem b29:Bdq 29 De5:=bdq Tryz.func29
theorem b30:Bdq 30 De6:=bdq Tryz.func30
theorem b31:Bdq 31 De7:=bdq Tryz.func31
theorem b32:Bdq 32 De8:=bdq Tryz.func32
theorem b33:Bdq 33 De9:=bdq Tryz.func33
theorem b34:Bdq 34 Ee0:=bdq Tryz.func34
theorem b35:Bdq 35 Ee1:=bdq Tryz.func35
theorem b36:Bdq 36 we3:=bdq Tryz.func36
theorem b37:Bdq 37 Ee2:=bdq Tryz.func37
theorem b39:Bdq 39 Ee3:=bdq Tryz.func39
theorem b40:Bdq 40 Ee4:=bdq Tryz.func40
theorem b41:Bdq 41 Ee5:=bdq Tryz.func41
theorem b42:Bdq 42 we4:=bdq Tryz.func42
theorem b43:Bdq 43 Ee6:=bdq Tryz.func43
theorem b44:Bdq 44 pe4:=bdq Tryz.func44
theorem b45:Bdq 45 we5:=bdq Tryz.func45
theorem b46:Bdq 46 Ee7:=bdq Tryz.func46
theorem b47:Bdq 47 Ee8:=bdq Tryz.func47
theorem b48:Bdq 48 we6:=bdq Tryz.func48
theorem b49:Bdq 49 Ee9:=bdq Tryz.func49
theorem b50:Bdq 50 Fe0:=bdq Tryz.func50
theorem b51:Bdq 51 Fe1:=bdq Tryz.func51
theorem b52:Bdq 52 Fe2:=bdq Tryz.func52
theorem b53:Bdq 53 Fe3:=bdq Tryz.func53
theorem b54:Bdq 54 Fe4:=bdq Tryz.func54
theorem b55:Bdq 55 Fe5:=bdq Tryz.func55
theorem b56:Bdq 56 we7:=bdq Tryz.func56
theorem b57:Bdq 57 Fe6:=bdq Tryz.func57
theorem b58:Bdq 58 Fe7:=bdq Tryz.func58
theorem b59:Bdq 59 Fe8:=bdq Tryz.func59
theorem b60:Bdq 60 Fe9:=bdq Tryz.func60
theorem b61:Bdq 61 we8:=bdq Tryz.func61
theorem b62:Bdq 62 Ge0:=bdq Tryz.func62
theorem b63:Bdq 63 Ge1:=bdq Tryz.func63
theorem b64:Bdq 64 Ge2:=bdq Tryz.func64
theorem b65:Bdq 65 Ge3:=bdq Tryz.func65
theorem b66:Bdq 66 Ge4:=bdq Tryz.func66
theorem b67:Bdq 67 Ge5:=bdq Tryz.func67
theorem b68:Bdq 68 Ge6:=bdq Tryz.func68
theorem b69:Bdq 69 we9:=bdq Tryz.func69
theorem b70:Bdq 70 Ge7:=bdq Tryz.func70
theorem b71:Bdq 71 Ge8:=bdq Tryz.func71
theorem b72:wd2 Tryz.prog 72 λE=>vb7 E fe0:=le2 (h:=h72) mx Tryz.func72 (by kernel_rfl) Tryz.func77 (by kernel_rfl) (wd1 (by kernel_rfl))
theorem b73:Bdq 73 Ge9:=bdq Tryz.func73
theorem b75:Bdq 75 He0:=bdq Tryz.func75
theorem b76:Bdq 76 pe5:=bdq Tryz.func76
theorem b78:Bdq 78 He1:=bdq Tryz.func78
theorem b79:Bdq 79 He2:=bdq Tryz.func79
theorem b80:Bdq 80 He3:=bdq Tryz.func80
theorem b83:Bdq 83 He4:=bdq Tryz.func83
theorem b84:Bdq 84 pe6:=bdq Tryz.func84
theorem b85:Bdq 85 He5:=bdq Tryz.func85
theorem b86:Bdq 86 He6:=bdq Tryz.func86
theorem b87:Bdq 87 Ud1:=bdq Tryz.func87
theorem b88:Bdq 88 xe0:=bdq Tryz.func88
theorem b89:Bdq 89 He7:=bdq Tryz.func89
theorem b90:Bdq 90 He8:=bdq Tryz.func90
theorem b91:Bdq 91 He9:=bdq Tryz.func91
theorem b92:Bdq 92 xe1:=bdq Tryz.func92
theorem b93:Bdq 93 Ie0:=bdq Tryz.func93
theorem b94:Bdq 94 xe2:=bdq Tryz.func94
theorem b95:Bdq 95 Ie1:=bdq Tryz.func95
theorem b96:Bdq 96 Ie2:=bdq Tryz.func96
theorem b97:Bdq 97 Ie3:=bdq Tryz.func97
theorem b99:Bdq 99 xe3:=bdq Tryz.func99
theorem Ie4:Bdq 100 xe4:=bdq Tryz.func100
theorem Ie5:Bdq 111 xe5:=bdq Tryz.func111
theorem Ie6:Bdq 112 le3:=bdq Tryz.func112
theorem Ie7:Bdq 113 le4:=bdq Tryz.func113
theorem Ie8:Bdq 114 xe6:=bdq Tryz.func114
theorem Ie9:Bdq 123 xe7:=bdq Tryz.func123
end Go.Ev.Ce
namespace Go.Ev.L
open Go Go.Ev
noncomputable def wb1:RT->PC->PS2
 |.s a b,.seq x y=>.seq (wb1 a x) (wb1 b y)
 |.c a b,.cond g x y=>.cond g (wb1 a x) (wb1 b y)
 |.b a,.block id x=>.block id (wb1 a x)
 |.i a,.inner f x n c=>.inner f x n (wb1 a c)
 |.u S,_=>.sum S
 |_,c=>.pc c
theorem Xc5{E:Env}{k:Nat}(rt:RT)(c:PC):za8 (λx=>∀s,Q9 (x.1 s) (K1 E k x.2 s)) (Fb5 rt c)->aa2 E k (wb1 rt c) c:=by
 induction rt generalizing c with
 |p=>intro h;cases c<;>exact .pc _
 |s a b iha ihb =>
  intro h;cases c with
  |seq x y=>exact .seq (iha x (za8.app h).1) (ihb y (za8.app h).2)
  |_=>exact .pc _
 |c a b iha ihb =>
  intro h;cases c with
  |cond g x y=>exact .cond g (iha x (za8.app h).1) (ihb y (za8.app h).2)
  |_=>exact .pc _
 |b a iha =>
  intro h;cases c with
  |block id x=>exact .block id (iha x h)
  |_=>exact .pc _
 |l a iha=>intro h;cases c<;>exact .pc _
 |i a iha =>
  intro h;cases c with
  |inner f x n c=>exact .inner f x n (iha c h)
  |_=>exact .pc _
 |u S =>
  intro h
  have:Fb5 (.u S) c=[(S,c)]:=by cases c<;>rfl
  rw[this] at h;cases h with
  |cons h t =>
   have e:wb1 (.u S) c=.sum S:=by cases c<;>rfl
   rw[e];exact .sum h
section
variable{π σ:Type}{E:Env}{k:Nat}{keep:List Nat}{alts:List (Al2 π σ)}{enc:π->σ->St}{step:π->σ->Stp σ}{xs:Xs π σ}{body:PS2}{c:PC}
theorem vb1.belowM(hb:aa2 E k body c)(hN:E.N=rounds+1)(w:vb1 kd7 k keep (cc2 E k body) alts step xs enc)(s:St):Q9 (Oc8 kd7 k keep alts step xs s) (K1 E k (.loopM keep c) s):=λr hr=>by
 obtain⟨t,h1,h2⟩:=w.go hr;rw[wd0,hN];exact lb2 hb.le _ _ _ (Cb8 h1 h2)
theorem vb1.belowML(hb:aa2 E k body c)(hN:E.N=rounds+1)(w:vb1 ub7 k keep (cc2 E k body) alts step xs enc)(s:St):Q9 (Oc8 ub7 k keep alts step xs s) (K1 E k (.loop keep c) s):=λr hr=>by
 obtain⟨t,h1,h2⟩:=w.go hr;rw[Oc7,hN];exact lb2 hb.le _ _ _ (Cb8 h1 h2)
end
end Go.Ev.L
namespace Go.Ev.Ab
open Go Go.Ev
@[reducible] def o(d:Nat)(x:PO):PI:=⟨some d,none,[],x⟩
@[reducible] def s(x:PO):PI:=⟨none,none,[],x⟩
@[reducible] def ci(n:Int):Arg:=.c (.v (.int .i64 n))
@[reducible] def cb(b:Bool):Arg:=.c (.v (.bool b))
@[reducible] def vi(n:Int):c7:=.v (.int .i64 n)
@[reducible] def rep{α:Type}(n:Nat)(x:α):List α:=List.replicate n x
@[reducible] def ki(n:Nat):List CK:=List.replicate n (.int .i64)
@[reducible] def mv(d n:Nat):PI:=o d (.mv (.t n))
@[reducible] def mc(d:Nat)(n:Int):PI:=o d (.mv (ci n))
@[reducible] def mb(d:Nat)(x:Bool):PI:=o d (.mv (cb x))
@[reducible] def fd(d k n:Nat):PI:=o d (.fld k (.t n))
@[reducible] def lf(d k n:Nat):PI:=o d (.load (ki k) k false (.t n))
@[reducible] def ex(d x k:Nat):PI:=o d (.ext (.t x) k)
@[reducible] def gf(n:Nat)(x:PI):PI:=⟨x.dst,some (n,false),x.hide,x.op⟩
@[reducible] def so(l:List PI)(x:PC):PC:=.seq (.ops l) x
@[reducible] def sq(x y:PC):PC:=.seq x y
@[reducible] def ts(l:List Nat):List Arg:=l.map .t
@[reducible] def cl(f:Nat)(l:List Nat):PO:=.call f (ts l)
@[reducible] def sT(k a b:Nat):PI:=s (.store k (.t a) (.t b))
@[reducible] def pa(d c x:Nat):PI:=o d (.pick (.t c) (.t x) (cb false))
@[reducible] def po(d c x:Nat):PI:=o d (.pick (.t c) (cb true) (.t x))
@[reducible] def al(d k:Nat)(n:Int):PI:=o d (.alloc (rep k (vi n)))
@[reducible] def ap(d et es n x y:Nat):PI:=o d (.append et es n (.t x) (.t y))
end Go.Ev.Ab
namespace Go.Ev.L
open Go Go.Ev
def Cps{π σ:Type}(u:∀{α:Type},(σ->α)->(Nat->α)->α->π->σ->α):Prop :=
 ∀{α β:Type} (F:α->β) (k:σ->α) (e:Nat->α) (z:α) (p:π) (s:σ),F (u k e z p s)=u (λx=>F (k x)) (λt=>F (e t)) (F z) p s
@[reducible] noncomputable def foL{π σ:Type}(en:π->σ->St)(xs:Xs π σ)(p:π)(s:σ):Stp σ->Option (d9×St):=ub8 (λs'=>some (.normal,en p s')) (λt=>xOf xs p s t 1) none
structure Lo(π σ:Type) where
 E:Env
 k:Nat
 F:PFn
 at':List Nat
 kp:List Nat
 rt:RT
 al:List (Al2 π σ)
 st:π->σ->Stp σ
 xs:Xs π σ
 en:π->σ->St
namespace Lo
variable{π σ:Type}(L:Lo π σ)
noncomputable def lc:PC:=Be7 L.at' L.F.body
noncomputable def ls:St->DT (d9×St):=Oc8 ub7 L.k L.kp L.al L.st L.xs
noncomputable def lsM:St->DT (d9×St):=Oc8 kd7 L.k L.kp L.al L.st L.xs
noncomputable def pr:(St->DT (d9×St))×PC:=(L.ls,.loop L.kp L.lc)
noncomputable def prM:(St->DT (d9×St))×PC:=(L.lsM,.loopM L.kp L.lc)
def Ok:Prop:=∀s,V4 L.k L.F.res (L.pr.1 s) (K1 L.E L.k L.pr.2 s)
def OkE:Prop:=∀s,Q9 (L.pr.1 s) (K1 L.E L.k L.pr.2 s)
def OkM:Prop:=∀s,Q9 (L.prM.1 s) (K1 L.E L.k L.prM.2 s)
def Rd(hd:St->DT St)(bd:St->DT (d9×St))(p:π)(s:σ)(a:St)(b:Stp σ):Prop:=(lb3 hd bd a).run=foL L.en L.xs p s b
def H0:Prop:=∀p s,L.Rd (ub7 L.k L.kp) (Ad9 L.E L.k L.F.res (Gc9 L.rt L.lc)) p s (L.en p s) (L.st p s)
def H1:Prop:=∀p s,L.Rd (ub7 L.k L.kp) (cc2 L.E L.k (wb1 L.rt L.lc)) p s (L.en p s) (L.st p s)
def H2:Prop:=∀p s,L.Rd (kd7 L.k L.kp) (cc2 L.E L.k (wb1 L.rt L.lc)) p s (L.en p s) (L.st p s)
def HA:Prop:=za8 (λx=>∀a H,(⟨Jd2 x.sh a,Jd3 x.bl H⟩:St)=L.en (x.rd a H).1 (x.rd a H).2) L.al
variable{L}
theorem Rd.of {hd : St → DT St} {bd : St → DT (d9 × St)} {p : π} {s : σ} {a : St} (u : ∀ {α : Type}, (σ → α) → (Nat → α) → α → π → σ → α)
  (q:Cps @u) (H:(lb3 hd bd a).run=u (λx=>foL L.en L.xs p s (.next x)) (λt=>foL L.en L.xs p s (.exit t)) (foL L.en L.xs p s .fail) p s):L.Rd hd bd p s a (u .next .exit .fail p s) :=
 H.trans (q (foL L.en L.xs p s) Stp.next Stp.exit Stp.fail p s).symm
theorem Rd.sel{hd:St->DT St}{bd:St->DT (d9×St)}{p:π}{s:σ}{a1 a0:St}{b1 b0:Stp σ}(c:Bool)(h1:L.Rd hd bd p s a1 b1)(h0:L.Rd hd bd p s a0 b0):L.Rd hd bd p s (sel c a1 a0) (sel c b1 b0):=by
 cases c with
 |true=>exact h1
 |false=>exact h0
theorem ok(l:List ((St->DT (d9×St))×PC))(hs:Fb5 L.rt L.lc=l)(hl:za8 (λx=>∀s,V4 L.k L.F.res (x.1 s) (K1 L.E L.k x.2 s)) l)(hN:L.E.N=rounds+1)(ha:L.HA)(h:L.H0):L.Ok :=
 vb1.belowC (Bd9 _ _ (by rw[hs];exact hl)) hN ⟨ha,h⟩
theorem okE(l:List ((St->DT (d9×St))×PC))(hs:Fb5 L.rt L.lc=l)(hl:za8 (λx=>∀s,Q9 (x.1 s) (K1 L.E L.k x.2 s)) l)(hN:L.E.N=rounds+1)(ha:L.HA)(h:L.H1):L.OkE :=
 vb1.belowML (Xc5 _ _ (by rw[hs];exact hl)) hN ⟨ha,h⟩
theorem okM(l:List ((St->DT (d9×St))×PC))(hs:Fb5 L.rt L.lc=l)(hl:za8 (λx=>∀s,Q9 (x.1 s) (K1 L.E L.k x.2 s)) l)(hN:L.E.N=rounds+1)(ha:L.HA)(h:L.H2):L.OkM :=
 vb1.belowM (Xc5 _ _ (by rw[hs];exact hl)) hN ⟨ha,h⟩
end Lo
theorem gb6 {E : Env} {F : PFn} {args : List c7} {blks : List c8} {o : Option (c7 × List c8)} (rt : RT) (l : List ((St → DT (d9 × St)) × PC)) (hs : Fb5 rt F.body = l)
  (hl:za8 (λx=>∀s,V4 (len blks) F.res (x.1 s) (K1 E (len blks) x.2 s)) l) (h:(ve3 E F (Gc9 rt F.body) args blks).run=o) (r:c7×List c8) (hr:o=some r):(pb2 E F args blks).run=some r :=
 ud4 (Bd9 rt _ (by rw[hs];exact hl)) r (h.trans hr)
theorem Cd8 {E : Env} {F : PFn} {args : List c7} {blks : List c8} {o : Option (c7 × List c8)} (rt : RT) (l : List ((St → DT (d9 × St)) × PC)) (hs : Fb5 rt F.body = l)
  (hl:za8 (λx=>∀s,Q9 (x.1 s) (K1 E (len blks) x.2 s)) l) (h:(le1 E F (wb1 rt F.body) args blks).run=o) (r:c7×List c8) (hr:o=some r):(vb7 E F args blks).run=some r :=
 kd6 (Xc5 rt _ (by rw[hs];exact hl)) r (h.trans hr)
theorem n9{A o:Option (c7×List c8)}(h:A=o)(r:c7×List c8)(hr:o=some r):A=some r:=h.trans hr
noncomputable abbrev upq(x:St)(l:List (Nat×c7)):St:=⟨l.foldl (λa q=>a.set q.1 q.2) x.a,x.H⟩
noncomputable abbrev sIq:S2:=.s (.o (.int .i64))
noncomputable abbrev sUq:S2:=.s (.o .unk)
noncomputable abbrev sBq:S2:=.s (.o .bool)
noncomputable abbrev sPq(n:Nat):S2:=.s (.o (.ptr n 0 0 0))
noncomputable abbrev sTq(n:Nat):S2:=.s (.o (.tree n))
noncomputable abbrev sLq{α:Type}(t:Ty α):S2:=.s (.c t.es (nL t))
noncomputable abbrev kLq(n:Nat):List K:=List.replicate n (.o (.int .i64))
noncomputable abbrev aIq(a:List c7)(n:Nat):Int:=toI (slT a n)
noncomputable abbrev aBq(a:List c7)(n:Nat):Bool:=toB (slT a n)
noncomputable abbrev aNq(a:List c7)(n:Nat):Nat:=toN (slT a n)
noncomputable abbrev aGq(a:List c7)(n:Nat):Nat->List c7:=toG (slT a n)
noncomputable abbrev aLq{α:Type}(t:Ty α)(a:List c7)(n:Nat):List α:=rL t (slT a n)
noncomputable abbrev hIq(H:List c8)(m r n:Nat):Int:=toI (slT (rwT (elT H m) r) n)
noncomputable abbrev cIq(a:List c7)(m n:Nat):Int:=toI (slT (cellsOf (slT a m)) n)
noncomputable abbrev hLq{α:Type}(t:Ty α)(H:List c8)(m r n:Nat):List α:=rL t (slT (rwT (elT H m) r) n)
end Go.Ev.L
namespace Go.Ev.Ce
structure V3 where
 x:Int
 y:Int
 z:Int
structure Pln where
 n:V3
 b:Int
structure Pt where
 px:Int
 py:Int
 pz:Int
 pw:Int
def d7(a b:V3):V3:=⟨a.y*b.z-a.z*b.y,a.z*b.x-a.x*b.z,a.x*b.y-a.y*b.x⟩
def dot(a b:V3):Int:=a.x*b.x+a.y*b.y+a.z*b.z
def mw(p q r:Pln):Int:=dot p.n (d7 q.n r.n)
end Go.Ev.Ce
namespace Go.Ev.Ce
open Go Go.Ev Go.Ev.L Go.Proofs
@[reducible] noncomputable def prog:Program:=Tryz.prog
noncomputable def G:Nat->List Value:=λ_=>[]
noncomputable def En(l:List (Nat×Sum)):Env:={ P:=prog,G,fns:=λ_=>none,call:=ne5 l,own:=λf j=>Bool.and (Ja5 f [38,45,112,87,74,76]) (Nat.beq j 0),N:=18446744073709551616 }
@[reducible] def u:c7:=.v (.tuple #[])
theorem xe8{l:List (Nat×Sum)}(h:j5 prog G l):∀f,g8 (En l).P (En l).G f ((En l).call f):=Wc4 h
theorem bd{l:List (Nat×Sum)}{f:FuncId}{R:Env->Sum}(b:wd2 prog f R)(h:j5 prog G l):g8 prog G f (R (En l)):=b rfl (xe8 h)
noncomputable def tV:Ty V3 where
 es:=3
 row x:=[i x.x,i x.y,i x.z]
 rd r:=⟨toI (hdA r),toI (hdA (tlA r)),toI (hdA (tlA (tlA r)))⟩
 ok r:=ra8 3 r
 cks:=List.replicate 3 (.int .i64)
 d:=⟨0,0,0⟩
 h0 _:=rfl
 h1 _:=rfl
 h2 _:=rfl
 h3 _ h:=.of (qa1 h)
 h4 _:=rfl
 h5 _:=rfl
noncomputable def r1V:R1 V3:=r1A tV 3 λ_ h=>h
noncomputable def tP:Ty Pln where
 es:=4
 row x:=[i x.n.x,i x.n.y,i x.n.z,i x.b]
 rd r:=⟨⟨toI (hdA r),toI (hdA (tlA r)),toI (hdA (tlA (tlA r)))⟩,toI (hdA (tlA (tlA (tlA r))))⟩
 ok r:=ra8 4 r
 cks:=List.replicate 4 (.int .i64)
 d:=⟨⟨0,0,0⟩,0⟩
 h0 _:=rfl
 h1 _:=rfl
 h2 _:=rfl
 h3 _ h:=.of (qa1 h)
 h4 _:=rfl
 h5 _:=rfl
noncomputable def r1P:R1 Pln:=r1A tP 4 λ_ h=>h
structure Tp where
 p:Pln
 q:Pln
 r:Pln
structure Q2 where
 a:V3
 b:V3
set_option maxRecDepth 100000
noncomputable def wd3:List (Nat×Sum):=[]
theorem kd8:j5 prog G wd3:=trivial
noncomputable def Pc8(x:V3)(y:V3):V3:=(⟨W (x.x+y.x),W (x.y+y.y),W (x.z+y.z)⟩:V3)
noncomputable def Pc9:Sum:=Y2 (w9 tV) (w9 tV) (λx y=>.ret ((one r1V).enc (Pc8 x y),[]))
theorem wd4:g8 prog G 65 Pc9:=qa0 (bd b65 kd8) λx y=>n9 (by kernel_rfl)
noncomputable def wd5:List (Nat×Sum):=[]
theorem kd9:j5 prog G wd5:=trivial
noncomputable def p4(x:V3)(y:V3):Int:=(W ((W ((W (x.x*y.x))+(W (x.y*y.y))))+(W (x.z*y.z))))
noncomputable def Ra7:Sum:=Y2 (w9 tV) (w9 tV) (λx y=>.ret ((one r1I).enc (p4 x y),[]))
theorem Ua0:g8 prog G 60 Ra7:=qa0 (bd b60 kd9) λx y=>n9 (by kernel_rfl)
noncomputable def Xc6:List (Nat×Sum):=[]
theorem Hc0:j5 prog G Xc6:=trivial
noncomputable def xa6(x:V3)(y:V3):V3:=(⟨W ((W (x.y*y.z))-(W (x.z*y.y))),W ((W (x.z*y.x))-(W (x.x*y.z))),W ((W (x.x*y.y))-(W (x.y*y.x)))⟩:V3)
noncomputable def Za0:Sum:=Y2 (w9 tV) (w9 tV) (λx y=>.ret ((one r1V).enc (xa6 x y),[]))
theorem mb0:g8 prog G 55 Za0:=qa0 (bd b55 Hc0) λx y=>n9 (by kernel_rfl)
noncomputable def Za1:List (Nat×Sum):=[]
theorem Nb2:j5 prog G Za1:=trivial
@[reducible] noncomputable def qa2:Sum:=pb2 (En Za1) le4
theorem Aa0:g8 prog G 113 qa2:=bd Ie7 Nb2
noncomputable def lc8:List (Nat×Sum):=[]
theorem cc3:j5 prog G lc8:=trivial
noncomputable def ma8(x:Int):Option (c7×List c8):=(sl (decide (x<0)) (some (i (W (0-x)),[])) (some (i x,[])))
noncomputable def fa4(x:Int):Int:=J0 (one r1I) (ma8 x)
noncomputable def fa5(x:Int):Bool:=okO (one r1I) (ma8 x)
noncomputable def wb2:Sum:=K2 cI (λx=>.guard (fa5 x) (.ret ((one r1I).enc (fa4 x),[])))
theorem lc9:g8 prog G 114 wb2:=ta0 (bd Ie8 cc3) (one r1I) (o:=ma8) λx=>n9 (by kernel_rfl)
noncomputable def ic8:List (Nat×Sum):=[(114,wb2),(113,qa2)]
theorem Xc7:j5 prog G ic8:=⟨lc9,Aa0,trivial⟩
structure ca2 where
 (is6 f0 d8 g7 sc9 tc0 tc1:Int)
structure M7 where
 (is5 is7:Int)
noncomputable def Hb4(p:ca2)(s:M7):St:=⟨.unk::.ptr 0 0 0 0::.ptr 1 0 0 0::.unk::.ptr 2 0 0 0::i s.is5::i p.is6::i s.is7::ra 38 [],[⟨0,3,[[i p.f0,i p.d8,i p.g7]],true,false,0⟩,⟨0,3,[[i 0,i 0,i 0]],true,false,0⟩,⟨0,3,[[i p.sc9,i p.tc0,i p.tc1]],true,false,0⟩]⟩
noncomputable def ma9{α:Type}(k:M7->α)(e:Nat->α)(z:α)(p:ca2)(s:M7):α:=(sl (decide (s.is7>0)) (sl (s.is7==0) z (k ⟨s.is7,Int.tmod s.is5 s.is7⟩)) (e 1))
noncomputable def X5(p:ca2)(s:M7):Stp M7:=ma9 .next .exit .fail p s
noncomputable def mb1:Lo ca2 M7:=⟨En ic8,0,xe2,[1,1,1,0,1,4,4,1,0,4,1,1,4,4],[1,2,4,5,6,7],.p,[⟨sUq::sPq 0::sPq 1::sUq::sPq 2::sIq::sIq::sIq::ru2 38 [],[⟨0,3,true,some [kLq 3]⟩,⟨0,3,true,some [[.o (.lit .i64 0),.o (.lit .i64 0),.o (.lit .i64 0)]]⟩,⟨0,3,true,some [kLq 3]⟩],λa H=>(⟨aIq a 6,hIq H 0 0 0,hIq H 0 0 1,hIq H 0 0 2,hIq H 2 0 0,hIq H 2 0 1,hIq H 2 0 2⟩,⟨aIq a 5,aIq a 7⟩)⟩],X5,[(some 2,λp s=>upq (Hb4 p s) [(23,i s.is7),(24,b (decide (s.is7>0)))])],Hb4⟩
theorem Hc1:mb1.Ok:=Lo.ok [] (by kernel_rfl) .nil rfl (.cons (λa H=>by kernel_rfl) .nil) λp s=>(.of @ma9 (λF _ _ _ _ _=>by unfold ma9;(repeat' apply q8 (f:=F))<;>rfl) (by kernel_rfl))
noncomputable def Ua1(x:V3):Option (c7×List c8):=let t1:=(fa4 x.x);let t2:=(lp (X5 (⟨0,x.x,x.y,x.z,x.x,x.y,x.z⟩:ca2)) (⟨0,t1⟩:M7));let t3:=(fa4 x.y);let t4:=(lp (X5 (⟨1,x.x,x.y,x.z,x.x,x.y,x.z⟩:ca2)) (⟨t2.2.is5,t3⟩:M7));let t5:=(fa4 x.z);let t6:=(lp (X5 (⟨2,x.x,x.y,x.z,x.x,x.y,x.z⟩:ca2)) (⟨t4.2.is5,t5⟩:M7));(sl (x.x==(-9223372036854775808)) (some (.tup [.agg [i 0,i 0,i 0],i 0],[])) (sl (fa5 x.x) (sl (Nat.beq t2.1 1) (sl (x.y==(-9223372036854775808)) (some (.tup [.agg [i 0,i 0,i 0],i 0],[])) (sl (fa5 x.y) (sl (Nat.beq t4.1 1) (sl (x.z==(-9223372036854775808)) (some (.tup [.agg [i 0,i 0,i 0],i 0],[])) (sl (fa5 x.z) (sl (Nat.beq t6.1 1) (sl (t6.2.is5==0) (some (.tup [.agg [i 0,i 0,i 0],i 0],[])) (sl (t6.2.is5==0) none (sl (t6.2.is5==0) none (sl (t6.2.is5==0) none (some (.tup [.agg [i (W (Int.tdiv x.x t6.2.is5)),i (W (Int.tdiv x.y t6.2.is5)),i (W (Int.tdiv x.z t6.2.is5))],i t6.2.is5],[])))))) none) none)) none) none)) none) none))
noncomputable def wa8(x:V3):V3×Int:=J0 (two r1V r1I) (Ua1 x)
noncomputable def Ua2(x:V3):Bool:=okO (two r1V r1I) (Ua1 x)
noncomputable def Nb3:Sum:=K2 (w9 tV) (λx=>.guard (Ua2 x) (.ret ((two r1V r1I).enc (wa8 x),[])))
theorem ic9:g8 prog G 94 Nb3:=ta0 (bd b94 Xc7) (two r1V r1I) (o:=Ua1) λx=>gb6 (.s .p (.s .p (.s .p (.s (.s .p (.b (.l (.s .p (.s (.b (.s .p (.s .p (.b (.u mb1.ls))))) .p))))) .p)))) [mb1.pr] (by kernel_rfl) (.cons Hc1 .nil) (by kernel_rfl)
noncomputable def Xc8:List (Nat×Sum):=[(94,Nb3),(113,qa2)]
theorem Hc2:j5 prog G Xc8:=⟨ic9,Aa0,trivial⟩
noncomputable def Ja6(x:Pln):Option (c7×List c8):=let t1:=(wa8 x.n);(sl (decide (x.n.x<(-4608))) (some (b false,[])) (sl (decide (x.n.x>4608)) (some (b false,[])) (sl (decide (x.n.y<(-4608))) (some (b false,[])) (sl (decide (x.n.y>4608)) (some (b false,[])) (sl (decide (x.n.z<(-4608))) (some (b false,[])) (sl (decide (x.n.z>4608)) (some (b false,[])) (sl (Ua2 x.n) (sl (t1.2==1) (sl (decide (x.b>=(-2097152))) (some (b (decide (x.b<=2097152)),[])) (some (b false,[]))) (some (b false,[]))) none)))))))
noncomputable def Za2(x:Pln):Bool:=J0 (one r1B) (Ja6 x)
noncomputable def Za3(x:Pln):Bool:=okO (one r1B) (Ja6 x)
noncomputable def jc0:Sum:=K2 (w9 tP) (λx=>.guard (Za3 x) (.ret ((one r1B).enc (Za2 x),[])))
theorem Xc9:g8 prog G 96 jc0:=ta0 (bd b96 Hc2) (one r1B) (o:=Ja6) λx=>n9 (by kernel_rfl)
noncomputable def wd6:List (Nat×Sum):=[]
theorem ld0:j5 prog G wd6:=trivial
noncomputable def gb7(x:Int)(y:Int):Option (c7×List c8):=(sl (decide (y<1)) (some (i 0,[])) (sl (y==0) none (sl (y==0) none (some (i (Int.tmod (W ((Int.tmod x y)+y)) y),[])))))
noncomputable def Db3(x:Int)(y:Int):Int:=J0 (one r1I) (gb7 x y)
noncomputable def Db4(x:Int)(y:Int):Bool:=okO (one r1I) (gb7 x y)
noncomputable def Qc0:Sum:=Y2 cI cI (λx y=>.guard (Db4 x y) (.ret ((one r1I).enc (Db3 x y),[])))
theorem wd7:g8 prog G 58 Qc0:=Xa3 (bd b58 ld0) (one r1I) (o:=gb7) λx y=>n9 (by kernel_rfl)
noncomputable def Yc0:List (Nat×Sum):=[]
theorem Hc3:j5 prog G Yc0:=trivial
noncomputable def r7(x:V3)(y:V3):Int:=(W ((W ((W (x.x*y.x))+(W (x.y*y.y))))+(W (x.z*y.z))))
noncomputable def ga7:Sum:=Y2 (w9 tV) (w9 tV) (λx y=>.ret ((one r1I).enc (r7 x y),[]))
theorem qa3:g8 prog G 10 ga7:=qa0 (bd b10 Hc3) λx y=>n9 (by kernel_rfl)
noncomputable def Yc1:List (Nat×Sum):=[]
theorem Hc4:j5 prog G Yc1:=trivial
noncomputable def Ja7(x:V3)(y:V3):V3:=(⟨W (x.x+y.x),W (x.y+y.y),W (x.z+y.z)⟩:V3)
noncomputable def wb3:Sum:=Y2 (w9 tV) (w9 tV) (λx y=>.ret ((one r1V).enc (Ja7 x y),[]))
theorem Yc2:g8 prog G 33 wb3:=qa0 (bd b33 Hc4) λx y=>n9 (by kernel_rfl)
noncomputable def yc1:List (Nat×Sum):=[]
theorem mc0:j5 prog G yc1:=trivial
noncomputable def R2(x:V3)(y:V3):V3:=(⟨W ((W (x.y*y.z))-(W (x.z*y.y))),W ((W (x.z*y.x))-(W (x.x*y.z))),W ((W (x.x*y.y))-(W (x.y*y.x)))⟩:V3)
noncomputable def ta1:Sum:=Y2 (w9 tV) (w9 tV) (λx y=>.ret ((one r1V).enc (R2 x y),[]))
theorem Aa1:g8 prog G 53 ta1:=qa0 (bd b53 mc0) λx y=>n9 (by kernel_rfl)
noncomputable def pb7:List (Nat×Sum):=[]
theorem cc4:j5 prog G pb7:=trivial
structure fa6 where
 is0:Int
 Gd0:List Int
 is8:Int
structure I4 where
 is9:Int
noncomputable def Za4(p:fa6)(s:I4):St:=⟨i p.is0::ra 6 (eL tI p.Gd0::i p.is8::i s.is9::ra 13 []),[]⟩
noncomputable def Z3{α:Type}(k:I4->α)(e:Nat->α)(z:α)(p:fa6)(s:I4):α:=(sl (decide (s.is9<p.is8)) (sl (inB s.is9 (List.length p.Gd0)) (sl (decide ((gL tI p.Gd0 s.is9.toNat)<(W (0-p.is0)))) (e 1) (sl (decide ((gL tI p.Gd0 s.is9.toNat)>p.is0)) (e 1) (k ⟨W (s.is9+1)⟩))) z) (e 2))
noncomputable def ca3(p:fa6)(s:I4):Stp I4:=Z3 .next .exit .fail p s
noncomputable def Fa6:Lo fa6 I4:=⟨En pb7,0,we9,[1,0,1,4,4],[0,7,8,9],.p,[⟨sIq::ru2 6 (sLq tI::sIq::sIq::ru2 13 []),[],λa H=>(⟨aIq a 0,aLq tI a 7,aIq a 8⟩,⟨aIq a 9⟩)⟩],ca3,[(none,λp s=>⟨[b false],[]⟩),(some 0,λp s=>upq (Za4 p s) [(10,b (decide (s.is9<p.is8)))])],Za4⟩
theorem Tb6:Fa6.Ok:=Lo.ok [] (by kernel_rfl) .nil rfl (.cons (λa H=>by kernel_rfl) .nil) λp s=>(.of @Z3 (λF _ _ _ _ _=>by unfold Z3;(repeat' apply q8 (f:=F))<;>rfl) (by kernel_rfl))
noncomputable def na0(x:Int)(y:List Int):Option (c7×List c8):=let t1:=(lp (ca3 (⟨x,rt tI y,(↑(List.length y):Int)⟩:fa6)) (⟨0⟩:I4));(sl ((cnE tI y)&&true) (sl (Nat.beq t1.1 1) (some (b false,[])) (sl (Nat.beq t1.1 2) (some (b true,[])) none)) none)
noncomputable def fa7(x:Int)(y:List Int):Bool:=J0 (one r1B) (na0 x y)
noncomputable def fa8(x:Int)(y:List Int):Bool:=okO (one r1B) (na0 x y)
noncomputable def Ua3:Sum:=Y2 cI (La8 tI) (λx y=>.guard (fa8 x y) (.ret ((one r1B).enc (fa7 x y),[])))
theorem pb8:g8 prog G 69 Ua3:=Xa3 (bd b69 cc4) (one r1B) (o:=na0) λx y=>gb6 (.s .p (.s (.s .p (.b (.u Fa6.ls))) .p)) [Fa6.pr] (by kernel_rfl) (.cons Tb6 .nil) (by kernel_rfl)
noncomputable def Tb7:List (Nat×Sum):=[]
theorem Nb4:j5 prog G Tb7:=trivial
noncomputable def qa4(x:Int):Int:=(if (W (0-x))>x then (W (0-x)) else x)
noncomputable def gb8:Sum:=K2 cI (λx=>.ret ((one r1I).enc (qa4 x),[]))
theorem Tb8:g8 prog G 111 gb8:=Ia1 (bd Ie5 Nb4) λx=>n9 (by kernel_rfl)
noncomputable def Fa7:List (Nat×Sum):=[(111,gb8)]
theorem Tb9:j5 prog G Fa7:=⟨Tb8,trivial⟩
structure S6 where
 bb3:List Int
 (is7 is8:Int)
structure K0 where
 (is3 is5:Int)
noncomputable def Ua4(p:S6)(s:K0):St:=⟨ra 3 (i s.is3::.unk::i s.is5::eL tI p.bb3::i p.is7::i p.is8::ra 15 []),[]⟩
noncomputable def V1{α:Type}(k:K0->α)(e:Nat->α)(z:α)(p:S6)(s:K0):α:=(sl (decide (s.is5>0)) (sl (s.is5==0) z (k ⟨s.is5,Int.tmod s.is3 s.is5⟩)) (e 1))
noncomputable def P7(p:S6)(s:K0):Stp K0:=V1 .next .exit .fail p s
noncomputable def Aa2:Lo S6 K0:=⟨En Fa7,0,pe6,[1,1,0,1,4,4,1,1,0,4,1,1,1,4,4],[3,5,6,7,8],.p,[⟨ru2 3 (sIq::sUq::sIq::sLq tI::sIq::sIq::ru2 15 []),[],λa H=>(⟨aLq tI a 6,aIq a 7,aIq a 8⟩,⟨aIq a 3,aIq a 5⟩)⟩],P7,[(some 2,λp s=>upq (Ua4 p s) [(16,i s.is5),(17,b (decide (s.is5>0)))])],Ua4⟩
theorem Nb5:Aa2.Ok:=Lo.ok [] (by kernel_rfl) .nil rfl (.cons (λa H=>by kernel_rfl) .nil) λp s=>(.of @V1 (λF _ _ _ _ _=>by unfold V1;(repeat' apply q8 (f:=F))<;>rfl) (by kernel_rfl))
structure ca4 where
 is7:Int
structure D6 where
 is3:Int
 bb3:List Int
 is8:Int
noncomputable def Ua5(p:ca4)(s:D6):St:=⟨ra 3 (i s.is3::.unk::.unk::eL tI s.bb3::i p.is7::i s.is8::ra 15 []),[]⟩
noncomputable def V2{α:Type}(k:D6->α)(e:Nat->α)(z:α)(p:ca4)(s:D6):α:=let t1:=(qa4 (gL tI s.bb3 s.is8.toNat));let t2:=(lp (P7 (⟨rt tI s.bb3,p.is7,s.is8⟩:S6)) (⟨s.is3,t1⟩:K0));(sl (decide (s.is8<p.is7)) (sl (inB s.is8 (List.length s.bb3)) (sl ((gL tI s.bb3 s.is8.toNat)==(-9223372036854775808)) (e 1) (sl ((cnE tI s.bb3)&&true) (sl (Nat.beq t2.1 1) (k ⟨t2.2.is3,rt tI s.bb3,W (s.is8+1)⟩) z) z)) z) (e 2))
noncomputable def Z4(p:ca4)(s:D6):Stp D6:=V2 .next .exit .fail p s
noncomputable def Aa3:Lo ca4 D6:=⟨En Fa7,0,pe6,[1,1,0,1,4,4],[3,6,7,8],.s .p (.s .p (.s (.b (.s .p (.s .p (.s .p (.b (.u Aa2.ls)))))) .p)),[⟨ru2 3 (sIq::sUq::sUq::sLq tI::sIq::sIq::ru2 15 []),[],λa H=>(⟨aIq a 7⟩,⟨aIq a 3,aLq tI a 6,aIq a 8⟩)⟩],Z4,[(none,λp s=>⟨[i 0],[]⟩),(some 0,λp s=>upq (Ua5 p s) [(9,b (decide (s.is8<p.is7)))])],Ua5⟩
theorem Nb6:Aa3.Ok:=Lo.ok [Aa2.pr] (by kernel_rfl) (.cons Nb5 .nil) rfl (.cons (λa H=>by kernel_rfl) .nil) λp s=>(.of @V2 (λF _ _ _ _ _=>by unfold V2;(repeat' apply q8 (f:=F))<;>rfl) (by kernel_rfl))
noncomputable def ia6(x:List Int):Option (c7×List c8):=let t1:=(lp (Z4 (⟨(↑(List.length x):Int)⟩:ca4)) (⟨0,rt tI x,0⟩:D6));(sl ((cnE tI x)&&true) (sl (Nat.beq t1.1 1) (some (i 0,[])) (sl (Nat.beq t1.1 2) (some (i t1.2.is3,[])) none)) none)
noncomputable def U6(x:List Int):Int:=J0 (one r1I) (ia6 x)
noncomputable def U7(x:List Int):Bool:=okO (one r1I) (ia6 x)
noncomputable def La9:Sum:=K2 (La8 tI) (λx=>.guard (U7 x) (.ret ((one r1I).enc (U6 x),[])))
theorem gb9:g8 prog G 84 La9:=ta0 (bd b84 Tb9) (one r1I) (o:=ia6) λx=>gb6 (.s .p (.s .p (.s (.s .p (.b (.u Aa3.ls))) .p))) [Aa3.pr] (by kernel_rfl) (.cons Nb6 .nil) (by kernel_rfl)
noncomputable def yc2:List (Nat×Sum):=[(69,Ua3),(84,La9)]
theorem mc1:j5 prog G yc2:=⟨pb8,gb9,trivial⟩
noncomputable def ta2(x:Pln):Option (c7×List c8):=let t1:=(fa7 4608 [x.n.x,x.n.y,x.n.z]);let t2:=(U6 [x.n.x,x.n.y,x.n.z]);let t3:=(fa7 2097152 [x.b]);(sl (fa8 4608 [x.n.x,x.n.y,x.n.z]) (sl t1 (sl (U7 [x.n.x,x.n.y,x.n.z]) (sl (t2==1) (sl (fa8 2097152 [x.b]) (some (b t3,[])) none) (some (b false,[]))) none) (some (b false,[]))) none)
noncomputable def Ia3(x:Pln):Bool:=J0 (one r1B) (ta2 x)
noncomputable def Ia4(x:Pln):Bool:=okO (one r1B) (ta2 x)
noncomputable def Hb5:Sum:=K2 (w9 tP) (λx=>.guard (Ia4 x) (.ret ((one r1B).enc (Ia3 x),[])))
theorem wb4:g8 prog G 40 Hb5:=ta0 (bd b40 mc1) (one r1B) (o:=ta2) λx=>n9 (by kernel_rfl)
noncomputable def yc3:List (Nat×Sum):=[]
theorem mc2:j5 prog G yc3:=trivial
noncomputable def ta3(x:Int)(y:Int):Option (c7×List c8):=(sl (decide (x<y)) (some (i (-1),[])) (sl (decide (x>y)) (some (i 1,[])) (some (i 0,[]))))
noncomputable def X6(x:Int)(y:Int):Int:=J0 (one r1I) (ta3 x y)
noncomputable def X7(x:Int)(y:Int):Bool:=okO (one r1I) (ta3 x y)
noncomputable def cb2:Sum:=Y2 cI cI (λx y=>.guard (X7 x y) (.ret ((one r1I).enc (X6 x y),[])))
theorem wb5:g8 prog G 83 cb2:=Xa3 (bd b83 mc2) (one r1I) (o:=ta3) λx y=>n9 (by kernel_rfl)
noncomputable def cc5:List (Nat×Sum):=[(83,cb2)]
theorem Ub0:j5 prog G cc5:=⟨wb5,trivial⟩
noncomputable def ia7(x:Pln)(y:Pln):Option (c7×List c8):=let t1:=(X6 x.n.x y.n.x);let t2:=(X6 x.n.y y.n.y);let t3:=(X6 x.n.z y.n.z);let t4:=(X6 x.b y.b);(sl (X7 x.n.x y.n.x) (sl (t1==0) (sl (X7 x.n.y y.n.y) (sl (t2==0) (sl (X7 x.n.z y.n.z) (sl (t3==0) (sl (X7 x.b y.b) (sl (t4==0) (some (i t4,[])) (some (i t4,[]))) none) (some (i t3,[]))) none) (some (i t2,[]))) none) (some (i t1,[]))) none)
noncomputable def va1(x:Pln)(y:Pln):Int:=J0 (one r1I) (ia7 x y)
noncomputable def va2(x:Pln)(y:Pln):Bool:=okO (one r1I) (ia7 x y)
noncomputable def Ma0:Sum:=Y2 (w9 tP) (w9 tP) (λx y=>.guard (va2 x y) (.ret ((one r1I).enc (va1 x y),[])))
theorem cc6:g8 prog G 39 Ma0:=Xa3 (bd b39 Ub0) (one r1I) (o:=ia7) λx y=>n9 (by kernel_rfl)
noncomputable def ld1:List (Nat×Sum):=[(69,Ua3)]
theorem Yc3:j5 prog G ld1:=⟨pb8,trivial⟩
noncomputable def Ua6(x:V3):Option (c7×List c8):=let t1:=(fa7 24 [x.x,x.y,x.z]);(sl (fa8 24 [x.x,x.y,x.z]) (some (b t1,[])) none)
noncomputable def na1(x:V3):Bool:=J0 (one r1B) (Ua6 x)
noncomputable def na2(x:V3):Bool:=okO (one r1B) (Ua6 x)
noncomputable def mb2:Sum:=K2 (w9 tV) (λx=>.guard (na2 x) (.ret ((one r1B).enc (na1 x),[])))
theorem Za5:g8 prog G 30 mb2:=ta0 (bd b30 Yc3) (one r1B) (o:=Ua6) λx=>n9 (by kernel_rfl)
end Go.Ev.Ce
namespace Go.Proofs
open Go.Shelf
set_option maxRecDepth 100000 in
def Ce.sortLay_ren:Go.Shelf.Ren:=⟨fun | 6=>38 | 15=>82 | 14=>81 | 28=>109 | 29=>110 | 20=>101 | 21=>102 | 22=>103 | 23=>104 | 24=>105 | 25=>106 | 26=>107 | 27=>108 | 46=>124 | 47=>125 | 48=>126 | 49=>127 | 50=>128 | 57=>132 | n=>n,fun | 22=>40 | 24=>45 | 25=>82 | 3=>3 | 39=>111 | 0=>0 | 53=>128 | 55=>130 | 4=>4 | 46=>121 | 45=>120 | 50=>125 | 5=>5 | 9=>9 | 66=>138 | 70=>142 | 76=>146 | 77=>147 | n=>n,fun | n=>n⟩
set_option maxRecDepth 100000 in
theorem Ce.sortLay:Go.Proofs.SlLaysF0.n6 Tryz.prog Ce.sortLay_ren:={
 mixed:=by kernel_rfl
 f6:=⟨Tryz.f38.name,by decide,Tryz.func38.trans (congrArg some (by kernel_rfl))⟩
 f14:=⟨Tryz.f81.name,by decide,Tryz.func81.trans (congrArg some (by kernel_rfl))⟩
 f15:=Tryz.func82.trans (congrArg some (by kernel_rfl))
 f20:=⟨Tryz.f101.name,by decide,Tryz.func101.trans (congrArg some (by kernel_rfl))⟩
 f21:=⟨Tryz.f102.name,by decide,Tryz.func102.trans (congrArg some (by kernel_rfl))⟩
 f22:=⟨Tryz.f103.name,by decide,Tryz.func103.trans (congrArg some (by kernel_rfl))⟩
 f23:=⟨Tryz.f104.name,by decide,Tryz.func104.trans (congrArg some (by kernel_rfl))⟩
 f24:=⟨Tryz.f105.name,by decide,Tryz.func105.trans (congrArg some (by kernel_rfl))⟩
 f25:=⟨Tryz.f106.name,by decide,Tryz.func106.trans (congrArg some (by kernel_rfl))⟩
 f26:=⟨Tryz.f107.name,by decide,Tryz.func107.trans (congrArg some (by kernel_rfl))⟩
 f27:=⟨Tryz.f108.name,by decide,Tryz.func108.trans (congrArg some (by kernel_rfl))⟩
 f28:=Tryz.func109.trans (congrArg some (by kernel_rfl))
 f29:=Tryz.func110.trans (congrArg some (by kernel_rfl))
 f46:=⟨Tryz.f124.name,by decide,Tryz.func124.trans (congrArg some (by kernel_rfl))⟩
 f47:=Tryz.func125.trans (congrArg some (by kernel_rfl))
 f48:=Tryz.func126.trans (congrArg some (by kernel_rfl))
 f49:=⟨Tryz.f127.name,by decide,Tryz.func127.trans (congrArg some (by kernel_rfl))⟩
 f50:=⟨Tryz.f128.name,by decide,Tryz.func128.trans (congrArg some (by kernel_rfl))⟩
 f57:=⟨Tryz.f132.name,by decide,Tryz.func132.trans (congrArg some (by kernel_rfl))⟩
 t0:=Tryz.underlying0
 a0:=Tryz.isAgg0
 z0:=Tryz.sizeOf0
 v0:=Tryz.zeroValue0
 t3:=Tryz.underlying3
 a3:=Tryz.isAgg3
 z3:=Tryz.sizeOf3
 v3:=Tryz.zeroValue3
 t4:=Tryz.underlying4
 a4:=Tryz.isAgg4
 z4:=Tryz.sizeOf4
 v4:=Tryz.zeroValue4
 t5:=Tryz.underlying5
 a5:=Tryz.isAgg5
 z5:=Tryz.sizeOf5
 v5:=Tryz.zeroValue5
 t9:=Tryz.underlying9
 a9:=Tryz.isAgg9
 z9:=Tryz.sizeOf9
 v9:=Tryz.zeroValue9
 t22:=Tryz.underlying40
 a22:=Tryz.isAgg40
 z22:=Tryz.sizeOf40
 v22:=Tryz.zeroValue40
 t25:=Tryz.underlying82
 a25:=Tryz.isAgg82
 z25:=Tryz.sizeOf82
 v25:=Tryz.zeroValue82
 t39:=Tryz.underlying111
 a39:=Tryz.isAgg111
 z39:=Tryz.sizeOf111
 v39:=Tryz.zeroValue111
 t45:=Tryz.underlying120
 a45:=Tryz.isAgg120
 z45:=Tryz.sizeOf120
 v45:=Tryz.zeroValue120
 t46:=Tryz.underlying121
 a46:=Tryz.isAgg121
 z46:=Tryz.sizeOf121
 v46:=Tryz.zeroValue121
 t50:=Tryz.underlying125
 a50:=Tryz.isAgg125
 z50:=Tryz.sizeOf125
 v50:=Tryz.zeroValue125
 t53:=Tryz.underlying128
 a53:=Tryz.isAgg128
 z53:=Tryz.sizeOf128
 v53:=Tryz.zeroValue128
 t55:=Tryz.underlying130
 a55:=Tryz.isAgg130
 z55:=Tryz.sizeOf130
 v55:=Tryz.zeroValue130
 t66:=Tryz.underlying138
 a66:=Tryz.isAgg138
 z66:=Tryz.sizeOf138
 v66:=Tryz.zeroValue138
 t70:=Tryz.underlying142
 a70:=Tryz.isAgg142
 z70:=Tryz.sizeOf142
 v70:=Tryz.zeroValue142
 t76:=Tryz.underlying146
 a76:=Tryz.isAgg146
 z76:=Tryz.sizeOf146
 v76:=Tryz.zeroValue146
 t77:=Tryz.underlying147
 a77:=Tryz.isAgg147
 z77:=Tryz.sizeOf147
 v77:=Tryz.zeroValue147 }
end Go.Proofs
namespace Go.Ev.Ce
open Go Go.Ev Go.Ev.L Go.Proofs Go.Sort
def cb3(x y:Int):Int:=if x<y then -1 else if x>y then 1 else 0
def cb4(x y:Pln):Int :=
 if cb3 x.n.x y.n.x=0 then if cb3 x.n.y y.n.y=0 then if cb3 x.n.z y.n.z=0 then cb3 x.b y.b else cb3 x.n.z y.n.z else cb3 x.n.y y.n.y else cb3 x.n.x y.n.x
theorem mb3(x y:Int):cb3 x y<0↔x<y:=by unfold cb3;split<;>(try split)<;>omega
theorem Ub1(x y:Int):cb3 x y=0↔x=y:=by unfold cb3;split<;>(try split)<;>omega
def LtP(x y:Pln):Prop:=x.n.x<y.n.x\/x.n.x=y.n.x/\(x.n.y<y.n.y\/x.n.y=y.n.y/\(x.n.z<y.n.z\/x.n.z=y.n.z/\x.b<y.b))
instance(x y:Pln):Decidable (LtP x y):=by unfold LtP;exact inferInstance
theorem Yc4(x y:Pln):cb4 x y<0↔LtP x y:=by
 have h1:=mb3 x.n.x y.n.x;have h2:=Ub1 x.n.x y.n.x;have h3:=mb3 x.n.y y.n.y;have h4:=Ub1 x.n.y y.n.y;have h5:=mb3 x.n.z y.n.z;have h6:=Ub1 x.n.z y.n.z;have h7:=mb3 x.b y.b;unfold cb4 LtP;split
 ·split
  ·split<;>omega
  ·omega
 ·omega
theorem Fa8(x y:Pln):ltOf cb4 x y=decide (LtP x y):=by
 unfold ltOf;rw[decide_eq_decide];exact Yc4 x y
theorem xe9:SWO (ltOf cb4) where
 irrefl x:=by rw[Fa8];simp[LtP]
 trans x y z h1 h2:=by rw[Fa8,decide_eq_true_eq] at *;unfold LtP at *;omega
 ntrans x y z h1 h2:=by rw[Fa8,decide_eq_false_iff_not] at *;unfold LtP at *;omega
theorem Je0(x y:Pln)(h1:ltOf cb4 x y=false)(h2:ltOf cb4 y x=false):x=y:=by
 rw[Fa8,decide_eq_false_iff_not] at *
 unfold LtP at *
 obtain⟨⟨a,b,c⟩,d⟩:=x;obtain⟨⟨a',b',c'⟩,d'⟩:=y
 simp only at *
 have:a=a'/\b=b'/\c=c'/\d=d':=by omega
 obtain⟨rfl,rfl,rfl,rfl⟩:=this;rfl
theorem ld2(x y:Int):ta3 x y=some (i (cb3 x y),[]):=by
 unfold ta3 cb3;simp only[Ta4,decide_eq_true_eq]
 split<;>(try split)<;>rfl
theorem Cd9(x y:Int):X6 x y=cb3 x y:=by unfold X6;rw[ld2];rfl
theorem Dd0(x y:Int):X7 x y=true:=by unfold X7;rw[ld2];rfl
theorem yc4(x y:Pln):ia7 x y=some (i (cb4 x y),[]):=by
 unfold ia7 cb4;simp only[Cd9,Dd0,Ta4,beq_iff_eq,if_true]
 repeat' (first | rfl | split)
theorem ye0(x y:Pln):va1 x y=cb4 x y:=by unfold va1;rw[yc4];rfl
theorem ye1(x y:Pln):va2 x y=true:=by unfold va2;rw[yc4];rfl
theorem ye2(x y:Pln):(Ma0 [.agg (tP.row x),.agg (tP.row y)] []).run=some (i (cb4 x y),[]):=by
 have:(Ma0 [.agg (tP.row x),.agg (tP.row y)] []).run=sel (va2 x y) (some (i (va1 x y),[])) none:=by kernel_rfl
 rw[this,ye1,ye0]
def bc9(p:Pln):List Value:=[.int .i64 p.n.x,.int .i64 p.n.y,.int .i64 p.n.z,.int .i64 p.b]
instance:Inhabited Pln:=⟨⟨⟨0,0,0⟩,0⟩⟩
def Hb6(l:List Pln):List Pln:=l.mergeSort λx y=>!ltOf cb4 y x
theorem Db5(l:List Pln):(Hb6 l).length=l.length:=Qhf l
noncomputable def xa7:Sum:=Cd1 tP 39 45 Hb6
theorem Ud2:Ce.sortLay_ren.f 6=38:=by kernel_rfl
theorem Qc1:Ce.sortLay_ren.t 24=45:=by kernel_rfl
set_option maxRecDepth 100000 in
theorem cb5:g8 prog G 38 xa7:=by
 refine Cd2 (enc:=bc9) (cf:=cb4) ⟨_,Tryz.func38,by kernel_rfl,of_decide_eq_true (by kernel_rfl)⟩ (by decide) (λ_=>rfl) (λr h=>qa1 (n:=4) h) (λx v hv=>?_) Db5
  (λblk off size w=>Cd0 cc6 ye2 (λ_=>rfl) (λ_=>rfl) _ _ _ _ _) (λblk cap d w hcl hH hb hs=>?_)
 ·simp[bc9] at hv
  rcases hv with rfl|rfl|rfl|rfl<;>rfl
 ·have eg:∀args w,(callFunc 39 args).run Tryz.prog w=.ok (.enter 39 args) w:=enters_of Tryz.func39 (by kernel_rfl) rfl
  have:=AnyQ.slices_SortFunc Ce.sortLay 4 (by rw[Qc1];exact Tryz.isAgg45) (by rw[Qc1];exact Tryz.sizeOf45) bc9 (λ_=>rfl) (λx v hv=>by simp[bc9] at hv;rcases hv with rfl | rfl | rfl | rfl<;>rfl) cb4 xe9 39 #[] blk 0 cap d w eg (hcl 0 d.size) hH hb hs
  rw[Ud2] at this;refine this.mono λe w' ⟨h1,d',n,os,h2,h3,h4⟩=>⟨h1,n,os,?_⟩
  have h5:=sorted_unique_holds xe9 Je0 d d' h2 h3;rw[h4];show _=sortWorldK bc9 4 w blk 0 n (d.toList.mergeSort λx y=>!ltOf cb4 y x).toArray os
  rw[<- h5]
end Go.Ev.Ce
namespace Go.Ev.Ce
open Go Go.Ev Go.Ev.L Go.Proofs
set_option maxRecDepth 100000
structure va3 where
 is1:Int
 n7:List Int
 d8:Int
noncomputable def cc7:List (Nat×Sum):=[(58,Qc0)]
theorem Ub2:j5 prog G cc7:=⟨wd7,trivial⟩
structure va4 where
 alt:Nat
 (is0 d8:Int)
noncomputable def ba3{α:Type}(kk:va4->α)(x:va3):α:=let t1:=(Db3 (gL tI x.n7 (W ((W (x.d8+1))-1)).toNat) x.is1);(sl (decide (x.d8>=(↑(List.length x.n7):Int))) (kk ⟨1,0,x.d8⟩) (sl (inB (W ((W (x.d8+1))-1)) (List.length x.n7)) (sl (Db4 (gL tI x.n7 (W ((W (x.d8+1))-1)).toNat) x.is1) (kk ⟨1,t1,W (x.d8+1)⟩) (kk ⟨0,0,0⟩)) (kk ⟨0,0,0⟩)))
noncomputable def o0(x:va3):va4:=ba3 (λr=>r) x
noncomputable def Fa9(x:va3)(r:va4):DT (c7×List c8):=(.ite (Nat.beq r.alt 1) (.ret (i r.is0,[⟨0,2,[[eL tI x.n7,i r.d8]],true,false,0⟩])) .fail)
theorem mc3{α β:Type}(F:α->β)(kk:va4->α)(x:va3):F (ba3 kk x)=ba3 (λr=>F (kk r)) x:=by unfold ba3;(repeat' apply q8 (f:=F))<;>rfl
noncomputable def va5:Sum:=rb4 ⟨[.s (.o (.ptr 0 0 0 0)),.s (.o (.int .i64))],[⟨0,2,true,some [[.c 1 (nL tI),.o (.int .i64)]]⟩],λa H=>(⟨toI (slT a 1),rL tI (slT (rwT (elT H 0) 0) 0),toI (slT (rwT (elT H 0) 0) 1)⟩,())⟩ (λx=>Fa9 x (o0 x))
theorem Ga0:g8 prog G 25 va5:=ca1 (enc:=λx=>⟨[.ptr 0 0 0 0,i x.is1],[⟨0,2,[[eL tI x.n7,i x.d8]],true,false,0⟩]⟩) (λa H=>by kernel_rfl) (bd b25 Ub2) λx=>n9 (Qhd (b:=ba3 (λr=>(Fa9 x r).run) x) (by kernel_rfl) (mc3 (λr=>(Fa9 x r).run) (λr=>r) x).symm)
structure Db6 where
 is1:Int
 n7:List Int
 d8:Int
noncomputable def wd8:List (Nat×Sum):=[(25,va5)]
theorem ld3:j5 prog G wd8:=⟨Ga0,trivial⟩
structure Db7 where
 alt:Nat
 (Oa0 Oa1 Oa2:Int)
 n7:List Int
 d8:Int
noncomputable def Ra8{α:Type}(kk:Db7->α)(x:Db6):α:=let t1:=(o0 ⟨W ((W (2*x.is1))+1),rt tI x.n7,x.d8⟩);let t2:=(o0 ⟨W ((W (2*x.is1))+1),rt tI (rt tI x.n7),t1.d8⟩);let t3:=(o0 ⟨W ((W (2*x.is1))+1),rt tI (rt tI (rt tI x.n7)),t2.d8⟩);(sl ((cnE tI x.n7)&&true) (sl (Nat.beq t1.alt 1) (sl ((cnE tI (rt tI x.n7))&&true) (sl (Nat.beq t2.alt 1) (sl ((cnE tI (rt tI (rt tI x.n7)))&&true) (sl (Nat.beq t3.alt 1) (kk ⟨1,W (t1.is0-x.is1),W (t2.is0-x.is1),W (t3.is0-x.is1),rt tI (rt tI (rt tI x.n7)),t3.d8⟩) (kk ⟨0,0,0,0,[],0⟩)) (kk ⟨0,0,0,0,[],0⟩)) (kk ⟨0,0,0,0,[],0⟩)) (kk ⟨0,0,0,0,[],0⟩)) (kk ⟨0,0,0,0,[],0⟩)) (kk ⟨0,0,0,0,[],0⟩))
noncomputable def Db8(x:Db6):Db7:=Ra8 (λr=>r) x
noncomputable def Nb7(x:Db6)(r:Db7):DT (c7×List c8):=(.ite (Nat.beq r.alt 1) (.ret (.agg [i r.Oa0,i r.Oa1,i r.Oa2],[⟨0,2,[[eL tI r.n7,i r.d8]],true,false,0⟩])) .fail)
theorem Ld1{α β:Type}(F:α->β)(kk:Db7->α)(x:Db6):F (Ra8 kk x)=Ra8 (λr=>F (kk r)) x:=by unfold Ra8;(repeat' apply q8 (f:=F))<;>rfl
noncomputable def Qc2:Sum:=rb4 ⟨[.s (.o (.ptr 0 0 0 0)),.s (.o (.int .i64))],[⟨0,2,true,some [[.c 1 (nL tI),.o (.int .i64)]]⟩],λa H=>(⟨toI (slT a 1),rL tI (slT (rwT (elT H 0) 0) 0),toI (slT (rwT (elT H 0) 0) 1)⟩,())⟩ (λx=>Nb7 x (Db8 x))
theorem wd9:g8 prog G 27 Qc2:=ca1 (enc:=λx=>⟨[.ptr 0 0 0 0,i x.is1],[⟨0,2,[[eL tI x.n7,i x.d8]],true,false,0⟩]⟩) (λa H=>by kernel_rfl) (bd b27 ld3) λx=>n9 (Qhd (b:=Ra8 (λr=>(Nb7 x r).run) x) (by kernel_rfl) (Ld1 (λr=>(Nb7 x r).run) (λr=>r) x).symm)
noncomputable def xd0:List (Nat×Sum):=[]
theorem ld4:j5 prog G xd0:=trivial
noncomputable def Ga1(x:V3)(y:V3):V3:=(⟨W (x.x-y.x),W (x.y-y.y),W (x.z-y.z)⟩:V3)
noncomputable def Qc3:Sum:=Y2 (w9 tV) (w9 tV) (λx y=>.ret ((one r1V).enc (Ga1 x y),[]))
theorem xd1:g8 prog G 95 Qc3:=qa0 (bd b95 ld4) λx y=>n9 (by kernel_rfl)
noncomputable def Ld2:List (Nat×Sum):=[(113,qa2)]
theorem xd2:j5 prog G Ld2:=⟨Aa0,trivial⟩
noncomputable def wb6(x:V3):Option (c7×List c8):=(sl (decide (x.x<(-24))) (some (b false,[])) (sl (decide (x.x>24)) (some (b false,[])) (sl (decide (x.y<(-24))) (some (b false,[])) (sl (decide (x.y>24)) (some (b false,[])) (sl (decide (x.z<(-24))) (some (b false,[])) (sl (decide (x.z>24)) (some (b false,[])) (some (b true,[]))))))))
noncomputable def Ua7(x:V3):Bool:=J0 (one r1B) (wb6 x)
noncomputable def Ua8(x:V3):Bool:=okO (one r1B) (wb6 x)
noncomputable def yc5:Sum:=K2 (w9 tV) (λx=>.guard (Ua8 x) (.ret ((one r1B).enc (Ua7 x),[])))
theorem Qc4:g8 prog G 93 yc5:=ta0 (bd b93 xd2) (one r1B) (o:=wb6) λx=>n9 (by kernel_rfl)
noncomputable def yc6:List (Nat×Sum):=[(93,yc5),(95,Qc3),(55,Za0),(94,Nb3),(60,Ra7)]
theorem mc4:j5 prog G yc6:=⟨Qc4,xd1,mb0,ic9,Ua0,trivial⟩
noncomputable def ta4(x:V3)(y:V3)(z:V3):Option (c7×List c8):=let t1:=(Ua7 x);let t2:=(Ua7 y);let t3:=(Ua7 z);let t4:=(Ga1 y x);let t5:=(Ga1 z x);let t6:=(xa6 t4 t5);let t7:=(wa8 t6);let t8:=(p4 t7.1 x);(sl (Ua8 x) (sl (!t1) (some (.tup [.agg [i 0,i 0,i 0,i 0],b false],[])) (sl (Ua8 y) (sl (!t2) (some (.tup [.agg [i 0,i 0,i 0,i 0],b false],[])) (sl (Ua8 z) (sl (!t3) (some (.tup [.agg [i 0,i 0,i 0,i 0],b false],[])) (sl (Ua2 t6) (sl (t7.2==0) (some (.tup [.agg [i 0,i 0,i 0,i 0],b false],[])) (some (.tup [.agg [i t7.1.x,i t7.1.y,i t7.1.z,i t8],b true],[]))) none)) none)) none)) none)
noncomputable def Ia5(x:V3)(y:V3)(z:V3):Pln×Bool:=J0 (two r1P r1B) (ta4 x y z)
noncomputable def Ia6(x:V3)(y:V3)(z:V3):Bool:=okO (two r1P r1B) (ta4 x y z)
noncomputable def Hb7:Sum:=Sb5 (w9 tV) (w9 tV) (w9 tV) (λx y z=>.guard (Ia6 x y z) (.ret ((two r1P r1B).enc (Ia5 x y z),[])))
theorem yc7:g8 prog G 66 Hb7:=Qd7 (bd b66 mc4) (two r1P r1B) (o:=ta4) λx y z=>n9 (by kernel_rfl)
noncomputable def ld5:List (Nat×Sum):=[(96,jc0),(93,yc5),(60,Ra7)]
theorem Yc5:j5 prog G ld5:=⟨Xc9,Qc4,Ua0,trivial⟩
noncomputable def wa9(x:Pln)(y:V3):Option (c7×List c8):=let t1:=(Za2 x);let t2:=(Ua7 y);let t3:=(p4 x.n y);(sl (Za3 x) (sl (!t1) (some (i 0,[])) (sl (Ua8 y) (sl (!t2) (some (i 0,[])) (sl (decide ((W (t3-x.b))<0)) (some (i (-1),[])) (sl (decide ((W (t3-x.b))>0)) (some (i 1,[])) (some (i 0,[]))))) none)) none)
noncomputable def mb4(x:Pln)(y:V3):Int:=J0 (one r1I) (wa9 x y)
noncomputable def Nb8(x:Pln)(y:V3):Bool:=okO (one r1I) (wa9 x y)
noncomputable def yc8:Sum:=Y2 (w9 tP) (w9 tV) (λx y=>.guard (Nb8 x y) (.ret ((one r1I).enc (mb4 x y),[])))
theorem ld6:g8 prog G 67 yc8:=Xa3 (bd b67 Yc5) (one r1I) (o:=wa9) λx y=>n9 (by kernel_rfl)
noncomputable def Ja8:List (Nat×Sum):=[(66,Hb7),(67,yc8)]
theorem Yc6:j5 prog G Ja8:=⟨yc7,ld6,trivial⟩
structure ha3 where
 i5:List V3
 (is3 is4 is5:Int)
 bs7:Bool
 (f0 d8 g7 i9:Int)
structure V5 where
 is8:Int
noncomputable def cb6(p:ha3)(s:V5):St:=⟨eL tV p.i5::.unk::.unk::i p.is3::i p.is4::i p.is5::.ptr 0 0 0 0::b p.bs7::i s.is8::ra 48 [],[⟨0,4,[[i p.f0,i p.d8,i p.g7,i p.i9]],true,false,0⟩]⟩
noncomputable def R8{α:Type}(k:V5->α)(e:Nat->α)(z:α)(p:ha3)(s:V5):α:=let t1:=(mb4 (⟨(⟨p.f0,p.d8,p.g7⟩:V3),p.i9⟩:Pln) (gL tV p.i5 s.is8.toNat));(sl (decide (s.is8<(↑(List.length p.i5):Int))) (sl p.bs7 (sl (inB s.is8 (List.length p.i5)) (sl (Nb8 (⟨(⟨p.f0,p.d8,p.g7⟩:V3),p.i9⟩:Pln) (gL tV p.i5 s.is8.toNat)) (sl (t1 != 0) (e 1) (k ⟨W (s.is8+1)⟩)) z) z) (e 2)) (e 3))
noncomputable def w7(p:ha3)(s:V5):Stp V5:=R8 .next .exit .fail p s
noncomputable def mb5:Lo ha3 V5:=⟨En Ja8,0,Ud0,[1,0,1,4,4,1,0,4,1,4,4,1,0,4,1,4,4,1,0,4,1,1,4,4],[0,3,4,5,6,7,8],.p,[⟨sLq tV::sUq::sUq::sIq::sIq::sIq::sPq 0::sBq::sIq::ru2 48 [],[⟨0,4,true,some [kLq 4]⟩],λa H=>(⟨aLq tV a 0,aIq a 3,aIq a 4,aIq a 5,aBq a 7,hIq H 0 0 0,hIq H 0 0 1,hIq H 0 0 2,hIq H 0 0 3⟩,⟨aIq a 8⟩)⟩],w7,[(none,λp s=>⟨[b false],[]⟩),(some 6,λp s=>upq (cb6 p s) [(41,i s.is8),(42,eL tV p.i5),(43,i (↑(List.length p.i5):Int)),(44,b (decide (s.is8<(↑(List.length p.i5):Int)))),(45,b true),(46,b p.bs7),(47,b p.bs7)]),(some 6,λp s=>upq (cb6 p s) [(41,i s.is8),(42,eL tV p.i5),(43,i (↑(List.length p.i5):Int)),(44,b (decide (s.is8<(↑(List.length p.i5):Int)))),(45,b false),(46,u),(47,b false)])],cb6⟩
theorem Hc5:mb5.Ok:=Lo.ok [] (by kernel_rfl) .nil rfl (.cons (λa H=>by kernel_rfl) .nil) λp s=>(.of @R8 (λF _ _ _ _ _=>by unfold R8;(repeat' apply q8 (f:=F))<;>rfl) (by kernel_rfl))
structure Aa4 where
 (is3 is4:Int)
structure V6 where
 i5:List V3
 is5:Int
noncomputable def Hb8(p:Aa4)(s:V6):St:=⟨eL tV s.i5::.unk::.unk::i p.is3::i p.is4::i s.is5::ra 51 [],[]⟩
noncomputable def Z5{α:Type}(k:V6->α)(e:Nat->α)(z:α)(p:Aa4)(s:V6):α:=let t1:=(Ia5 (gL tV s.i5 p.is3.toNat) (gL tV s.i5 p.is4.toNat) (gL tV s.i5 s.is5.toNat));let t2:=(lp (w7 (⟨rt tV s.i5,p.is3,p.is4,s.is5,t1.2,t1.1.n.x,t1.1.n.y,t1.1.n.z,t1.1.b⟩:ha3)) (⟨0⟩:V5));(sl (decide (s.is5<p.is4)) (sl (inB p.is3 (List.length s.i5)) (sl (inB p.is4 (List.length s.i5)) (sl (inB s.is5 (List.length s.i5)) (sl (Ia6 (gL tV s.i5 p.is3.toNat) (gL tV s.i5 p.is4.toNat) (gL tV s.i5 s.is5.toNat)) (sl ((cnE tV s.i5)&&true) (sl (Nat.beq t2.1 1) (e 1) (sl (Nat.beq t2.1 2) (k ⟨rt tV s.i5,W (s.is5+1)⟩) (sl (Nat.beq t2.1 3) (k ⟨rt tV s.i5,W (s.is5+1)⟩) z))) z) z) z) z) z) (e 2))
noncomputable def M4(p:Aa4)(s:V6):Stp V6:=Z5 .next .exit .fail p s
noncomputable def mb6:Lo Aa4 V6:=⟨En Ja8,0,Ud0,[1,0,1,4,4,1,0,4,1,4,4,1,0,4,1,4,4],[0,3,4,5],.s .p (.s (.b (.s .p (.s .p (.b (.u mb5.ls))))) .p),[⟨sLq tV::sUq::sUq::sIq::sIq::sIq::ru2 51 [],[],λa H=>(⟨aIq a 3,aIq a 4⟩,⟨aLq tV a 0,aIq a 5⟩)⟩],M4,[(none,λp s=>⟨[b false],[]⟩),(some 4,λp s=>upq (Hb8 p s) [(20,i s.is5),(21,i p.is4),(22,b (decide (s.is5<p.is4)))])],Hb8⟩
theorem Hc6:mb6.Ok:=Lo.ok [mb5.pr] (by kernel_rfl) (.cons Hc5 .nil) rfl (.cons (λa H=>by kernel_rfl) .nil) λp s=>(.of @Z5 (λF _ _ _ _ _=>by unfold Z5;(repeat' apply q8 (f:=F))<;>rfl) (by kernel_rfl))
structure Aa5 where
 is3:Int
structure V7 where
 i5:List V3
 is4:Int
noncomputable def Hb9(p:Aa5)(s:V7):St:=⟨eL tV s.i5::.unk::.unk::i p.is3::i s.is4::ra 52 [],[]⟩
noncomputable def Z6{α:Type}(k:V7->α)(e:Nat->α)(z:α)(p:Aa5)(s:V7):α:=let t1:=(lp (M4 (⟨p.is3,s.is4⟩:Aa4)) (⟨rt tV s.i5,0⟩:V6));(sl (decide (s.is4<p.is3)) (sl ((cnE tV s.i5)&&true) (sl (Nat.beq t1.1 1) (e 1) (sl (Nat.beq t1.1 2) (k ⟨t1.2.i5,W (s.is4+1)⟩) z)) z) (e 2))
noncomputable def M5(p:Aa5)(s:V7):Stp V7:=Z6 .next .exit .fail p s
noncomputable def mb7:Lo Aa5 V7:=⟨En Ja8,0,Ud0,[1,0,1,4,4,1,0,4,1,4,4],[0,3,4],.s .p (.s (.b (.s .p (.b (.u mb6.ls)))) .p),[⟨sLq tV::sUq::sUq::sIq::sIq::ru2 52 [],[],λa H=>(⟨aIq a 3⟩,⟨aLq tV a 0,aIq a 4⟩)⟩],M5,[(none,λp s=>⟨[b false],[]⟩),(some 2,λp s=>upq (Hb9 p s) [(15,i s.is4),(16,i p.is3),(17,b (decide (s.is4<p.is3)))])],Hb9⟩
theorem Hc7:mb7.Ok:=Lo.ok [mb6.pr] (by kernel_rfl) (.cons Hc6 .nil) rfl (.cons (λa H=>by kernel_rfl) .nil) λp s=>(.of @Z6 (λF _ _ _ _ _=>by unfold Z6;(repeat' apply q8 (f:=F))<;>rfl) (by kernel_rfl))
structure Aa6 where
structure V8 where
 i5:List V3
 is3:Int
noncomputable def Ib0(p:Aa6)(s:V8):St:=⟨eL tV s.i5::.unk::.unk::i s.is3::ra 53 [],[]⟩
noncomputable def Z7{α:Type}(k:V8->α)(e:Nat->α)(z:α)(p:Aa6)(s:V8):α:=let t1:=(lp (M5 (⟨s.is3⟩:Aa5)) (⟨rt tV s.i5,0⟩:V7));(sl (decide (s.is3<(↑(List.length s.i5):Int))) (sl ((cnE tV s.i5)&&true) (sl (Nat.beq t1.1 1) (e 1) (sl (Nat.beq t1.1 2) (k ⟨t1.2.i5,W (s.is3+1)⟩) z)) z) (e 2))
noncomputable def M6(p:Aa6)(s:V8):Stp V8:=Z7 .next .exit .fail p s
noncomputable def mb8:Lo Aa6 V8:=⟨En Ja8,0,Ud0,[1,0,1,4,4],[0,3],.s .p (.s (.b (.s .p (.b (.u mb7.ls)))) .p),[⟨sLq tV::sUq::sUq::sIq::ru2 53 [],[],λa H=>(⟨⟩,⟨aLq tV a 0,aIq a 3⟩)⟩],M6,[(none,λp s=>⟨[b false],[]⟩),(some 0,λp s=>upq (Ib0 p s) [(9,i s.is3),(10,eL tV s.i5),(11,i (↑(List.length s.i5):Int)),(12,b (decide (s.is3<(↑(List.length s.i5):Int))))])],Ib0⟩
theorem Hc8:mb8.Ok:=Lo.ok [mb7.pr] (by kernel_rfl) (.cons Hc7 .nil) rfl (.cons (λa H=>by kernel_rfl) .nil) λp s=>(.of @Z7 (λF _ _ _ _ _=>by unfold Z7;(repeat' apply q8 (f:=F))<;>rfl) (by kernel_rfl))
noncomputable def xa0(x:List V3):Option (c7×List c8):=let t1:=(lp (M6 (⟨⟩:Aa6)) (⟨rt tV x,0⟩:V8));(sl ((cnE tV x)&&true) (sl (Nat.beq t1.1 1) (some (b false,[])) (sl (Nat.beq t1.1 2) (some (b true,[])) none)) none)
noncomputable def Ua9(x:List V3):Bool:=J0 (one r1B) (xa0 x)
noncomputable def Ga2(x:List V3):Bool:=okO (one r1B) (xa0 x)
noncomputable def yc9:Sum:=K2 (La8 tV) (λx=>.guard (Ga2 x) (.ret ((one r1B).enc (Ua9 x),[])))
theorem ld7:g8 prog G 28 yc9:=ta0 (bd b28 Yc6) (one r1B) (o:=xa0) λx=>gb6 (.s .p (.s (.s .p (.b (.u mb8.ls))) .p)) [mb8.pr] (by kernel_rfl) (.cons Hc8 .nil) (by kernel_rfl)
noncomputable def cb7:List (Nat×Sum):=[(25,va5),(28,yc9)]
theorem zc0:j5 prog G cb7:=⟨Ga0,ld7,trivial⟩
structure R9 where
 is4:Int
structure v7 where
 ph:Nat
 is6:Int
 n7:List Int
 d8:Int
 ns5:Nat
 eh1:List (List c7)
noncomputable def hb5(p:R9)(s:v7):St:=⟨ra 3 (.ptr 0 0 0 0::i p.is4::.v (.slice none 0 0)::i s.is6::ra 127 []),[⟨0,2,[[eL tI s.n7,i s.d8]],true,false,0⟩]⟩
noncomputable def hb6(p:R9)(s:v7):St:=⟨ra 3 (.ptr 0 0 0 0::i p.is4::.sl 1 0 s.ns5 0::i s.is6::ra 127 []),[⟨0,2,[[eL tI s.n7,i s.d8]],true,false,0⟩,⟨29,3,s.eh1,true,false,0⟩]⟩
noncomputable def mc5(p:R9)(s:v7):St:=(sel (Nat.beq s.ph 1) (hb6 p s) (hb5 p s))
noncomputable def fa9{α:Type}(k:v7->α)(e:Nat->α)(z:α)(p:R9)(s:v7):α:=let t1:=(o0 ⟨17,rt tI s.n7,s.d8⟩);let t2:=(o0 ⟨17,rt tI (rt tI s.n7),t1.d8⟩);let t3:=(o0 ⟨17,rt tI (rt tI (rt tI s.n7)),t2.d8⟩);let t4:=(o0 ⟨6,rt tI (rt tI (rt tI (rt tI s.n7))),t3.d8⟩);let w0:α:=(sl (t4.is0==3) (sl (decide (s.is6>2)) z (k ⟨1,W (s.is6+1),rt tI (rt tI (rt tI (rt tI s.n7))),t4.d8,1,[[i (W (t1.is0-8)),i (W (t2.is0-8)),i (W (t3.is0-8))]]⟩)) (k ⟨1,W (s.is6+1),rt tI (rt tI (rt tI (rt tI s.n7))),t4.d8,1,[[i (W (t1.is0-8)),i (W (t2.is0-8)),i (W (t3.is0-8))]]⟩));(sl (decide (s.is6<p.is4)) (sl ((cnE tI s.n7)&&true) (sl (Nat.beq t1.alt 1) (sl ((cnE tI (rt tI s.n7))&&true) (sl (Nat.beq t2.alt 1) (sl ((cnE tI (rt tI (rt tI s.n7)))&&true) (sl (Nat.beq t3.alt 1) (sl ((cnE tI (rt tI (rt tI (rt tI s.n7))))&&true) (sl (Nat.beq t4.alt 1) (sl (t4.is0==1) (sl (decide (s.is6>1)) z (sl (t4.is0==2) (sl (decide (s.is6>0)) z w0) w0)) (sl (t4.is0==2) (sl (decide (s.is6>0)) z w0) w0)) z) z) z) z) z) z) z) z) (e 1))
noncomputable def I5{α:Type}(k:v7->α)(e:Nat->α)(z:α)(p:R9)(s:v7):α:=let t1:=(o0 ⟨17,rt tI s.n7,s.d8⟩);let a0:=(i8 s.eh1 (0+(W (s.is6-1)).toNat));let a1:=(Nat.beq s.ns5 (len s.eh1)&&Nat.ble ((s.ns5+1)*24) room);let a3:=(j6 (i8 s.eh1 (0+(W (s.is6-2)).toNat)) 0);let a4:=((Nat.blt (0+(W (s.is6-1)).toNat) (len s.eh1))&&(Nat.ble (2+1) (len a0)));let a5:=(i (W (Int.tdiv (W ((toI (hdA (tlA (j6 a0 0))))+(toI (hdA (tlA a3))))) 2)));let a6:=(i (W (Int.tdiv (W ((toI (hdA (j6 a0 0)))+(toI (hdA a3)))) 2)));let a7:=(app s.eh1 [[a6,a5,i (W (Int.tdiv (W ((toI (hdA (tlA (tlA (j6 a0 0)))))+(toI (hdA (tlA (tlA a3)))))) 2))]]);let a8:=(inB (W (s.is6-1)) s.ns5);let a9:=(i (toI (hdA (tlA (j6 a0 0)))));let a10:=((Nat.blt (0+(W (s.is6-1)).toNat) (len s.eh1))&&(Nat.ble (0+3) (len a0)));let a11:=(i (toI (hdA (j6 a0 0))));let a12:=(app s.eh1 [[a11,a9,i (toI (hdA (tlA (tlA (j6 a0 0)))))]]);let a13:=(i (toI (hdA (j6 a0 2))));let a14:=(rt tI (rt tI s.n7));let t2:=(o0 ⟨17,a14,t1.d8⟩);let t3:=(o0 ⟨17,rt tI a14,t2.d8⟩);let a2:=(rt tI (rt tI a14));let t4:=(o0 ⟨6,a2,t3.d8⟩);let w0:α:=(sl (t4.is0==3) (sl (decide (s.is6>2)) (sl a8 (sl (a4&&(ra5 [CK.int .i64] (j6 a0 2))) (sl a1 (k ⟨1,W (s.is6+1),a2,t4.d8,s.ns5+1,app s.eh1 [[i (W (t1.is0-8)),i (W (t2.is0-8)),a13]]⟩) z) z) z) (sl a1 (k ⟨1,W (s.is6+1),a2,t4.d8,s.ns5+1,app s.eh1 [[i (W (t1.is0-8)),i (W (t2.is0-8)),i (W (t3.is0-8))]]⟩) z)) (sl a1 (k ⟨1,W (s.is6+1),a2,t4.d8,s.ns5+1,app s.eh1 [[i (W (t1.is0-8)),i (W (t2.is0-8)),i (W (t3.is0-8))]]⟩) z));let w1:α:=(sl a8 (sl (a10&&(ra5 [CK.int .i64,CK.int .i64,CK.int .i64] (j6 a0 0))) (sl (t4.is0==3) (sl (decide (s.is6>2)) (sl a8 (sl (a4&&(ra5 [CK.int .i64] (j6 a0 2))) (sl a1 (k ⟨1,W (s.is6+1),a2,t4.d8,s.ns5+1,app s.eh1 [[a11,a9,a13]]⟩) z) z) z) (sl a1 (k ⟨1,W (s.is6+1),a2,t4.d8,s.ns5+1,a12⟩) z)) (sl a1 (k ⟨1,W (s.is6+1),a2,t4.d8,s.ns5+1,a12⟩) z)) z) z);let w2:α:=(sl (t4.is0==3) (sl (decide (s.is6>2)) (sl a8 (sl (a4&&(ra5 [CK.int .i64] (j6 a0 2))) (sl a1 (k ⟨1,W (s.is6+1),a2,t4.d8,s.ns5+1,app s.eh1 [[a6,a5,a13]]⟩) z) z) z) (sl a1 (k ⟨1,W (s.is6+1),a2,t4.d8,s.ns5+1,a7⟩) z)) (sl a1 (k ⟨1,W (s.is6+1),a2,t4.d8,s.ns5+1,a7⟩) z));(sl (decide (s.is6<p.is4)) (sl ((cnE tI s.n7)&&true) (sl (Nat.beq t1.alt 1) (sl ((cnE tI (rt tI s.n7))&&true) (sl (Nat.beq t2.alt 1) (sl ((cnE tI a14)&&true) (sl (Nat.beq t3.alt 1) (sl ((cnE tI (rt tI a14))&&true) (sl (Nat.beq t4.alt 1) (sl (t4.is0==1) (sl (decide (s.is6>1)) (sl a8 (sl (a10&&(ra5 [CK.int .i64,CK.int .i64,CK.int .i64] (j6 a0 0))) (sl (inB (W (s.is6-2)) s.ns5) (sl (((Nat.blt (0+(W (s.is6-2)).toNat) (len s.eh1))&&(Nat.ble (0+3) (len (i8 s.eh1 (0+(W (s.is6-2)).toNat)))))&&(ra5 [CK.int .i64,CK.int .i64,CK.int .i64] a3)) (sl (t4.is0==2) (sl (decide (s.is6>0)) w1 w2) w2) z) z) z) z) (sl (t4.is0==2) (sl (decide (s.is6>0)) w1 w0) w0)) (sl (t4.is0==2) (sl (decide (s.is6>0)) w1 w0) w0)) z) z) z) z) z) z) z) z) (e 2))
noncomputable def va6(p:R9)(s:v7):Stp v7:=(sel (Nat.beq s.ph 1) (I5 .next .exit .fail p s) (fa9 .next .exit .fail p s))
noncomputable def Va0:Lo R9 v7:=⟨En cb7,0,pf6,[1,1,1,1,0,1,4,4],[3,4,5,6],.p,[⟨ru2 3 (sPq 0::sIq::.s (.o .nil)::sIq::ru2 127 []),[⟨0,2,true,some [[.c 1 (nL tI),.o (.int .i64)]]⟩],λa H=>(⟨aIq a 4⟩,⟨0,aIq a 6,hLq tI H 0 0 0,hIq H 0 0 1,0,[]⟩)⟩,⟨ru2 3 (sPq 0::sIq::.s (.o (.sl 1 0 (some 0) none))::sIq::ru2 127 []),[⟨0,2,true,some [[.c 1 (nL tI),.o (.int .i64)]]⟩,⟨29,3,true,none⟩],λa H=>(⟨aIq a 4⟩,⟨1,aIq a 6,hLq tI H 0 0 0,hIq H 0 0 1,slN (slT a 5),elT H 1⟩)⟩],va6,[(some 0,λp s=>upq (hb5 p s) [(18,i s.is6),(19,i p.is4),(20,b (decide (s.is6<p.is4)))]),(some 0,λp s=>upq (hb6 p s) [(18,i s.is6),(19,i p.is4),(20,b (decide (s.is6<p.is4)))])],mc5⟩
theorem mc6:Va0.Ok:=Lo.ok [] (by kernel_rfl) .nil rfl (.cons (λa H=>by kernel_rfl) (.cons (λa H=>by kernel_rfl) .nil)) λp s=>(.sel (Nat.beq s.ph 1) (.of @I5 (λF _ _ _ _ _=>by unfold I5;(repeat' apply q8 (f:=F))<;>rfl) (by kernel_rfl)) (.of @fa9 (λF _ _ _ _ _=>by unfold fa9;(repeat' apply q8 (f:=F))<;>rfl) (by kernel_rfl)))
noncomputable def V9(x:List Int):Option (c7×List c8):=let t1:=(o0 ⟨5,rt tI x,0⟩);let t2:=(lp (va6 (⟨W (4+t1.is0)⟩:R9)) (⟨0,0,rt tI (rt tI x),t1.d8,0,[]⟩:v7));let t3:=(Ua9 []);let t4:=(Ua9 (lsL tV t2.2.ns5 (λk=>i8 t2.2.eh1 (0+k))));let a0:=(j6 (i8 t2.2.eh1 0) 0);let a1:=(i (toI (hdA (tlA (tlA a0)))));let a2:=(i (W ((toI (hdA a0))-3)));let a3:=(setAt t2.2.eh1 1 (C9 (i8 t2.2.eh1 1) 0 [a2,i (toI (hdA (tlA a0))),a1]));let a4:=(i (W ((toI (hdA (tlA a0)))-2)));(sl ((cnE tI x)&&true) (sl (Nat.beq t1.alt 1) (sl ((cnE tI (rt tI x))&&true) (sl (Nat.beq t2.1 1) (sl (Ga2 []) (sl t3 none (some (.v (.slice none 0 0),[]))) none) (sl (Nat.beq t2.1 2) (sl (okL tV t2.2.ns5 (λk=>i8 t2.2.eh1 (0+k))) (sl (Ga2 (lsL tV t2.2.ns5 (λk=>i8 t2.2.eh1 (0+k)))) (sl t4 (sl (inB 0 t2.2.ns5) (sl (((Nat.blt 0 (len t2.2.eh1))&&(Nat.ble (0+3) (len (i8 t2.2.eh1 0))))&&(ra5 [CK.int .i64,CK.int .i64,CK.int .i64] a0)) (sl (inB 1 t2.2.ns5) (sl ((Nat.blt 1 (len t2.2.eh1))&&(Nat.ble (0+3) (len (i8 t2.2.eh1 1)))) (sl (inB 2 t2.2.ns5) (sl ((Nat.blt 2 (len a3))&&(Nat.ble (0+3) (len (i8 a3 2)))) (sl (inB 3 t2.2.ns5) (sl ((Nat.blt 3 (len (setAt a3 2 (C9 (i8 a3 2) 0 [i (toI (hdA a0)),a4,a1]))))&&(Nat.ble (0+3) (len (i8 (setAt a3 2 (C9 (i8 a3 2) 0 [i (toI (hdA a0)),a4,a1])) 3)))) (some (.sl 0 0 t2.2.ns5 0,[⟨29,3,setAt (setAt a3 2 (C9 (i8 a3 2) 0 [i (toI (hdA a0)),a4,a1])) 3 (C9 (i8 (setAt a3 2 (C9 (i8 a3 2) 0 [i (toI (hdA a0)),a4,a1])) 3) 0 [i (toI (hdA a0)),i (toI (hdA (tlA a0))),i (W ((toI (hdA (tlA (tlA a0))))-1))]),true,false,0⟩])) none) none) none) none) none) none) none) none) (some (.sl 0 0 t2.2.ns5 0,[⟨29,3,t2.2.eh1,true,false,0⟩]))) none) none) none)) none) none) none)
noncomputable def R3(x:List Int):List V3:=J0 (one (r1L tV)) (V9 x)
noncomputable def Yc7:List (Nat×Sum):=[]
theorem Hc9:j5 prog G Yc7:=trivial
noncomputable def O5(x:V3)(y:V3):V3:=(⟨W (x.x-y.x),W (x.y-y.y),W (x.z-y.z)⟩:V3)
noncomputable def xa8:Sum:=Y2 (w9 tV) (w9 tV) (λx y=>.ret ((one r1V).enc (O5 x y),[]))
theorem Oa8:g8 prog G 9 xa8:=qa0 (bd b9 Hc9) λx y=>n9 (by kernel_rfl)
noncomputable def Ic0:List (Nat×Sum):=[(9,xa8)]
theorem zc1:j5 prog G Ic0:=⟨Oa8,trivial⟩
noncomputable def qa5(x:Pln):Pln:=let t1:=(O5 (⟨0,0,0⟩:V3) x.n);(⟨t1,W (0-x.b)⟩:Pln)
noncomputable def Ub3:Sum:=K2 (w9 tP) (λx=>.ret ((one r1P).enc (qa5 x),[]))
theorem Ic1:g8 prog G 79 Ub3:=Ia1 (bd b79 zc1) λx=>n9 (by kernel_rfl)
noncomputable def Ic2:List (Nat×Sum):=[(84,La9)]
theorem zc2:j5 prog G Ic2:=⟨gb9,trivial⟩
noncomputable def Aa7(x:V3):Option (c7×List c8):=let t1:=(U6 [x.x,x.y,x.z]);(sl (U7 [x.x,x.y,x.z]) (sl (t1==0) (some (.tup [.agg [i 0,i 0,i 0],i 0],[])) (sl (t1==0) none (sl (t1==0) none (sl (t1==0) none (some (.tup [.agg [i (W (Int.tdiv x.x t1)),i (W (Int.tdiv x.y t1)),i (W (Int.tdiv x.z t1))],i t1],[])))))) none)
noncomputable def ca5(x:V3):V3×Int:=J0 (two r1V r1I) (Aa7 x)
noncomputable def qa6(x:V3):Bool:=okO (two r1V r1I) (Aa7 x)
noncomputable def Ub4:Sum:=K2 (w9 tV) (λx=>.guard (qa6 x) (.ret ((two r1V r1I).enc (ca5 x),[])))
theorem Ib1:g8 prog G 41 Ub4:=ta0 (bd b41 zc2) (two r1V r1I) (o:=Aa7) λx=>n9 (by kernel_rfl)
noncomputable def cc8:List (Nat×Sum):=[(30,mb2),(9,xa8),(53,ta1),(41,Ub4),(10,ga7)]
theorem Ub5:j5 prog G cc8:=⟨Za5,Oa8,Aa1,Ib1,qa3,trivial⟩
noncomputable def ia8(x:V3)(y:V3)(z:V3):Option (c7×List c8):=let t1:=(na1 x);let t2:=(na1 y);let t3:=(na1 z);let t4:=(O5 y x);let t5:=(O5 z x);let t6:=(R2 t4 t5);let t7:=(ca5 t6);let t8:=(r7 t7.1 x);(sl (na2 x) (sl (!t1) (some (.tup [.agg [i 0,i 0,i 0,i 0],b false],[])) (sl (na2 y) (sl (!t2) (some (.tup [.agg [i 0,i 0,i 0,i 0],b false],[])) (sl (na2 z) (sl (!t3) (some (.tup [.agg [i 0,i 0,i 0,i 0],b false],[])) (sl (qa6 t6) (some (.tup [.agg [i t7.1.x,i t7.1.y,i t7.1.z,i t8],b (decide (t7.2>0))],[])) none)) none)) none)) none)
noncomputable def H7(x:V3)(y:V3)(z:V3):Pln×Bool:=J0 (two r1P r1B) (ia8 x y z)
noncomputable def ba4(x:V3)(y:V3)(z:V3):Bool:=okO (two r1P r1B) (ia8 x y z)
noncomputable def Ma1:Sum:=Sb5 (w9 tV) (w9 tV) (w9 tV) (λx y z=>.guard (ba4 x y z) (.ret ((two r1P r1B).enc (H7 x y z),[])))
theorem hb7:g8 prog G 78 Ma1:=Qd7 (bd b78 Ub5) (two r1P r1B) (o:=ia8) λx y z=>n9 (by kernel_rfl)
noncomputable def Ic3:List (Nat×Sum):=[(40,Hb5),(30,mb2),(10,ga7),(83,cb2)]
theorem zc3:j5 prog G Ic3:=⟨wb4,Za5,qa3,wb5,trivial⟩
noncomputable def Aa8(x:Pln)(y:V3):Option (c7×List c8):=let t1:=(Ia3 x);let t2:=(na1 y);let t3:=(r7 x.n y);let t4:=(X6 t3 x.b);(sl (Ia4 x) (sl (!t1) (some (i 0,[])) (sl (na2 y) (sl (!t2) (some (i 0,[])) (sl (X7 t3 x.b) (some (i t4,[])) none)) none)) none)
noncomputable def ha4(x:Pln)(y:V3):Int:=J0 (one r1I) (Aa8 x y)
noncomputable def ha5(x:Pln)(y:V3):Bool:=okO (one r1I) (Aa8 x y)
noncomputable def Oa9:Sum:=Y2 (w9 tP) (w9 tV) (λx y=>.guard (ha5 x y) (.ret ((one r1I).enc (ha4 x y),[])))
theorem cb8:g8 prog G 43 Oa9:=Xa3 (bd b43 zc3) (one r1I) (o:=Aa8) λx y=>n9 (by kernel_rfl)
structure Ia7 where
 (Oa0 Oa1 Oa2 f0 d8 g7 i9:Int)
noncomputable def zc4:List (Nat×Sum):=[(43,Oa9)]
theorem mc7:j5 prog G zc4:=⟨cb8,trivial⟩
structure Ia8 where
 alt:Nat
 bs0:Bool
noncomputable def ja9{α:Type}(kk:Ia8->α)(x:Ia7):α:=let t1:=(ha4 (⟨(⟨x.f0,x.d8,x.g7⟩:V3),x.i9⟩:Pln) (⟨x.Oa0,x.Oa1,x.Oa2⟩:V3));(sl (ha5 (⟨(⟨x.f0,x.d8,x.g7⟩:V3),x.i9⟩:Pln) (⟨x.Oa0,x.Oa1,x.Oa2⟩:V3)) (kk ⟨1,t1 != 0⟩) (kk ⟨0,false⟩))
noncomputable def Ia9(x:Ia7):Ia8:=ja9 (λr=>r) x
noncomputable def Va1(x:Ia7)(r:Ia8):DT (c7×List c8):=(.ite (Nat.beq r.alt 1) (.ret (b r.bs0,[⟨0,4,[[i x.f0,i x.d8,i x.g7,i x.i9]],true,false,0⟩])) .fail)
theorem Ic4{α β:Type}(F:α->β)(kk:Ia8->α)(x:Ia7):F (ja9 kk x)=ja9 (λr=>F (kk r)) x:=by unfold ja9;(repeat' apply q8 (f:=F))<;>rfl
noncomputable def Ib2:Sum:=rb4 ⟨[.agg (kLq 3),sPq 0],[⟨0,4,true,some [kLq 4]⟩],λa H=>(⟨cIq a 0 0,cIq a 0 1,cIq a 0 2,hIq H 0 0 0,hIq H 0 0 1,hIq H 0 0 2,hIq H 0 0 3⟩,())⟩ (λx=>Va1 x (Ia9 x))
theorem zc5:g8 prog G 97 Ib2:=ca1 (enc:=λx=>⟨[.agg [i x.Oa0,i x.Oa1,i x.Oa2],.ptr 0 0 0 0],[⟨0,4,[[i x.f0,i x.d8,i x.g7,i x.i9]],true,false,0⟩]⟩) (λa H=>by kernel_rfl) (bd b97 mc7) λx=>n9 (Qhd (b:=ja9 (λr=>(Va1 x r).run) x) (by kernel_rfl) (Ic4 (λr=>(Va1 x r).run) (λr=>r) x).symm)
structure S7 where
 i5:List V3
 (f0 d8 g7 i9:Int)
noncomputable def ta5:List (Nat×Sum):=[(97,Ib2)]
theorem Xa4:j5 prog G ta5:=⟨zc5,trivial⟩
structure J1 where
 i5:List V3
 (is7 f0 d8 g7 i9:Int)
structure o1 where
 is8:Int
noncomputable def na3(p:J1)(s:o1):St:=⟨eL tV p.i5::.fn 97 [.ptr 0 0 0 0]::ra 5 (i p.is7::i s.is8::ra 10 []),[⟨0,4,[[i p.f0,i p.d8,i p.g7,i p.i9]],true,false,0⟩]⟩
noncomputable def D7{α:Type}(k:o1->α)(e:Nat->α)(z:α)(p:J1)(s:o1):α:=let t1:=(Ia9 ⟨(gL tV p.i5 s.is8.toNat).x,(gL tV p.i5 s.is8.toNat).y,(gL tV p.i5 s.is8.toNat).z,p.f0,p.d8,p.g7,p.i9⟩);(sl (decide (s.is8<p.is7)) (sl (inB s.is8 (List.length p.i5)) (sl (Nat.beq t1.alt 1) (sl t1.bs0 (e 1) (k ⟨W (s.is8+1)⟩)) z) z) (e 2))
noncomputable def F9(p:J1)(s:o1):Stp o1:=D7 .next .exit .fail p s
noncomputable def aa6:Lo J1 o1:=⟨En ta5,1,Ud1,[1,0,1,4,4],[0,1,7,8],.p,[⟨sLq tV::.fn 97 [.o (.ptr 0 0 0 0)]::ru2 5 (sIq::sIq::ru2 10 []),[⟨0,4,true,some [kLq 4]⟩],λa H=>(⟨aLq tV a 0,aIq a 7,hIq H 0 0 0,hIq H 0 0 1,hIq H 0 0 2,hIq H 0 0 3⟩,⟨aIq a 8⟩)⟩],F9,[(none,λp s=>⟨[i s.is8],[⟨0,4,[[i p.f0,i p.d8,i p.g7,i p.i9]],true,false,0⟩]⟩),(some 0,λp s=>upq (na3 p s) [(9,b (decide (s.is8<p.is7)))])],na3⟩
theorem Va2:aa6.Ok:=Lo.ok [] (by kernel_rfl) .nil rfl (.cons (λa H=>by kernel_rfl) .nil) λp s=>(.of @D7 (λF _ _ _ _ _=>by unfold D7;(repeat' apply q8 (f:=F))<;>rfl) (by kernel_rfl))
structure S8 where
 alt:Nat
 is0:Int
noncomputable def E7{α:Type}(kk:S8->α)(x:S7):α:=let t1:=(lp (F9 (⟨rt tV x.i5,(↑(List.length x.i5):Int),x.f0,x.d8,x.g7,x.i9⟩:J1)) (⟨0⟩:o1));(sl ((cnE tV x.i5)&&true) (sl (Nat.beq t1.1 1) (kk ⟨1,t1.2.is8⟩) (sl (Nat.beq t1.1 2) (kk ⟨1,-1⟩) (kk ⟨0,0⟩))) (kk ⟨0,0⟩))
noncomputable def S9(x:S7):S8:=E7 (λr=>r) x
noncomputable def da9(x:S7)(r:S8):DT (c7×List c8):=(.ite (Nat.beq r.alt 1) (.ret (i r.is0,[⟨0,4,[[i x.f0,i x.d8,i x.g7,i x.i9]],true,false,0⟩])) .fail)
theorem hb8{α β:Type}(F:α->β)(kk:S8->α)(x:S7):F (E7 kk x)=E7 (λr=>F (kk r)) x:=by unfold E7;(repeat' apply q8 (f:=F))<;>rfl
noncomputable def xa9:Sum:=rb4 ⟨[sLq tV,.fn 97 [.o (.ptr 0 0 0 0)]],[⟨0,4,true,some [kLq 4]⟩],λa H=>(⟨aLq tV a 0,hIq H 0 0 0,hIq H 0 0 1,hIq H 0 0 2,hIq H 0 0 3⟩,())⟩ (λx=>da9 x (S9 x))
theorem cb9:g8 prog G 87 xa9:=ca1 (enc:=λx=>⟨[eL tV x.i5,.fn 97 [.ptr 0 0 0 0]],[⟨0,4,[[i x.f0,i x.d8,i x.g7,i x.i9]],true,false,0⟩]⟩) (λa H=>by kernel_rfl) (bd b87 Xa4) λx=>gb6 (.s .p (.s (.s .p (.b (.u aa6.ls))) .p)) [aa6.pr] (by kernel_rfl) (.cons Va2 .nil) (Qhd (b:=E7 (λr=>(da9 x r).run) x) (by kernel_rfl) (hb8 (λr=>(da9 x r).run) (λr=>r) x).symm)
structure M8 where
 i5:List V3
 (f0 d8 g7 i9:Int)
noncomputable def Pa0:List (Nat×Sum):=[(87,xa9)]
theorem Ma2:j5 prog G Pa0:=⟨cb9,trivial⟩
structure M9 where
 alt:Nat
 bs0:Bool
noncomputable def z8{α:Type}(kk:M9->α)(x:M8):α:=let t1:=(S9 ⟨rt tV x.i5,x.f0,x.d8,x.g7,x.i9⟩);(sl ((cnE tV x.i5)&&true) (sl (Nat.beq t1.alt 1) (kk ⟨1,decide (t1.is0>=0)⟩) (kk ⟨0,false⟩)) (kk ⟨0,false⟩))
noncomputable def o7(x:M8):M9:=z8 (λr=>r) x
noncomputable def W0(x:M8)(r:M9):DT (c7×List c8):=(.ite (Nat.beq r.alt 1) (.ret (b r.bs0,[⟨0,4,[[i x.f0,i x.d8,i x.g7,i x.i9]],true,false,0⟩])) .fail)
theorem Va3{α β:Type}(F:α->β)(kk:M9->α)(x:M8):F (z8 kk x)=z8 (λr=>F (kk r)) x:=by unfold z8;(repeat' apply q8 (f:=F))<;>rfl
noncomputable def na4:Sum:=rb4 ⟨[sLq tV,.fn 97 [.o (.ptr 0 0 0 0)]],[⟨0,4,true,some [kLq 4]⟩],λa H=>(⟨aLq tV a 0,hIq H 0 0 0,hIq H 0 0 1,hIq H 0 0 2,hIq H 0 0 3⟩,())⟩ (λx=>W0 x (o7 x))
theorem Pa1:g8 prog G 71 na4:=ca1 (enc:=λx=>⟨[eL tV x.i5,.fn 97 [.ptr 0 0 0 0]],[⟨0,4,[[i x.f0,i x.d8,i x.g7,i x.i9]],true,false,0⟩]⟩) (λa H=>by kernel_rfl) (bd b71 Ma2) λx=>n9 (Qhd (b:=z8 (λr=>(W0 x r).run) x) (by kernel_rfl) (Va3 (λr=>(W0 x r).run) (λr=>r) x).symm)
noncomputable def pb9:List (Nat×Sum):=[]
theorem cc9:j5 prog G pb9:=trivial
@[reducible] noncomputable def na5:Sum:=pb2 (En pb9) we3
theorem va7:g8 prog G 36 na5:=bd b36 cc9
noncomputable def Pa2:List (Nat×Sum):=[(78,Ma1),(71,na4),(36,na5)]
theorem Ic5:j5 prog G Pa2:=⟨hb7,Pa1,va7,trivial⟩
structure X8 where
 (is3 is4 is9 A6 fb6 J7 qc8:Int)
 (c9 e8:List V3)
structure H8 where
 B1:Int
noncomputable def wb7(p:X8)(s:H8):St:=⟨.unk::.ptr 0 0 0 0::.unk::i p.is3::i p.is4::ra 4 (i p.is9::i p.A6::ra 5 (i p.fb6::i p.J7::ra 5 (i p.qc8::i s.B1::ra 35 (i 0::.unk::.ptr 1 0 0 0::.ptr 2 0 0 0::ra 8 [])))),[⟨0,1,[[eL tV p.c9]],true,false,0⟩,⟨0,1,[[eL tV p.e8]],true,false,0⟩,⟨0,1,[[b false]],true,false,0⟩]⟩
noncomputable def ia9{α:Type}(k:H8->α)(e:Nat->α)(z:α)(p:X8)(s:H8):α:=let t1:=(H7 (gL tV p.c9 s.B1.toNat) (gL tV p.c9 p.is4.toNat) (gL tV p.c9 p.is3.toNat));let t2:=(o7 ⟨rt tV p.e8,t1.1.n.x,t1.1.n.y,t1.1.n.z,t1.1.b⟩);(sl (decide (s.B1<p.qc8)) (sl (inB s.B1 (List.length p.c9)) (sl (inB p.is4 (List.length p.c9)) (sl (inB p.is3 (List.length p.c9)) (sl (ba4 (gL tV p.c9 s.B1.toNat) (gL tV p.c9 p.is4.toNat) (gL tV p.c9 p.is3.toNat)) (sl t1.2 (sl t1.2 (sl ((cnE tV p.e8)&&true) (sl (Nat.beq t2.alt 1) (e 1) z) z) (k ⟨W (s.B1+1)⟩)) (sl t1.2 z (k ⟨W (s.B1+1)⟩))) z) z) z) z) (e 2))
noncomputable def N0(p:X8)(s:H8):Stp H8:=ia9 .next .exit .fail p s
noncomputable def db0:Lo X8 H8:=⟨En Pa2,0,fe0,[1,0,1,4,4,1,4,4,1,1,0,4,1,1,4,4,1,1,0,4,1,1,4,4],[1,3,4,9,10,16,17,23,24,60,62,63],.p,[⟨sUq::sPq 0::sUq::sIq::sIq::ru2 4 (sIq::sIq::ru2 5 (sIq::sIq::ru2 5 (sIq::sIq::ru2 35 (.s (.o (.lit .i64 0))::sUq::sPq 1::sPq 2::ru2 8 [])))),[⟨0,1,true,some [[.c 3 (nL tV)]]⟩,⟨0,1,true,some [[.c 3 (nL tV)]]⟩,⟨0,1,true,some [[.o (.blit false)]]⟩],λa H=>(⟨aIq a 3,aIq a 4,aIq a 9,aIq a 10,aIq a 16,aIq a 17,aIq a 23,hLq tV H 0 0 0,hLq tV H 1 0 0⟩,⟨aIq a 24⟩)⟩],N0,[(none,λp s=>let t1:=(H7 (gL tV p.c9 s.B1.toNat) (gL tV p.c9 p.is4.toNat) (gL tV p.c9 p.is3.toNat));let t2:=(o7 ⟨rt tV p.e8,t1.1.n.x,t1.1.n.y,t1.1.n.z,t1.1.b⟩);⟨.unk::.ptr 0 0 0 0::.unk::i p.is3::i p.is4::i s.B1::.ptr 3 0 0 0::b t1.2::.unk::i p.is9::i p.A6::ra 5 (i p.fb6::i p.J7::ra 5 (i p.qc8::i s.B1::b (decide (s.B1<p.qc8))::i s.B1::.tup [.agg [i t1.1.n.x,i t1.1.n.y,i t1.1.n.z,i t1.1.b],b t1.2]::eL tV p.c9::i s.B1::.tptr [i (gL tV p.c9 s.B1.toNat).x,i (gL tV p.c9 s.B1.toNat).y,i (gL tV p.c9 s.B1.toNat).z]::.agg [i (gL tV p.c9 s.B1.toNat).x,i (gL tV p.c9 s.B1.toNat).y,i (gL tV p.c9 s.B1.toNat).z]::eL tV p.c9::i p.is4::.tptr [i (gL tV p.c9 p.is4.toNat).x,i (gL tV p.c9 p.is4.toNat).y,i (gL tV p.c9 p.is4.toNat).z]::.agg [i (gL tV p.c9 p.is4.toNat).x,i (gL tV p.c9 p.is4.toNat).y,i (gL tV p.c9 p.is4.toNat).z]::eL tV p.c9::i p.is3::.tptr [i (gL tV p.c9 p.is3.toNat).x,i (gL tV p.c9 p.is3.toNat).y,i (gL tV p.c9 p.is3.toNat).z]::.agg [i (gL tV p.c9 p.is3.toNat).x,i (gL tV p.c9 p.is3.toNat).y,i (gL tV p.c9 p.is3.toNat).z]::.tup [.agg [i t1.1.n.x,i t1.1.n.y,i t1.1.n.z,i t1.1.b],b t1.2]::.agg [i t1.1.n.x,i t1.1.n.y,i t1.1.n.z,i t1.1.b]::b t1.2::b t1.2::b true::.unk::.agg [i t1.1.n.x,i t1.1.n.y,i t1.1.n.z,i t1.1.b]::b false::b true::b true::.unk::u::u::u::u::b true::b true::ra 3 (i 1::.unk::.ptr 1 0 0 0::.ptr 2 0 0 0::ra 8 []))),[⟨0,1,[[eL tV p.c9]],true,false,0⟩,⟨0,1,[[eL tV p.e8]],true,false,0⟩,⟨0,1,[[b (!t2.bs0)]],true,false,0⟩,⟨0,4,[[i t1.1.n.x,i t1.1.n.y,i t1.1.n.z,i t1.1.b]],true,false,0⟩,⟨0,4,[[i t1.1.n.x,i t1.1.n.y,i t1.1.n.z,i t1.1.b]],true,false,0⟩]⟩),(some 4,λp s=>upq (wb7 p s) [(25,b (decide (s.B1<p.qc8)))])],wb7⟩
theorem zc6:db0.OkM:=Lo.okM [] (by kernel_rfl) .nil rfl (.cons (λa H=>by kernel_rfl) .nil) λp s=>(.of @ia9 (λF _ _ _ _ _=>by unfold ia9;(repeat' apply q8 (f:=F))<;>rfl) (by kernel_rfl))
structure ea0 where
 (is3 is9 A6 fb6:Int)
structure K5 where
 J7:Int
 (c9 e8:List V3)
noncomputable def wb8(p:ea0)(s:K5):St:=⟨.unk::.ptr 0 0 0 0::.unk::i p.is3::ra 5 (i p.is9::i p.A6::ra 5 (i p.fb6::i s.J7::ra 42 (i 0::.unk::.ptr 1 0 0 0::.ptr 2 0 0 0::ra 8 []))),[⟨0,1,[[eL tV s.c9]],true,false,0⟩,⟨0,1,[[eL tV s.e8]],true,false,0⟩,⟨0,1,[[b false]],true,false,0⟩]⟩
noncomputable def ja0{α:Type}(k:K5->α)(e:Nat->α)(z:α)(p:ea0)(s:K5):α:=let t1:=(lp (N0 (⟨p.is3,s.J7,p.is9,p.A6,p.fb6,s.J7,(↑(s.J7.toNat-0):Int),rt tV s.c9,rt tV s.e8⟩:X8)) (⟨0⟩:H8));(sl (decide (s.J7<p.fb6)) (sl (inB s.J7 ((List.length s.c9)+1)) (sl ((cnE tV s.c9)&&((cnE tV s.e8)&&true)) (sl (Nat.beq t1.1 1) (e 1) (sl (Nat.beq t1.1 2) (k ⟨W (s.J7+1),rt tV s.c9,rt tV s.e8⟩) z)) z) z) (e 2))
noncomputable def S1(p:ea0)(s:K5):Stp K5:=ja0 .next .exit .fail p s
noncomputable def db1:Lo ea0 K5:=⟨En Pa2,0,fe0,[1,0,1,4,4,1,4,4,1,1,0,4,1,1,4,4],[1,3,9,10,16,17,60,62,63],.s .p (.s .p (.s (.b (.s .p (.s .p (.b (.u db0.lsM))))) .p)),[⟨sUq::sPq 0::sUq::sIq::ru2 5 (sIq::sIq::ru2 5 (sIq::sIq::ru2 42 (.s (.o (.lit .i64 0))::sUq::sPq 1::sPq 2::ru2 8 []))),[⟨0,1,true,some [[.c 3 (nL tV)]]⟩,⟨0,1,true,some [[.c 3 (nL tV)]]⟩,⟨0,1,true,some [[.o (.blit false)]]⟩],λa H=>(⟨aIq a 3,aIq a 9,aIq a 10,aIq a 16⟩,⟨aIq a 17,hLq tV H 0 0 0,hLq tV H 1 0 0⟩)⟩],S1,[(none,λp s=>let t1:=(lp (N0 (⟨p.is3,s.J7,p.is9,p.A6,p.fb6,s.J7,(↑(s.J7.toNat-0):Int),rt tV s.c9,rt tV s.e8⟩:X8)) (⟨0⟩:H8));let t2:=(H7 (gL tV (rt tV s.c9) t1.2.B1.toNat) (gL tV (rt tV s.c9) s.J7.toNat) (gL tV (rt tV s.c9) p.is3.toNat));let t3:=(o7 ⟨rt tV (rt tV s.e8),t2.1.n.x,t2.1.n.y,t2.1.n.z,t2.1.b⟩);⟨.unk::.ptr 0 0 0 0::.unk::i p.is3::i s.J7::i t1.2.B1::.ptr 3 0 0 0::b t2.2::.unk::i p.is9::i p.A6::ra 5 (i p.fb6::i s.J7::ra 5 (i (↑(s.J7.toNat-0):Int)::i t1.2.B1::b (decide (t1.2.B1<(↑(s.J7.toNat-0):Int)))::i t1.2.B1::.tup [.agg [i t2.1.n.x,i t2.1.n.y,i t2.1.n.z,i t2.1.b],b t2.2]::eL tV (rt tV s.c9)::i t1.2.B1::.tptr [i (gL tV (rt tV s.c9) t1.2.B1.toNat).x,i (gL tV (rt tV s.c9) t1.2.B1.toNat).y,i (gL tV (rt tV s.c9) t1.2.B1.toNat).z]::.agg [i (gL tV (rt tV s.c9) t1.2.B1.toNat).x,i (gL tV (rt tV s.c9) t1.2.B1.toNat).y,i (gL tV (rt tV s.c9) t1.2.B1.toNat).z]::eL tV (rt tV s.c9)::i s.J7::.tptr [i (gL tV (rt tV s.c9) s.J7.toNat).x,i (gL tV (rt tV s.c9) s.J7.toNat).y,i (gL tV (rt tV s.c9) s.J7.toNat).z]::.agg [i (gL tV (rt tV s.c9) s.J7.toNat).x,i (gL tV (rt tV s.c9) s.J7.toNat).y,i (gL tV (rt tV s.c9) s.J7.toNat).z]::eL tV (rt tV s.c9)::i p.is3::.tptr [i (gL tV (rt tV s.c9) p.is3.toNat).x,i (gL tV (rt tV s.c9) p.is3.toNat).y,i (gL tV (rt tV s.c9) p.is3.toNat).z]::.agg [i (gL tV (rt tV s.c9) p.is3.toNat).x,i (gL tV (rt tV s.c9) p.is3.toNat).y,i (gL tV (rt tV s.c9) p.is3.toNat).z]::.tup [.agg [i t2.1.n.x,i t2.1.n.y,i t2.1.n.z,i t2.1.b],b t2.2]::.agg [i t2.1.n.x,i t2.1.n.y,i t2.1.n.z,i t2.1.b]::b t2.2::b t2.2::b true::.unk::.agg [i t2.1.n.x,i t2.1.n.y,i t2.1.n.z,i t2.1.b]::b false::b true::b true::.unk::u::u::u::u::b true::b true::ra 3 (i 1::.unk::.ptr 1 0 0 0::.ptr 2 0 0 0::ra 8 []))),[⟨0,1,[[eL tV (rt tV s.c9)]],true,false,0⟩,⟨0,1,[[eL tV (rt tV s.e8)]],true,false,0⟩,⟨0,1,[[b (!t3.bs0)]],true,false,0⟩,⟨0,4,[[i t2.1.n.x,i t2.1.n.y,i t2.1.n.z,i t2.1.b]],true,false,0⟩,⟨0,4,[[i t2.1.n.x,i t2.1.n.y,i t2.1.n.z,i t2.1.b]],true,false,0⟩]⟩),(some 2,λp s=>upq (wb8 p s) [(18,b (decide (s.J7<p.fb6)))])],wb8⟩
theorem zc7:db1.OkM:=Lo.okM [db0.prM] (by kernel_rfl) (.cons zc6 .nil) rfl (.cons (λa H=>by kernel_rfl) .nil) λp s=>(.of @ja0 (λF _ _ _ _ _=>by unfold ja0;(repeat' apply q8 (f:=F))<;>rfl) (by kernel_rfl))
structure ta6 where
 is9:Int
structure R4 where
 A6:Int
 (c9 e8:List V3)
noncomputable def wb9(p:ta6)(s:R4):St:=⟨.unk::.ptr 0 0 0 0::ra 7 (i p.is9::i s.A6::ra 49 (i 0::.unk::.ptr 1 0 0 0::.ptr 2 0 0 0::ra 8 [])),[⟨0,1,[[eL tV s.c9]],true,false,0⟩,⟨0,1,[[eL tV s.e8]],true,false,0⟩,⟨0,1,[[b false]],true,false,0⟩]⟩
noncomputable def ja1{α:Type}(k:R4->α)(e:Nat->α)(z:α)(p:ta6)(s:R4):α:=let t1:=(lp (S1 (⟨s.A6,p.is9,s.A6,(↑(s.A6.toNat-0):Int)⟩:ea0)) (⟨0,rt tV s.c9,rt tV s.e8⟩:K5));(sl (decide (s.A6<p.is9)) (sl (inB s.A6 ((List.length s.c9)+1)) (sl ((cnE tV s.c9)&&((cnE tV s.e8)&&true)) (sl (Nat.beq t1.1 1) (e 1) (sl (Nat.beq t1.1 2) (k ⟨W (s.A6+1),t1.2.c9,t1.2.e8⟩) z)) z) z) (e 2))
noncomputable def ga0(p:ta6)(s:R4):Stp R4:=ja1 .next .exit .fail p s
noncomputable def db2:Lo ta6 R4:=⟨En Pa2,0,fe0,[1,0,1,4,4,1,4,4],[1,9,10,60,62,63],.s .p (.s .p (.s (.b (.s .p (.s .p (.b (.u db1.lsM))))) .p)),[⟨sUq::sPq 0::ru2 7 (sIq::sIq::ru2 49 (.s (.o (.lit .i64 0))::sUq::sPq 1::sPq 2::ru2 8 [])),[⟨0,1,true,some [[.c 3 (nL tV)]]⟩,⟨0,1,true,some [[.c 3 (nL tV)]]⟩,⟨0,1,true,some [[.o (.blit false)]]⟩],λa H=>(⟨aIq a 9⟩,⟨aIq a 10,hLq tV H 0 0 0,hLq tV H 1 0 0⟩)⟩],ga0,[(none,λp s=>let t1:=(lp (S1 (⟨s.A6,p.is9,s.A6,(↑(s.A6.toNat-0):Int)⟩:ea0)) (⟨0,rt tV s.c9,rt tV s.e8⟩:K5));let t2:=(lp (N0 (⟨s.A6,t1.2.J7,p.is9,s.A6,(↑(s.A6.toNat-0):Int),t1.2.J7,(↑(t1.2.J7.toNat-0):Int),rt tV t1.2.c9,rt tV t1.2.e8⟩:X8)) (⟨0⟩:H8));let t3:=(H7 (gL tV (rt tV t1.2.c9) t2.2.B1.toNat) (gL tV (rt tV t1.2.c9) t1.2.J7.toNat) (gL tV (rt tV t1.2.c9) s.A6.toNat));let t4:=(o7 ⟨rt tV (rt tV t1.2.e8),t3.1.n.x,t3.1.n.y,t3.1.n.z,t3.1.b⟩);⟨.unk::.ptr 0 0 0 0::.unk::i s.A6::i t1.2.J7::i t2.2.B1::.ptr 3 0 0 0::b t3.2::.unk::i p.is9::i s.A6::ra 5 (i (↑(s.A6.toNat-0):Int)::i t1.2.J7::ra 5 (i (↑(t1.2.J7.toNat-0):Int)::i t2.2.B1::b (decide (t2.2.B1<(↑(t1.2.J7.toNat-0):Int)))::i t2.2.B1::.tup [.agg [i t3.1.n.x,i t3.1.n.y,i t3.1.n.z,i t3.1.b],b t3.2]::eL tV (rt tV t1.2.c9)::i t2.2.B1::.tptr [i (gL tV (rt tV t1.2.c9) t2.2.B1.toNat).x,i (gL tV (rt tV t1.2.c9) t2.2.B1.toNat).y,i (gL tV (rt tV t1.2.c9) t2.2.B1.toNat).z]::.agg [i (gL tV (rt tV t1.2.c9) t2.2.B1.toNat).x,i (gL tV (rt tV t1.2.c9) t2.2.B1.toNat).y,i (gL tV (rt tV t1.2.c9) t2.2.B1.toNat).z]::eL tV (rt tV t1.2.c9)::i t1.2.J7::.tptr [i (gL tV (rt tV t1.2.c9) t1.2.J7.toNat).x,i (gL tV (rt tV t1.2.c9) t1.2.J7.toNat).y,i (gL tV (rt tV t1.2.c9) t1.2.J7.toNat).z]::.agg [i (gL tV (rt tV t1.2.c9) t1.2.J7.toNat).x,i (gL tV (rt tV t1.2.c9) t1.2.J7.toNat).y,i (gL tV (rt tV t1.2.c9) t1.2.J7.toNat).z]::eL tV (rt tV t1.2.c9)::i s.A6::.tptr [i (gL tV (rt tV t1.2.c9) s.A6.toNat).x,i (gL tV (rt tV t1.2.c9) s.A6.toNat).y,i (gL tV (rt tV t1.2.c9) s.A6.toNat).z]::.agg [i (gL tV (rt tV t1.2.c9) s.A6.toNat).x,i (gL tV (rt tV t1.2.c9) s.A6.toNat).y,i (gL tV (rt tV t1.2.c9) s.A6.toNat).z]::.tup [.agg [i t3.1.n.x,i t3.1.n.y,i t3.1.n.z,i t3.1.b],b t3.2]::.agg [i t3.1.n.x,i t3.1.n.y,i t3.1.n.z,i t3.1.b]::b t3.2::b t3.2::b true::.unk::.agg [i t3.1.n.x,i t3.1.n.y,i t3.1.n.z,i t3.1.b]::b false::b true::b true::.unk::u::u::u::u::b true::b true::ra 3 (i 1::.unk::.ptr 1 0 0 0::.ptr 2 0 0 0::ra 8 []))),[⟨0,1,[[eL tV (rt tV t1.2.c9)]],true,false,0⟩,⟨0,1,[[eL tV (rt tV t1.2.e8)]],true,false,0⟩,⟨0,1,[[b (!t4.bs0)]],true,false,0⟩,⟨0,4,[[i t3.1.n.x,i t3.1.n.y,i t3.1.n.z,i t3.1.b]],true,false,0⟩,⟨0,4,[[i t3.1.n.x,i t3.1.n.y,i t3.1.n.z,i t3.1.b]],true,false,0⟩]⟩),(some 0,λp s=>upq (wb9 p s) [(11,b (decide (s.A6<p.is9)))])],wb9⟩
theorem zc8:db2.OkM:=Lo.okM [db1.prM] (by kernel_rfl) (.cons zc7 .nil) rfl (.cons (λa H=>by kernel_rfl) .nil) λp s=>(.of @ja1 (λF _ _ _ _ _=>by unfold ja1;(repeat' apply q8 (f:=F))<;>rfl) (by kernel_rfl))
noncomputable def Ja9(x:List V3):Option (c7×List c8):=let t1:=(lp (ga0 (⟨(↑(List.length x):Int)⟩:ta6)) (⟨0,rt tV x,rt tV x⟩:R4));let t2:=(lp (S1 (⟨t1.2.A6,(↑(List.length x):Int),t1.2.A6,(↑(t1.2.A6.toNat-0):Int)⟩:ea0)) (⟨0,rt tV t1.2.c9,rt tV t1.2.e8⟩:K5));let t3:=(lp (N0 (⟨t1.2.A6,t2.2.J7,(↑(List.length x):Int),t1.2.A6,(↑(t1.2.A6.toNat-0):Int),t2.2.J7,(↑(t2.2.J7.toNat-0):Int),rt tV t2.2.c9,rt tV t2.2.e8⟩:X8)) (⟨0⟩:H8));let t4:=(H7 (gL tV (rt tV t2.2.c9) t3.2.B1.toNat) (gL tV (rt tV t2.2.c9) t2.2.J7.toNat) (gL tV (rt tV t2.2.c9) t1.2.A6.toNat));let t5:=(o7 ⟨rt tV (rt tV t2.2.e8),t4.1.n.x,t4.1.n.y,t4.1.n.z,t4.1.b⟩);(sl ((cnE tV x)&&((cnE tV x)&&true)) (sl (Nat.beq t1.1 1) (some (b (!t5.bs0),[])) (sl (Nat.beq t1.1 2) (some (b true,[])) none)) none)
noncomputable def Za6(x:List V3):Bool:=J0 (one r1B) (Ja9 x)
noncomputable def Za7(x:List V3):Bool:=okO (one r1B) (Ja9 x)
noncomputable def jc1:Sum:=K2 (La8 tV) (λx=>.guard (Za7 x) (.ret ((one r1B).enc (Za6 x),[])))
theorem Yc8:g8 prog G 72 jc1:=ta0 (bd b72 Ic5) (one r1B) (o:=Ja9) λx=>Cd8 (.s .p (.s (.s .p (.b (.i (.s .p (.b (.u db2.lsM)))))) .p)) [db2.prM] (by kernel_rfl) (.cons zc8 .nil) (by kernel_rfl)
structure va8 where
 (Oa0 Oa1 Oa2 f0 d8 g7 i9:Int)
noncomputable def dc0:List (Nat×Sum):=[(43,Oa9)]
theorem Ub6:j5 prog G dc0:=⟨cb8,trivial⟩
structure va9 where
 alt:Nat
 bs0:Bool
noncomputable def ba5{α:Type}(kk:va9->α)(x:va8):α:=let t1:=(ha4 (⟨(⟨x.f0,x.d8,x.g7⟩:V3),x.i9⟩:Pln) (⟨x.Oa0,x.Oa1,x.Oa2⟩:V3));(sl (ha5 (⟨(⟨x.f0,x.d8,x.g7⟩:V3),x.i9⟩:Pln) (⟨x.Oa0,x.Oa1,x.Oa2⟩:V3)) (kk ⟨1,decide (t1>0)⟩) (kk ⟨0,false⟩))
noncomputable def wa0(x:va8):va9:=ba5 (λr=>r) x
noncomputable def Ga3(x:va8)(r:va9):DT (c7×List c8):=(.ite (Nat.beq r.alt 1) (.ret (b r.bs0,[⟨0,4,[[i x.f0,i x.d8,i x.g7,i x.i9]],true,false,0⟩])) .fail)
theorem mc8{α β:Type}(F:α->β)(kk:va9->α)(x:va8):F (ba5 kk x)=ba5 (λr=>F (kk r)) x:=by unfold ba5;(repeat' apply q8 (f:=F))<;>rfl
noncomputable def qb0:Sum:=rb4 ⟨[.agg (kLq 3),sPq 0],[⟨0,4,true,some [kLq 4]⟩],λa H=>(⟨cIq a 0 0,cIq a 0 1,cIq a 0 2,hIq H 0 0 0,hIq H 0 0 1,hIq H 0 0 2,hIq H 0 0 3⟩,())⟩ (λx=>Ga3 x (wa0 x))
theorem dc1:g8 prog G 80 qb0:=ca1 (enc:=λx=>⟨[.agg [i x.Oa0,i x.Oa1,i x.Oa2],.ptr 0 0 0 0],[⟨0,4,[[i x.f0,i x.d8,i x.g7,i x.i9]],true,false,0⟩]⟩) (λa H=>by kernel_rfl) (bd b80 Ub6) λx=>n9 (Qhd (b:=ba5 (λr=>(Ga3 x r).run) x) (by kernel_rfl) (mc8 (λr=>(Ga3 x r).run) (λr=>r) x).symm)
structure T0 where
 i5:List V3
 (f0 d8 g7 i9:Int)
noncomputable def ta7:List (Nat×Sum):=[(80,qb0)]
theorem Xa5:j5 prog G ta7:=⟨dc1,trivial⟩
structure J2 where
 i5:List V3
 (is7 f0 d8 g7 i9:Int)
structure o2 where
 is8:Int
noncomputable def na6(p:J2)(s:o2):St:=⟨eL tV p.i5::.fn 80 [.ptr 0 0 0 0]::ra 5 (i p.is7::i s.is8::ra 10 []),[⟨0,4,[[i p.f0,i p.d8,i p.g7,i p.i9]],true,false,0⟩]⟩
noncomputable def D8{α:Type}(k:o2->α)(e:Nat->α)(z:α)(p:J2)(s:o2):α:=let t1:=(wa0 ⟨(gL tV p.i5 s.is8.toNat).x,(gL tV p.i5 s.is8.toNat).y,(gL tV p.i5 s.is8.toNat).z,p.f0,p.d8,p.g7,p.i9⟩);(sl (decide (s.is8<p.is7)) (sl (inB s.is8 (List.length p.i5)) (sl (Nat.beq t1.alt 1) (sl t1.bs0 (e 1) (k ⟨W (s.is8+1)⟩)) z) z) (e 2))
noncomputable def G3(p:J2)(s:o2):Stp o2:=D8 .next .exit .fail p s
noncomputable def aa7:Lo J2 o2:=⟨En ta7,1,Ud1,[1,0,1,4,4],[0,1,7,8],.p,[⟨sLq tV::.fn 80 [.o (.ptr 0 0 0 0)]::ru2 5 (sIq::sIq::ru2 10 []),[⟨0,4,true,some [kLq 4]⟩],λa H=>(⟨aLq tV a 0,aIq a 7,hIq H 0 0 0,hIq H 0 0 1,hIq H 0 0 2,hIq H 0 0 3⟩,⟨aIq a 8⟩)⟩],G3,[(none,λp s=>⟨[i s.is8],[⟨0,4,[[i p.f0,i p.d8,i p.g7,i p.i9]],true,false,0⟩]⟩),(some 0,λp s=>upq (na6 p s) [(9,b (decide (s.is8<p.is7)))])],na6⟩
theorem Va4:aa7.Ok:=Lo.ok [] (by kernel_rfl) .nil rfl (.cons (λa H=>by kernel_rfl) .nil) λp s=>(.of @D8 (λF _ _ _ _ _=>by unfold D8;(repeat' apply q8 (f:=F))<;>rfl) (by kernel_rfl))
structure T1 where
 alt:Nat
 is0:Int
noncomputable def E8{α:Type}(kk:T1->α)(x:T0):α:=let t1:=(lp (G3 (⟨rt tV x.i5,(↑(List.length x.i5):Int),x.f0,x.d8,x.g7,x.i9⟩:J2)) (⟨0⟩:o2));(sl ((cnE tV x.i5)&&true) (sl (Nat.beq t1.1 1) (kk ⟨1,t1.2.is8⟩) (sl (Nat.beq t1.1 2) (kk ⟨1,-1⟩) (kk ⟨0,0⟩))) (kk ⟨0,0⟩))
noncomputable def T2(x:T0):T1:=E8 (λr=>r) x
noncomputable def ea1(x:T0)(r:T1):DT (c7×List c8):=(.ite (Nat.beq r.alt 1) (.ret (i r.is0,[⟨0,4,[[i x.f0,i x.d8,i x.g7,i x.i9]],true,false,0⟩])) .fail)
theorem hb9{α β:Type}(F:α->β)(kk:T1->α)(x:T0):F (E8 kk x)=E8 (λr=>F (kk r)) x:=by unfold E8;(repeat' apply q8 (f:=F))<;>rfl
noncomputable def ya0:Sum:=rb4 ⟨[sLq tV,.fn 80 [.o (.ptr 0 0 0 0)]],[⟨0,4,true,some [kLq 4]⟩],λa H=>(⟨aLq tV a 0,hIq H 0 0 0,hIq H 0 0 1,hIq H 0 0 2,hIq H 0 0 3⟩,())⟩ (λx=>ea1 x (T2 x))
theorem db3:g8 prog G 87 ya0:=ca1 (enc:=λx=>⟨[eL tV x.i5,.fn 80 [.ptr 0 0 0 0]],[⟨0,4,[[i x.f0,i x.d8,i x.g7,i x.i9]],true,false,0⟩]⟩) (λa H=>by kernel_rfl) (bd b87 Xa5) λx=>gb6 (.s .p (.s (.s .p (.b (.u aa7.ls))) .p)) [aa7.pr] (by kernel_rfl) (.cons Va4 .nil) (Qhd (b:=E8 (λr=>(ea1 x r).run) x) (by kernel_rfl) (hb9 (λr=>(ea1 x r).run) (λr=>r) x).symm)
structure N1 where
 i5:List V3
 (f0 d8 g7 i9:Int)
noncomputable def Pa3:List (Nat×Sum):=[(87,ya0)]
theorem Ma3:j5 prog G Pa3:=⟨db3,trivial⟩
structure N2 where
 alt:Nat
 bs0:Bool
noncomputable def A0{α:Type}(kk:N2->α)(x:N1):α:=let t1:=(T2 ⟨rt tV x.i5,x.f0,x.d8,x.g7,x.i9⟩);(sl ((cnE tV x.i5)&&true) (sl (Nat.beq t1.alt 1) (kk ⟨1,decide (t1.is0>=0)⟩) (kk ⟨0,false⟩)) (kk ⟨0,false⟩))
noncomputable def N4(x:N1):N2:=A0 (λr=>r) x
noncomputable def W4(x:N1)(r:N2):DT (c7×List c8):=(.ite (Nat.beq r.alt 1) (.ret (b r.bs0,[⟨0,4,[[i x.f0,i x.d8,i x.g7,i x.i9]],true,false,0⟩])) .fail)
theorem Va5{α β:Type}(F:α->β)(kk:N2->α)(x:N1):F (A0 kk x)=A0 (λr=>F (kk r)) x:=by unfold A0;(repeat' apply q8 (f:=F))<;>rfl
noncomputable def na7:Sum:=rb4 ⟨[sLq tV,.fn 80 [.o (.ptr 0 0 0 0)]],[⟨0,4,true,some [kLq 4]⟩],λa H=>(⟨aLq tV a 0,hIq H 0 0 0,hIq H 0 0 1,hIq H 0 0 2,hIq H 0 0 3⟩,())⟩ (λx=>W4 x (N4 x))
theorem Pa4:g8 prog G 71 na7:=ca1 (enc:=λx=>⟨[eL tV x.i5,.fn 80 [.ptr 0 0 0 0]],[⟨0,4,[[i x.f0,i x.d8,i x.g7,i x.i9]],true,false,0⟩]⟩) (λa H=>by kernel_rfl) (bd b71 Ma3) λx=>n9 (Qhd (b:=A0 (λr=>(W4 x r).run) x) (by kernel_rfl) (Va5 (λr=>(W4 x r).run) (λr=>r) x).symm)
noncomputable def zc9:List (Nat×Sum):=[(71,na7)]
theorem mc9:j5 prog G zc9:=⟨Pa4,trivial⟩
noncomputable def ta8(x:List V3)(y:Pln):Option (c7×List c8):=let t1:=(N4 ⟨rt tV x,y.n.x,y.n.y,y.n.z,y.b⟩);(sl ((cnE tV x)&&true) (sl (Nat.beq t1.alt 1) (some (b t1.bs0,[])) none) none)
noncomputable def X9(x:List V3)(y:Pln):Bool:=J0 (one r1B) (ta8 x y)
noncomputable def H9(x:List V3)(y:Pln):Bool:=okO (one r1B) (ta8 x y)
noncomputable def Ib3:Sum:=Y2 (La8 tV) (w9 tP) (λx y=>.guard (H9 x y) (.ret ((one r1B).enc (X9 x y),[])))
theorem Ac0:g8 prog G 37 Ib3:=Xa3 (bd b37 mc9) (one r1B) (o:=ta8) λx y=>n9 (by kernel_rfl)
noncomputable def nc0:List (Nat×Sum):=[(30,mb2)]
theorem dc2:j5 prog G nc0:=⟨Za5,trivial⟩
noncomputable def na8(x:V3):Option (c7×List c8):=let t1:=(na1 x);(sl (na2 x) (some (b (!t1),[])) none)
noncomputable def Aa9(x:V3):Bool:=J0 (one r1B) (na8 x)
noncomputable def Ba0(x:V3):Bool:=okO (one r1B) (na8 x)
noncomputable def xb0:Sum:=K2 (w9 tV) (λx=>.guard (Ba0 x) (.ret ((one r1B).enc (Aa9 x),[])))
theorem nc1:g8 prog G 70 xb0:=ta0 (bd b70 dc2) (one r1B) (o:=na8) λx=>n9 (by kernel_rfl)
structure T3 where
 i5:List V3
noncomputable def ta9:List (Nat×Sum):=[(70,xb0)]
theorem Xa6:j5 prog G ta9:=⟨nc1,trivial⟩
structure J3 where
 i5:List V3
 is7:Int
structure o3 where
 is8:Int
noncomputable def na9(p:J3)(s:o3):St:=⟨eL tV p.i5::.fn 70 []::ra 5 (i p.is7::i s.is8::ra 10 []),[]⟩
noncomputable def D9{α:Type}(k:o3->α)(e:Nat->α)(z:α)(p:J3)(s:o3):α:=let t1:=(Aa9 (gL tV p.i5 s.is8.toNat));(sl (decide (s.is8<p.is7)) (sl (inB s.is8 (List.length p.i5)) (sl (Ba0 (gL tV p.i5 s.is8.toNat)) (sl t1 (e 1) (k ⟨W (s.is8+1)⟩)) z) z) (e 2))
noncomputable def G4(p:J3)(s:o3):Stp o3:=D9 .next .exit .fail p s
noncomputable def aa8:Lo J3 o3:=⟨En ta9,0,Ud1,[1,0,1,4,4],[0,1,7,8],.p,[⟨sLq tV::.s (.o (.fn 70))::ru2 5 (sIq::sIq::ru2 10 []),[],λa H=>(⟨aLq tV a 0,aIq a 7⟩,⟨aIq a 8⟩)⟩],G4,[(none,λp s=>⟨[i s.is8],[]⟩),(some 0,λp s=>upq (na9 p s) [(9,b (decide (s.is8<p.is7)))])],na9⟩
theorem Va6:aa8.Ok:=Lo.ok [] (by kernel_rfl) .nil rfl (.cons (λa H=>by kernel_rfl) .nil) λp s=>(.of @D9 (λF _ _ _ _ _=>by unfold D9;(repeat' apply q8 (f:=F))<;>rfl) (by kernel_rfl))
structure T4 where
 alt:Nat
 is0:Int
noncomputable def E9{α:Type}(kk:T4->α)(x:T3):α:=let t1:=(lp (G4 (⟨rt tV x.i5,(↑(List.length x.i5):Int)⟩:J3)) (⟨0⟩:o3));(sl ((cnE tV x.i5)&&true) (sl (Nat.beq t1.1 1) (kk ⟨1,t1.2.is8⟩) (sl (Nat.beq t1.1 2) (kk ⟨1,-1⟩) (kk ⟨0,0⟩))) (kk ⟨0,0⟩))
noncomputable def T5(x:T3):T4:=E9 (λr=>r) x
noncomputable def ea2(x:T3)(r:T4):DT (c7×List c8):=(.ite (Nat.beq r.alt 1) (.ret (i r.is0,[])) .fail)
theorem ib0{α β:Type}(F:α->β)(kk:T4->α)(x:T3):F (E9 kk x)=E9 (λr=>F (kk r)) x:=by unfold E9;(repeat' apply q8 (f:=F))<;>rfl
noncomputable def ya1:Sum:=rb4 ⟨[sLq tV,.s (.o (.fn 70))],[],λa H=>(⟨aLq tV a 0⟩,())⟩ (λx=>ea2 x (T5 x))
theorem db4:g8 prog G 87 ya1:=ca1 (enc:=λx=>⟨[eL tV x.i5,.fn 70 []],[]⟩) (λa H=>by kernel_rfl) (bd b87 Xa6) λx=>gb6 (.s .p (.s (.s .p (.b (.u aa8.ls))) .p)) [aa8.pr] (by kernel_rfl) (.cons Va6 .nil) (Qhd (b:=E9 (λr=>(ea2 x r).run) x) (by kernel_rfl) (ib0 (λr=>(ea2 x r).run) (λr=>r) x).symm)
structure N5 where
 i5:List V3
noncomputable def Pa5:List (Nat×Sum):=[(87,ya1)]
theorem Ma4:j5 prog G Pa5:=⟨db4,trivial⟩
structure N6 where
 alt:Nat
 bs0:Bool
noncomputable def A1{α:Type}(kk:N6->α)(x:N5):α:=let t1:=(T5 ⟨rt tV x.i5⟩);(sl ((cnE tV x.i5)&&true) (sl (Nat.beq t1.alt 1) (kk ⟨1,decide (t1.is0>=0)⟩) (kk ⟨0,false⟩)) (kk ⟨0,false⟩))
noncomputable def N7(x:N5):N6:=A1 (λr=>r) x
noncomputable def W5(x:N5)(r:N6):DT (c7×List c8):=(.ite (Nat.beq r.alt 1) (.ret (b r.bs0,[])) .fail)
theorem Va7{α β:Type}(F:α->β)(kk:N6->α)(x:N5):F (A1 kk x)=A1 (λr=>F (kk r)) x:=by unfold A1;(repeat' apply q8 (f:=F))<;>rfl
noncomputable def oa0:Sum:=rb4 ⟨[sLq tV,.s (.o (.fn 70))],[],λa H=>(⟨aLq tV a 0⟩,())⟩ (λx=>W5 x (N7 x))
theorem Pa6:g8 prog G 71 oa0:=ca1 (enc:=λx=>⟨[eL tV x.i5,.fn 70 []],[]⟩) (λa H=>by kernel_rfl) (bd b71 Ma4) λx=>n9 (Qhd (b:=A1 (λr=>(W5 x r).run) x) (by kernel_rfl) (Va7 (λr=>(W5 x r).run) (λr=>r) x).symm)
noncomputable def Ic6:List (Nat×Sum):=[(71,oa0),(72,jc1)]
theorem Ac1:j5 prog G Ic6:=⟨Pa6,Yc8,trivial⟩
noncomputable def Ba1(x:List V3):Option (c7×List c8):=let t1:=(N7 ⟨rt tV x⟩);let t2:=(Za6 (rt tV x));(sl (decide ((↑(List.length x):Int)>48)) (some (i 2,[])) (sl ((cnE tV x)&&true) (sl (Nat.beq t1.alt 1) (sl t1.bs0 (some (i 3,[])) (sl (okE tV x) (sl (Za7 (rt tV x)) (sl t2 (some (i 11,[])) (some (i 0,[]))) none) none)) none) none))
noncomputable def Ba2(x:List V3):Int:=J0 (one r1I) (Ba1 x)
noncomputable def Ba3(x:List V3):Bool:=okO (one r1I) (Ba1 x)
noncomputable def mb9:Sum:=K2 (La8 tV) (λx=>.guard (Ba3 x) (.ret ((one r1I).enc (Ba2 x),[])))
theorem Ib4:g8 prog G 34 mb9:=ta0 (bd b34 Ac1) (one r1I) (o:=Ba1) λx=>n9 (by kernel_rfl)
noncomputable def dc3:List (Nat×Sum):=[]
theorem Ub7:j5 prog G dc3:=trivial
noncomputable def wa1(x:Int):Bool:=(x != x)
noncomputable def qb1:Sum:=K2 cI (λx=>.ret ((one r1B).enc (wa1 x),[]))
theorem dc4:g8 prog G 123 qb1:=Ia1 (bd Ie9 Ub7) λx=>n9 (by kernel_rfl)
noncomputable def Nb9:List (Nat×Sum):=[(123,qb1)]
theorem Fb6:j5 prog G Nb9:=⟨dc4,trivial⟩
noncomputable def ca6(x:Int)(y:Int):Option (c7×List c8):=let t1:=(wa1 x);let t2:=(wa1 y);(sl t1 (sl t2 (some (i 0,[])) (some (i (-1),[]))) (sl t2 (some (i 1,[])) (sl (decide (x<y)) (some (i (-1),[])) (sl (decide (x>y)) (some (i 1,[])) (some (i 0,[]))))))
noncomputable def T6(x:Int)(y:Int):Int:=J0 (one r1I) (ca6 x y)
noncomputable def T7(x:Int)(y:Int):Bool:=okO (one r1I) (ca6 x y)
noncomputable def Za8:Sum:=Y2 cI cI (λx y=>.guard (T7 x y) (.ret ((one r1I).enc (T6 x y),[])))
theorem Ob0:g8 prog G 100 Za8:=Xa3 (bd Ie4 Fb6) (one r1I) (o:=ca6) λx y=>n9 (by kernel_rfl)
noncomputable def Ib5:List (Nat×Sum):=[]
theorem Ac2:j5 prog G Ib5:=trivial
structure oa1 where
 bb3:List Int
 is7:Int
structure K6 where
 is8:Int
noncomputable def qb2(p:oa1)(s:K6):St:=⟨ra 3 (i 0::.unk::.unk::eL tI p.bb3::i p.is7::i s.is8::ra 9 []),[]⟩
noncomputable def Ga4{α:Type}(k:K6->α)(e:Nat->α)(z:α)(p:oa1)(s:K6):α:=(sl (decide (s.is8<p.is7)) (sl (inB s.is8 (List.length p.bb3)) (sl ((gL tI p.bb3 s.is8.toNat) != 0) (e 1) (k ⟨W (s.is8+1)⟩)) z) (e 2))
noncomputable def U8(p:oa1)(s:K6):Stp K6:=Ga4 .next .exit .fail p s
noncomputable def Va8:Lo oa1 K6:=⟨En Ib5,0,xe3,[1,1,0,1,4,4],[3,6,7,8],.p,[⟨ru2 3 (.s (.o (.lit .i64 0))::sUq::sUq::sLq tI::sIq::sIq::ru2 9 []),[],λa H=>(⟨aLq tI a 6,aIq a 7⟩,⟨aIq a 8⟩)⟩],U8,[(none,λp s=>⟨[i (gL tI p.bb3 s.is8.toNat)],[]⟩),(some 0,λp s=>upq (qb2 p s) [(9,b (decide (s.is8<p.is7)))])],qb2⟩
theorem nc2:Va8.Ok:=Lo.ok [] (by kernel_rfl) .nil rfl (.cons (λa H=>by kernel_rfl) .nil) λp s=>(.of @Ga4 (λF _ _ _ _ _=>by unfold Ga4;(repeat' apply q8 (f:=F))<;>rfl) (by kernel_rfl))
noncomputable def Ba4(x:List Int):Option (c7×List c8):=let t1:=(lp (U8 (⟨rt tI x,(↑(List.length x):Int)⟩:oa1)) (⟨0⟩:K6));(sl ((cnE tI x)&&true) (sl (Nat.beq t1.1 1) (some (i (gL tI (rt tI x) t1.2.is8.toNat),[])) (sl (Nat.beq t1.1 2) (some (i 0,[])) none)) none)
noncomputable def Pa7(x:List Int):Int:=J0 (one r1I) (Ba4 x)
noncomputable def Pa8(x:List Int):Bool:=okO (one r1I) (Ba4 x)
noncomputable def Ub8:Sum:=K2 (La8 tI) (λx=>.guard (Pa8 x) (.ret ((one r1I).enc (Pa7 x),[])))
theorem Ic7:g8 prog G 99 Ub8:=ta0 (bd b99 Ac2) (one r1I) (o:=Ba4) λx=>gb6 (.s .p (.s .p (.s (.s .p (.b (.u Va8.ls))) .p))) [Va8.pr] (by kernel_rfl) (.cons nc2 .nil) (by kernel_rfl)
noncomputable def nc3:List (Nat×Sum):=[(100,Za8),(99,Ub8)]
theorem dc5:j5 prog G nc3:=⟨Ob0,Ic7,trivial⟩
noncomputable def oa2(x:V3)(y:V3):Option (c7×List c8):=let t1:=(T6 x.x y.x);let t2:=(T6 x.y y.y);let t3:=(T6 x.z y.z);let t4:=(Pa7 [t1,t2,t3]);(sl (T7 x.x y.x) (sl (T7 x.y y.y) (sl (T7 x.z y.z) (sl (Pa8 [t1,t2,t3]) (some (i t4,[])) none) none) none) none)
noncomputable def Ba5(x:V3)(y:V3):Int:=J0 (one r1I) (oa2 x y)
noncomputable def Ba6(x:V3)(y:V3):Bool:=okO (one r1I) (oa2 x y)
noncomputable def Va9:Sum:=Y2 (w9 tV) (w9 tV) (λx y=>.guard (Ba6 x y) (.ret ((one r1I).enc (Ba5 x y),[])))
theorem nc4:g8 prog G 75 Va9:=Xa3 (bd b75 dc5) (one r1I) (o:=oa2) λx y=>n9 (by kernel_rfl)
end Go.Ev.Ce
namespace Go.Ev.L
open Go Go.Ev
theorem fe1(n:Int):W n=(n+9223372036854775808) % 18446744073709551616-9223372036854775808:=IntKind.wrap_i64 n
theorem aa4{n:Int}(h1:-9223372036854775808<=n)(h2:n<=9223372036854775807):W n=n:=by rw[fe1];omega
theorem Dd1(n:Int):∃k,W n=n+18446744073709551616*k:=⟨-((n+9223372036854775808) / 18446744073709551616),by rw[fe1];omega⟩
theorem Db9(n k:Int):W (n+18446744073709551616*k)=W n:=by rw[fe1,fe1];omega
theorem Wa0(a b:Int):W (W a+b)=W (a+b):=by
 obtain⟨k,hk⟩:=Dd1 a;rw[hk,show a+18446744073709551616*k+b=a+b+18446744073709551616*k by omega,Db9]
theorem xb1(a b:Int):W (a+W b)=W (a+b):=by rw[Int.add_comm,Wa0,Int.add_comm]
theorem xd3(a b:Int):W (W a-b)=W (a-b):=by
 obtain⟨k,hk⟩:=Dd1 a;rw[hk,show a+18446744073709551616*k-b=a-b+18446744073709551616*k by omega,Db9]
theorem Ud3(a b:Int):W (a-W b)=W (a-b):=by
 obtain⟨k,hk⟩:=Dd1 b;rw[hk,show a-(b+18446744073709551616*k)=a-b+18446744073709551616*(-k) by omega,Db9]
theorem pe7(a b:Int):W (W a*b)=W (a*b):=by
 obtain⟨k,hk⟩:=Dd1 a;rw[hk,show (a+18446744073709551616*k)*b=a*b+18446744073709551616*(k*b) by grind,Db9]
theorem E6{j n:Nat}(h:j<n)(hn:n<=4611686018427387904):W ((j:Int)+1)=((j+1:Nat):Int):=by
 rw[aa4 (by omega) (by omega)];omega
theorem Ac3{j n:Nat}(h:j<n):decide ((j:Int)<(n:Int))=true:=decide_eq_true (by omega)
theorem Ub9{j n:Nat}(h:¬ j<n):decide ((j:Int)<(n:Int))=false:=decide_eq_false (by omega)
theorem j9{j n:Nat}(h:j<n):inB (j:Int) n=true:=by
 show Nat.blt j n=true;rw[Nat.blt_eq];exact h
theorem fe2(m:Int)(n:Nat):inB m n=decide (0<=m/\m<n):=by
 unfold inB;cases m with
 |ofNat k =>
  rw[Bool.eq_iff_iff,decide_eq_true_eq];show Nat.blt k n=true↔_;rw[Nat.blt_eq];constructor
  ·intro h;exact⟨Int.natCast_nonneg k,Int.ofNat_lt.2 h⟩
  ·intro h;exact Int.ofNat_lt.1 h.2
 |negSucc k=>exact (decide_eq_false (λh=>by omega)).symm
theorem bt{c:Bool}(h:c=true){α:Type}(t e:α):sl c t e=t:=by rw[h];rfl
theorem bf{c:Bool}(h:c=false){α:Type}(t e:α):sl c t e=e:=by rw[h];rfl
theorem fe3{n:Nat}(h:n<=1000000000000):Nat.ble (n*32) room=true:=by
 rw[Nat.ble_eq];unfold room;omega
theorem Ud4 {σ : Type} {step : σ → Stp σ} {I : Nat → σ → Prop} {Q : Nat → σ → Prop} (h : ∀ m s, I m s → (∃ t, step s = .exit t ∧ Q t s) ∨ ∃ s' m', m = m' + 1 ∧ step s = .next s' ∧ I m' s') :
  ∀(m n:Nat) (s:σ),m<=n->I m s->Q (lp0 step n s).1 (lp0 step n s).2
 |m,n,s,hn,hi=>by
  rcases h m s hi with⟨t,h1,h2⟩|⟨s',m',rfl,h1,h2⟩
  ·rw[wc3 h1];exact h2
  ·cases n with
   |zero=>omega
   |succ n =>
    rw[hd6 h1];exact Ud4 h m' n s' (by omega) h2
theorem dc6 {σ : Type} {step : σ → Stp σ} {I : Nat → σ → Prop} {Q : Nat → σ → Prop} (h : ∀ m s, I m s → (∃ t, step s = .exit t ∧ Q t s) ∨ ∃ s' m', m = m' + 1 ∧ step s = .next s' ∧ I m' s')
  (m:Nat) (s:σ) (hm:m<=18446744073709551615) (hi:I m s):Q (lp step s).1 (lp step s).2:=by
 rw[Qd2];exact Ud4 h m rounds s (by unfold rounds;omega) hi
section
variable{σ τ α:Type}{step:σ->Stp σ}
theorem fe4 {mk : Nat → τ → σ} {f : τ → α → τ} {fin : Nat} (t : Ty α) (l : List α) (I : Nat → τ → Prop) (hl : l.length ≤ 1000000000)
  (h:∀j a,j<l.length->I j a->step (mk j a)=.next (mk (j+1) (f a (gL t l j)))/\I (j+1) (f a (gL t l j)))
  (hf:∀a,I l.length a->step (mk l.length a)=.exit fin) (j0:Nat) (hj:j0<=l.length) (a:τ) (hi:I j0 a) :
  lp step (mk j0 a)=(fin,mk l.length ((l.drop j0).foldl f a))/\I l.length ((l.drop j0).foldl f a):=by
 have key:=dc6 (step:=step) (I:=λm s=>∃j b,m=l.length-j/\j<=l.length/\s=mk j b/\I j b/\(l.drop j).foldl f b=(l.drop j0).foldl f a)
  (Q:=λu s=>u=fin/\s=mk l.length ((l.drop j0).foldl f a)/\I l.length ((l.drop j0).foldl f a)) (λm s ⟨j,b,hm,hj,hs,hb,he⟩=>by
   subst hs;by_cases hlt:j<l.length
   ·obtain⟨h1,h2⟩:=h j b hlt hb;refine .inr ⟨_,l.length-(j+1),by omega,h1,j+1,_,rfl,by omega,rfl,h2,?_⟩
    rw[<- he,Qhc hlt,List.foldl_cons];simp[gL,Qha,Qhb hlt]
   ·have:j=l.length:=by omega
    subst this;have he:b=(l.drop j0).foldl f a:=by rw[<- he];simp
    subst he;exact .inl ⟨fin,hf _ hb,rfl,rfl,hb⟩) (l.length-j0) (mk j0 a) (by omega) ⟨j0,a,rfl,hj,rfl,hi,rfl⟩
 exact⟨by rw[<- key.2.1,<- key.1],key.2.2⟩
theorem xd4 {mk : Nat → σ} {c : α → Bool} {u fin : Nat} (t : Ty α) (l : List α) (hl : l.length ≤ 1000000000)
  (h:∀j,j<l.length->step (mk j)=sl (c (gL t l j)) (.exit u) (.next (mk (j+1)))) (hf:step (mk l.length)=.exit fin) (j0:Nat) (hj:j0<=l.length) :
  (lp step (mk j0)).1=if (l.drop j0).any c then u else fin :=
 dc6 (step:=step) (I:=λm s=>∃j,m=l.length-j/\j<=l.length/\s=mk j/\(l.drop j).any c=(l.drop j0).any c)
  (Q:=λv _=>v=if (l.drop j0).any c then u else fin) (λm s ⟨j,hm,hj,hs,he⟩=>by
   subst hs;by_cases hlt:j<l.length
   ·have h1:=h j hlt;have e:gL t l j=l[j]:=by simp[gL,Qha,Qhb hlt]
    have e2:(l.drop j).any c=(c l[j]||(l.drop (j+1)).any c):=by rw[Qhc hlt,List.any_cons]
    rw[e] at h1;cases hc:c l[j] with
    |true =>
     rw[hc] at h1;refine .inl ⟨u,h1,?_⟩;rw[<- he,e2,hc];rfl
    |false =>
     rw[hc] at h1;refine .inr ⟨_,l.length-(j+1),by omega,h1,j+1,rfl,by omega,rfl,?_⟩
     rw[<- he,e2,hc];rfl
   ·have:j=l.length:=by omega
    subst this;refine .inl ⟨fin,hf,?_⟩;rw[<- he];simp) (l.length-j0) (mk j0) (by omega) ⟨j0,rfl,hj,rfl,rfl⟩
theorem Pa9 {mk : Nat → σ} {c : α → Bool} {u fin : Nat} (t : Ty α) (l : List α) (hl : l.length ≤ 1000000000)
  (h:∀j,j<l.length->step (mk j)=sl (c (gL t l j)) (.exit u) (.next (mk (j+1)))) (hf:step (mk l.length)=.exit fin) (j0:Nat) (hj:j0<=l.length) :
  lp step (mk j0)=if (l.drop j0).any c then (u,mk (j0+(l.drop j0).findIdx c)) else (fin,mk l.length):=by
 have key:=dc6 (step:=step) (I:=λm s=>∃j,m=l.length-j/\j<=l.length/\j0<=j/\s=mk j/\(l.drop j).any c=(l.drop j0).any c/\j+(l.drop j).findIdx c=j0+(l.drop j0).findIdx c)
  (Q:=λv s=>(v,s)=if (l.drop j0).any c then (u,mk (j0+(l.drop j0).findIdx c)) else (fin,mk l.length)) (λm s ⟨j,hm,hj,hj0,hs,he,hi⟩=>by
   subst hs;by_cases hlt:j<l.length
   ·have h1:=h j hlt;have e:gL t l j=l[j]:=by simp[gL,Qha,Qhb hlt]
    have e2:(l.drop j).any c=(c l[j]||(l.drop (j+1)).any c):=by rw[Qhc hlt,List.any_cons]
    have e3:(l.drop j).findIdx c=if c l[j] then 0 else (l.drop (j+1)).findIdx c+1:=by rw[Qhc hlt,List.findIdx_cons];cases c l[j]<;>rfl
    rw[e] at h1;cases hc:c l[j] with
    |true =>
     rw[hc] at h1;refine .inl ⟨u,h1,?_⟩;rw[<- he,e2,hc,<- hi,e3,hc];rfl
    |false =>
     rw[hc] at h1;refine .inr ⟨_,l.length-(j+1),by omega,h1,j+1,rfl,by omega,by omega,rfl,?_,?_⟩
     ·rw[<- he,e2,hc];rfl
     ·rw[<- hi,e3,hc];simp only[Qhg,if_false];omega
   ·have:j=l.length:=by omega
    subst this;refine .inl ⟨fin,hf,?_⟩;rw[<- he];simp) (l.length-j0) (mk j0) (by omega) ⟨j0,rfl,hj,Qhe _,rfl,rfl,rfl⟩
 exact key
end
theorem Ma5{α:Type}(t:Ty α){l:List α}{j:Nat}(h:j<l.length):gL t l j∈l:=by
 simp[gL,Qha,Qhb h]
theorem Za9{α:Type}(t:Ty α){l:List α}{j:Nat}(h:j<l.length):gL t l j=l[j]:=by
 simp[gL,Qha,Qhb h]
def euF:Nat->Int->Int->Int
 |0,g,_=>g
 |k+1,g,n=>if n=0 then g else euF k n (Int.tmod g n)
def eu(g n:Int):Int:=euF (n.natAbs+1) g n
theorem Ra6{g n:Int}(h:n≠0):(Int.tmod g n).natAbs<n.natAbs:=by
 rw[Int.natAbs_tmod];exact Nat.mod_lt _ (by omega)
theorem ld8:∀(k m:Nat) {g n:Int},n.natAbs<k->n.natAbs<m->euF k g n=euF m g n
 |0,_,_,_,h,_=>by omega
 |_+1,0,_,_,_,h=>by omega
 |k+1,m+1,g,n,h1,h2=>by
  unfold euF;by_cases h:n=0
  ·rw[if_pos h,if_pos h]
  ·rw[if_neg h,if_neg h]
   have:=Ra6 (g:=g) h
   exact ld8 k m (by omega) (by omega)
theorem Vb0(g:Int):eu g 0=g:=by simp[eu,euF]
theorem Yc9{g n:Int}(h:n≠0):eu g n=eu n (Int.tmod g n):=by
 have:=Ra6 (g:=g) h
 unfold eu
 conv=>lhs;unfold euF
 rw[if_neg h];exact ld8 _ _ (by omega) (by omega)
theorem pe8:∀(k:Nat) (g n:Int),n.natAbs<=k->(eu g n).natAbs=Int.gcd g n:=by
 intro k
 induction k with
 |zero =>
  intro g n h
  have:n=0:=by omega
  subst this;rw[Vb0];simp
 |succ k ih =>
  intro g n h;by_cases h0:n=0
  ·subst h0;rw[Vb0];simp
  ·have:=Ra6 (g:=g) h0
   rw[Yc9 h0,ih n (Int.tmod g n) (by omega)]
   unfold Int.gcd;rw[Int.natAbs_tmod,Nat.gcd_comm g.natAbs,Nat.gcd_comm n.natAbs,<- Nat.gcd_rec]
theorem pe9(g n:Int):(eu g n).natAbs=Int.gcd g n:=pe8 _ g n (Qhe _)
theorem Ld3:∀(k:Nat) (g n:Int),n.natAbs<=k->0<=g->0<=n->0<=eu g n:=by
 intro k
 induction k with
 |zero =>
  intro g n h hg _
  have:n=0:=by omega
  subst this;rw[Vb0];exact hg
 |succ k ih =>
  intro g n h hg hn;by_cases h0:n=0
  ·subst h0;rw[Vb0];exact hg
  ·have:=Ra6 (g:=g) h0
   rw[Yc9 h0];exact ih n _ (by omega) hn (Int.tmod_nonneg _ hg)
theorem qe0{g n:Int}(hg:0<=g)(hn:0<=n):eu g n=(Int.gcd g n:Int):=by
 have h1:=Ld3 _ g n (Qhe _) hg hn;have h2:=pe9 g n;omega
section
variable{σ:Type}{step:σ->Stp σ}{mk:Int->Int->σ}
theorem ab0(h:∀g n,0<n->step (mk g n)=.next (mk n (Int.tmod g n)))(h0:∀g,step (mk g 0)=.exit 1)(g n:Int)(hg:0<=g)(h1:0<=n)(hn:n<=9223372036854775808):lp step (mk g n)=(1,mk (eu g n) 0):=by
 have:=dc6 (step:=step) (I:=λm s=>∃a c,s=mk a c/\c.natAbs<=m/\0<=a/\0<=c/\eu a c=eu g n) (Q:=λu s=>(u,s)=(1,mk (eu g n) 0)) (λm s ⟨a,c,hs,hm,ha,hc0,he⟩=>by
  subst hs;by_cases hc:c=0
  ·subst hc;rw[Vb0] at he;subst he;exact .inl ⟨1,h0 _,rfl⟩
  ·have ht:=Ra6 (g:=a) hc;exact .inr ⟨_,m-1,by omega,h a c (by omega),c,_,rfl,by omega,hc0,Int.tmod_nonneg _ ha,by rw[<- he,Yc9 hc]⟩) n.natAbs (mk g n) (by omega) ⟨g,n,rfl,Qhe _,hg,h1,rfl⟩
 exact this
end
theorem mb{a c A C:Int}(h1:-A<=a)(h2:a<=A)(h3:-C<=c)(h4:c<=C):-(A*C)<=a*c/\a*c<=A*C:=by
 have hA:a.natAbs<=A.natAbs:=by omega
 have hC:c.natAbs<=C.natAbs:=by omega
 have h5:=Nat.mul_le_mul hA hC;rw[<- Int.natAbs_mul,<- Int.natAbs_mul] at h5;have h6:0<=A*C:=Int.mul_nonneg (by omega) (by omega)
 omega
end Go.Ev.L
namespace Go.Proofs
open Go.Shelf
set_option maxRecDepth 100000 in
def Ce.sortLayV_ren:Go.Shelf.Ren:=⟨fun | 6=>74 | 15=>82 | 14=>98 | 28=>109 | 29=>110 | 20=>115 | 21=>116 | 22=>117 | 23=>118 | 24=>119 | 25=>120 | 26=>121 | 27=>122 | 46=>129 | 47=>125 | 48=>126 | 49=>130 | 50=>131 | 57=>133 | n=>n,fun | 22=>33 | 24=>29 | 25=>39 | 3=>3 | 39=>111 | 0=>0 | 53=>128 | 55=>130 | 4=>4 | 46=>121 | 45=>120 | 50=>125 | 5=>5 | 9=>9 | 66=>138 | 70=>142 | 76=>146 | 77=>147 | n=>n,fun | n=>n⟩
set_option maxRecDepth 100000 in
theorem Ce.sortLayV:Go.Proofs.SlLaysF0.n6 Tryz.prog Ce.sortLayV_ren:={
 mixed:=by kernel_rfl
 f6:=⟨Tryz.f74.name,by decide,Tryz.func74.trans (congrArg some (by kernel_rfl))⟩
 f14:=⟨Tryz.f98.name,by decide,Tryz.func98.trans (congrArg some (by kernel_rfl))⟩
 f15:=Tryz.func82.trans (congrArg some (by kernel_rfl))
 f20:=⟨Tryz.f115.name,by decide,Tryz.func115.trans (congrArg some (by kernel_rfl))⟩
 f21:=⟨Tryz.f116.name,by decide,Tryz.func116.trans (congrArg some (by kernel_rfl))⟩
 f22:=⟨Tryz.f117.name,by decide,Tryz.func117.trans (congrArg some (by kernel_rfl))⟩
 f23:=⟨Tryz.f118.name,by decide,Tryz.func118.trans (congrArg some (by kernel_rfl))⟩
 f24:=⟨Tryz.f119.name,by decide,Tryz.func119.trans (congrArg some (by kernel_rfl))⟩
 f25:=⟨Tryz.f120.name,by decide,Tryz.func120.trans (congrArg some (by kernel_rfl))⟩
 f26:=⟨Tryz.f121.name,by decide,Tryz.func121.trans (congrArg some (by kernel_rfl))⟩
 f27:=⟨Tryz.f122.name,by decide,Tryz.func122.trans (congrArg some (by kernel_rfl))⟩
 f28:=Tryz.func109.trans (congrArg some (by kernel_rfl))
 f29:=Tryz.func110.trans (congrArg some (by kernel_rfl))
 f46:=⟨Tryz.f129.name,by decide,Tryz.func129.trans (congrArg some (by kernel_rfl))⟩
 f47:=Tryz.func125.trans (congrArg some (by kernel_rfl))
 f48:=Tryz.func126.trans (congrArg some (by kernel_rfl))
 f49:=⟨Tryz.f130.name,by decide,Tryz.func130.trans (congrArg some (by kernel_rfl))⟩
 f50:=⟨Tryz.f131.name,by decide,Tryz.func131.trans (congrArg some (by kernel_rfl))⟩
 f57:=⟨Tryz.f133.name,by decide,Tryz.func133.trans (congrArg some (by kernel_rfl))⟩
 t0:=Tryz.underlying0
 a0:=Tryz.isAgg0
 z0:=Tryz.sizeOf0
 v0:=Tryz.zeroValue0
 t3:=Tryz.underlying3
 a3:=Tryz.isAgg3
 z3:=Tryz.sizeOf3
 v3:=Tryz.zeroValue3
 t4:=Tryz.underlying4
 a4:=Tryz.isAgg4
 z4:=Tryz.sizeOf4
 v4:=Tryz.zeroValue4
 t5:=Tryz.underlying5
 a5:=Tryz.isAgg5
 z5:=Tryz.sizeOf5
 v5:=Tryz.zeroValue5
 t9:=Tryz.underlying9
 a9:=Tryz.isAgg9
 z9:=Tryz.sizeOf9
 v9:=Tryz.zeroValue9
 t22:=Tryz.underlying33
 a22:=Tryz.isAgg33
 z22:=Tryz.sizeOf33
 v22:=Tryz.zeroValue33
 t25:=Tryz.underlying39
 a25:=Tryz.isAgg39
 z25:=Tryz.sizeOf39
 v25:=Tryz.zeroValue39
 t39:=Tryz.underlying111
 a39:=Tryz.isAgg111
 z39:=Tryz.sizeOf111
 v39:=Tryz.zeroValue111
 t45:=Tryz.underlying120
 a45:=Tryz.isAgg120
 z45:=Tryz.sizeOf120
 v45:=Tryz.zeroValue120
 t46:=Tryz.underlying121
 a46:=Tryz.isAgg121
 z46:=Tryz.sizeOf121
 v46:=Tryz.zeroValue121
 t50:=Tryz.underlying125
 a50:=Tryz.isAgg125
 z50:=Tryz.sizeOf125
 v50:=Tryz.zeroValue125
 t53:=Tryz.underlying128
 a53:=Tryz.isAgg128
 z53:=Tryz.sizeOf128
 v53:=Tryz.zeroValue128
 t55:=Tryz.underlying130
 a55:=Tryz.isAgg130
 z55:=Tryz.sizeOf130
 v55:=Tryz.zeroValue130
 t66:=Tryz.underlying138
 a66:=Tryz.isAgg138
 z66:=Tryz.sizeOf138
 v66:=Tryz.zeroValue138
 t70:=Tryz.underlying142
 a70:=Tryz.isAgg142
 z70:=Tryz.sizeOf142
 v70:=Tryz.zeroValue142
 t76:=Tryz.underlying146
 a76:=Tryz.isAgg146
 z76:=Tryz.sizeOf146
 v76:=Tryz.zeroValue146
 t77:=Tryz.underlying147
 a77:=Tryz.isAgg147
 z77:=Tryz.sizeOf147
 v77:=Tryz.zeroValue147 }
end Go.Proofs
namespace Go.Ev.Ce
open Go Go.Ev Go.Ev.L Go.Proofs Go.Sort
theorem Dd2(x y:Int):ca6 x y=some (i (cb3 x y),[]):=by
 unfold ca6 wa1 cb3;simp only[bne_self_eq_false,Ta4,decide_eq_true_eq,Qhg,if_false]
 split<;>(try split)<;>rfl
theorem qe1(x y:Int):T6 x y=cb3 x y:=by unfold T6;rw[Dd2];rfl
theorem qe2(x y:Int):T7 x y=true:=by unfold T7;rw[Dd2];rfl
def orI(a c d:Int):Int:=if a=0 then if c=0 then d else c else a
theorem fe5(a c d:Int):((lp (U8 ⟨[a,c,d],3⟩) ⟨0⟩).1=1/\gL tI [a,c,d] (lp (U8 ⟨[a,c,d],3⟩) ⟨0⟩).2.is8.toNat=orI a c d)\/((lp (U8 ⟨[a,c,d],3⟩) ⟨0⟩).1=2/\orI a c d=0):=by
 have g0:gL tI [a,c,d] 0=a:=rfl;have g1:gL tI [a,c,d] 1=c:=rfl;have g2:gL tI [a,c,d] 2=d:=rfl;refine dc6 (step:=U8 ⟨[a,c,d],3⟩) (I:=λm s=>(m=3/\s=⟨0⟩)\/(m=2/\s=⟨1⟩/\a=0)\/(m=1/\s=⟨2⟩/\a=0/\c=0)\/(m=0/\s=⟨3⟩/\a=0/\c=0/\d=0))
  (Q:=λt s=>(t=1/\gL tI [a,c,d] s.is8.toNat=orI a c d)\/(t=2/\orI a c d=0)) (λm s hi=>?_) 3 ⟨0⟩ (by omega) (.inl ⟨rfl,rfl⟩)
 rcases hi with⟨rfl,rfl⟩|⟨rfl,rfl,ha⟩|⟨rfl,rfl,ha,hc⟩|⟨rfl,rfl,ha,hc,hd⟩
 ·by_cases h:a=0
  ·exact .inr ⟨⟨1⟩,2,rfl,by subst h;rfl,.inr (.inl ⟨rfl,rfl,h⟩)⟩
  ·refine .inl ⟨1,?_,.inl ⟨rfl,by unfold orI;rw[if_neg h];rfl⟩⟩
   show sl (a != 0) (Stp.exit 1) (Stp.next (⟨W (0+1)⟩:K6))=_;rw[bt (by simpa using h)]
 ·by_cases h:c=0
  ·exact .inr ⟨⟨2⟩,1,rfl,by subst h;rfl,.inr (.inr (.inl ⟨rfl,rfl,ha,h⟩))⟩
  ·refine .inl ⟨1,?_,.inl ⟨rfl,by unfold orI;rw[if_pos ha,if_neg h];rfl⟩⟩
   show sl (c != 0) (Stp.exit 1) (Stp.next (⟨W (1+1)⟩:K6))=_;rw[bt (by simpa using h)]
 ·by_cases h:d=0
  ·exact .inr ⟨⟨3⟩,0,rfl,by subst h;rfl,.inr (.inr (.inr ⟨rfl,rfl,ha,hc,h⟩))⟩
  ·refine .inl ⟨1,?_,.inl ⟨rfl,by unfold orI;rw[if_pos ha,if_pos hc];rfl⟩⟩
   show sl (d != 0) (Stp.exit 1) (Stp.next (⟨W (2+1)⟩:K6))=_;rw[bt (by simpa using h)]
 ·exact .inl ⟨2,rfl,.inr ⟨rfl,by unfold orI;rw[if_pos ha,if_pos hc];exact hd⟩⟩
theorem le5(a c d:Int):Ba4 [a,c,d]=some (i (orI a c d),[]):=by
 have h:=fe5 a c d;unfold Ba4;simp only[w5,o9];rw[show ((([a,c,d]:List Int).length:Nat):Int)=3 from rfl]
 generalize lp (U8 ⟨[a,c,d],3⟩) ⟨0⟩=r at *
 rcases h with⟨h1,h2⟩|⟨h1,h2⟩
 ·rw[h1,h2];rfl
 ·rw[h1,h2];rfl
theorem Je1(a c d:Int):Pa7 [a,c,d]=orI a c d:=by unfold Pa7;rw[le5];rfl
theorem Je2(a c d:Int):Pa8 [a,c,d]=true:=by unfold Pa8;rw[le5];rfl
def xa1(x y:V3):Int:=orI (cb3 x.x y.x) (cb3 x.y y.y) (cb3 x.z y.z)
def LtV(x y:V3):Prop:=x.x<y.x\/x.x=y.x/\(x.y<y.y\/x.y=y.y/\x.z<y.z)
instance(x y:V3):Decidable (LtV x y):=by unfold LtV;exact inferInstance
theorem rc9(x y:V3):xa1 x y<0↔LtV x y:=by
 have h1:=mb3 x.x y.x;have h2:=Ub1 x.x y.x;have h3:=mb3 x.y y.y;have h4:=Ub1 x.y y.y;have h5:=mb3 x.z y.z;unfold xa1 orI LtV;split
 ·split<;>omega
 ·omega
theorem ya2(x y:V3):ltOf xa1 x y=decide (LtV x y):=by
 unfold ltOf;rw[decide_eq_decide];exact rc9 x y
theorem ye3:SWO (ltOf xa1) where
 irrefl x:=by rw[ya2];simp[LtV]
 trans x y z h1 h2:=by rw[ya2,decide_eq_true_eq] at *;unfold LtV at *;omega
 ntrans x y z h1 h2:=by rw[ya2,decide_eq_false_iff_not] at *;unfold LtV at *;omega
theorem Je3(x y:V3)(h1:ltOf xa1 x y=false)(h2:ltOf xa1 y x=false):x=y:=by
 rw[ya2,decide_eq_false_iff_not] at *
 unfold LtV at *
 obtain⟨a,b,c⟩:=x;obtain⟨a',b',c'⟩:=y
 simp only at *
 have:a=a'/\b=b'/\c=c':=by omega
 obtain⟨rfl,rfl,rfl⟩:=this;rfl
theorem jc2(x y:V3):oa2 x y=some (i (xa1 x y),[]):=by
 unfold oa2 xa1;simp only[qe1,qe2,Je1,Je2,r5]
theorem qe3(x y:V3):Ba5 x y=xa1 x y:=by unfold Ba5;rw[jc2];rfl
theorem qe4(x y:V3):Ba6 x y=true:=by unfold Ba6;rw[jc2];rfl
theorem qe5(x y:V3):(Va9 [.agg (tV.row x),.agg (tV.row y)] []).run=some (i (xa1 x y),[]):=by
 have:(Va9 [.agg (tV.row x),.agg (tV.row y)] []).run=sel (Ba6 x y) (some (i (Ba5 x y),[])) none:=by kernel_rfl
 rw[this,qe4,qe3]
def Ud5(p:V3):List Value:=[.int .i64 p.x,.int .i64 p.y,.int .i64 p.z]
instance:Inhabited V3:=⟨⟨0,0,0⟩⟩
def qb3(l:List V3):List V3:=l.mergeSort λx y=>!ltOf xa1 y x
theorem Qc5(l:List V3):(qb3 l).length=l.length:=Qhf l
noncomputable def ka9:Sum:=Cd1 tV 75 29 qb3
theorem Ld4:Ce.sortLayV_ren.f 6=74:=by kernel_rfl
theorem Ac4:Ce.sortLayV_ren.t 24=29:=by kernel_rfl
set_option maxRecDepth 100000 in
theorem Ba7:g8 prog G 74 ka9:=by
 refine Cd2 (enc:=Ud5) (cf:=xa1) ⟨_,Tryz.func74,by kernel_rfl,of_decide_eq_true (by kernel_rfl)⟩ (by decide) (λ_=>rfl) (λr h=>qa1 (n:=3) h) (λx v hv=>?_) Qc5
  (λblk off size w=>Cd0 nc4 qe5 (λ_=>rfl) (λ_=>rfl) _ _ _ _ _) (λblk cap d w hcl hH hb hs=>?_)
 ·simp[Ud5] at hv
  rcases hv with rfl|rfl|rfl<;>rfl
 ·have eg:∀args w,(callFunc 75 args).run Tryz.prog w=.ok (.enter 75 args) w:=enters_of Tryz.func75 (by kernel_rfl) rfl
  have:=AnyQ.slices_SortFunc Ce.sortLayV 3 (by rw[Ac4];exact Tryz.isAgg29) (by rw[Ac4];exact Tryz.sizeOf29) Ud5 (λ_=>rfl) (λx v hv=>by simp[Ud5] at hv;rcases hv with rfl | rfl | rfl<;>rfl) xa1 ye3 75 #[] blk 0 cap d w eg (hcl 0 d.size) hH hb hs
  rw[Ld4] at this;refine this.mono λe w' ⟨h1,d',n,os,h2,h3,h4⟩=>⟨h1,n,os,?_⟩
  have h5:=sorted_unique_holds ye3 Je3 d d' h2 h3;rw[h4];show _=sortWorldK Ud5 3 w blk 0 n (d.toList.mergeSort λx y=>!ltOf xa1 y x).toArray os
  rw[<- h5]
end Go.Ev.Ce
namespace Go.Ev.Ce
open Go Go.Ev Go.Ev.L Go.Proofs
set_option maxRecDepth 100000
noncomputable def Fb7:List (Nat×Sum):=[]
theorem xb2:j5 prog G Fb7:=trivial
structure ha6 where
 (alt ns0:Nat)
 eh0:List (List c7)
noncomputable def P8{α:Type}(kk:ha6->α)(x:V3×List V3):α:=(sl (Nat.beq 0 0&&Nat.ble ((0+(len (p7 (λk=>(tV).row (gL tV (x.1::x.2) k)) (List.range (List.length x.2+1)))))*24) room) (kk ⟨1,(0+(len (p7 (λk=>(tV).row (gL tV (x.1::x.2) k)) (List.range (List.length x.2+1))))),(app [] (p7 (λk=>(tV).row (gL tV (x.1::x.2) k)) (List.range (List.length x.2+1))))⟩) (kk ⟨0,0,[]⟩))
noncomputable def Z8(x:V3×List V3):ha6:=P8 (λr=>r) x
noncomputable def ra9(r:ha6):DT (c7×List c8):=(.ite (Nat.beq r.alt 1) (.ret (.sl 0 0 r.ns0 0,[⟨29,3,r.eh0,true,false,0⟩])) .fail)
theorem Ob1{α β:Type}(F:α->β)(kk:ha6->α)(x:V3×List V3):F (P8 kk x)=P8 (λr=>F (kk r)) x:=by unfold P8;(repeat' apply q8 (f:=F))<;>rfl
noncomputable def xa2:Sum:=K2 (hd9 tV) (λx=>ra9 (Z8 x))
theorem Na8:g8 prog G 73 xa2:=Ia1 (bd b73 xb2) λx=>n9 (Qhd (b:=P8 (λr=>(ra9 r).run) x) (by kernel_rfl) (Ob1 (λr=>(ra9 r).run) (λr=>r) x).symm)
structure ca7 where
 ns0:Nat
 eh0:List (List c7)
noncomputable def la0:List (Nat×Sum):=[]
theorem nb0:j5 prog G la0:=trivial
structure B4 where
 (ns0 os4 ns4:Nat)
structure o6 where
 (is3 is5:Int)
 eh0:List (List c7)
noncomputable def ya3(p:B4)(s:o6):St:=⟨.sl 0 0 p.ns0 0::.unk::.unk::i s.is3::.sl 0 p.os4 p.ns4 0::i s.is5::ra 55 [],[⟨29,3,s.eh0,true,false,0⟩]⟩
noncomputable def K7{α:Type}(k:o6->α)(e:Nat->α)(z:α)(p:B4)(s:o6):α:=(sl (decide (s.is5<(↑p.ns4:Int))) (sl (inB s.is5 p.ns4) (sl (ldR tV s.eh0 (p.os4+s.is5.toNat)) (sl (inB (W (s.is5-1)) p.ns4) (sl (ldR tV s.eh0 (p.os4+(W (s.is5-1)).toNat)) (sl (!(((rdR tV s.eh0 (p.os4+s.is5.toNat)).x==(rdR tV s.eh0 (p.os4+(W (s.is5-1)).toNat)).x)&&(((rdR tV s.eh0 (p.os4+s.is5.toNat)).y==(rdR tV s.eh0 (p.os4+(W (s.is5-1)).toNat)).y)&&(((rdR tV s.eh0 (p.os4+s.is5.toNat)).z==(rdR tV s.eh0 (p.os4+(W (s.is5-1)).toNat)).z)&&true)))) (sl (inB s.is5 p.ns4) (sl (ldR tV s.eh0 (p.os4+s.is5.toNat)) (sl (inB s.is3 p.ns0) (sl ((Nat.blt (0+s.is3.toNat) (len s.eh0))&&(Nat.ble (0+3) (len (i8 s.eh0 (0+s.is3.toNat))))) (k ⟨W (s.is3+1),W (s.is5+1),setAt s.eh0 (0+s.is3.toNat) (C9 (i8 s.eh0 (0+s.is3.toNat)) 0 [i (rdR tV s.eh0 (p.os4+s.is5.toNat)).x,i (rdR tV s.eh0 (p.os4+s.is5.toNat)).y,i (rdR tV s.eh0 (p.os4+s.is5.toNat)).z])⟩) z) z) z) z) (k ⟨s.is3,W (s.is5+1),s.eh0⟩)) z) z) z) z) (e 1))
noncomputable def p5(p:B4)(s:o6):Stp o6:=K7 .next .exit .fail p s
noncomputable def ha7:Lo B4 o6:=⟨En la0,1,pe5,[1,1,0,1,4,4,1,0,4,1,2,1,0,1,4,4],[0,3,4,5],.p,[⟨.s (.o (.sl 0 0 (some 0) none))::sUq::sUq::sIq::.s (.o (.sl 0 0 none none))::sIq::ru2 55 [],[⟨29,3,true,none⟩],λa H=>(⟨slN (slT a 0),slO (slT a 4),slN (slT a 4)⟩,⟨aIq a 3,aIq a 5,elT H 0⟩)⟩],p5,[(some 2,λp s=>upq (ya3 p s) [(29,i s.is5),(30,.sl 0 p.os4 p.ns4 0),(31,i (↑p.ns4:Int)),(32,b (decide (s.is5<(↑p.ns4:Int))))])],ya3⟩
theorem ib1:ha7.Ok:=Lo.ok [] (by kernel_rfl) .nil rfl (.cons (λa H=>by kernel_rfl) .nil) λp s=>(.of @K7 (λF _ _ _ _ _=>by unfold K7;(repeat' apply q8 (f:=F))<;>rfl) (by kernel_rfl))
structure N8 where
 ns0:Nat
 eh0:List (List c7)
structure p9 where
 is3:Int
noncomputable def ya4(p:N8)(s:p9):St:=⟨.sl 0 0 p.ns0 0::.unk::.unk::i s.is3::ra 57 [],[⟨29,3,p.eh0,true,false,0⟩]⟩
noncomputable def K8{α:Type}(k:p9->α)(e:Nat->α)(z:α)(p:N8)(s:p9):α:=let t1:=(lp (p5 (⟨p.ns0,0+s.is3.toNat,p.ns0-s.is3.toNat⟩:B4)) (⟨s.is3,1,p.eh0⟩:o6));(sl (decide (s.is3<(↑p.ns0:Int))) (sl (inB s.is3 p.ns0) (sl (ldR tV p.eh0 (0+s.is3.toNat)) (sl (inB (W (s.is3-1)) p.ns0) (sl (ldR tV p.eh0 (0+(W (s.is3-1)).toNat)) (sl (((rdR tV p.eh0 (0+s.is3.toNat)).x==(rdR tV p.eh0 (0+(W (s.is3-1)).toNat)).x)&&(((rdR tV p.eh0 (0+s.is3.toNat)).y==(rdR tV p.eh0 (0+(W (s.is3-1)).toNat)).y)&&(((rdR tV p.eh0 (0+s.is3.toNat)).z==(rdR tV p.eh0 (0+(W (s.is3-1)).toNat)).z)&&true))) (sl (inB s.is3 (p.ns0+1)) (sl (Nat.beq t1.1 1) (sl (inB t1.2.is3 (p.ns0+1)) (sl (inB t1.2.is3 (p.ns0+1)) (e 1) z) z) z) z) (k ⟨W (s.is3+1)⟩)) z) z) z) z) (e 2))
noncomputable def L6(p:N8)(s:p9):Stp p9:=K8 .next .exit .fail p s
noncomputable def ha8:Lo N8 p9:=⟨En la0,1,pe5,[1,1,0,1,4,4],[0,3],.s .p (.s (.b (.s .p (.c (.s .p (.s (.s .p (.b (.u ha7.ls))) .p)) .p))) .p),[⟨.s (.o (.sl 0 0 (some 0) none))::sUq::sUq::sIq::ru2 57 [],[⟨29,3,true,none⟩],λa H=>(⟨slN (slT a 0),elT H 0⟩,⟨aIq a 3⟩)⟩],L6,[(none,λp s=>let t1:=(lp (p5 (⟨p.ns0,0+s.is3.toNat,p.ns0-s.is3.toNat⟩:B4)) (⟨s.is3,1,p.eh0⟩:o6));⟨[.sl 0 0 (t1.2.is3.toNat-0) 0],[⟨29,3,app (I1 t1.2.eh0 (0+t1.2.is3.toNat)) (app (List.replicate (p.ns0-t1.2.is3.toNat) [i 0,i 0,i 0]) (j6 t1.2.eh0 ((0+t1.2.is3.toNat)+(p.ns0-t1.2.is3.toNat)))),true,false,0⟩]⟩),(some 0,λp s=>upq (ya4 p s) [(10,i s.is3),(11,.sl 0 0 p.ns0 0),(12,i (↑p.ns0:Int)),(13,b (decide (s.is3<(↑p.ns0:Int))))])],ya4⟩
theorem ib2:ha8.Ok:=Lo.ok [ha7.pr] (by kernel_rfl) (.cons ib1 .nil) rfl (.cons (λa H=>by kernel_rfl) .nil) λp s=>(.of @K8 (λF _ _ _ _ _=>by unfold K8;(repeat' apply q8 (f:=F))<;>rfl) (by kernel_rfl))
structure ca8 where
 (alt ns0:Nat)
 eh0:List (List c7)
noncomputable def L7{α:Type}(kk:ca8->α)(x:ca7):α:=let t1:=(lp (L6 (⟨x.ns0,x.eh0⟩:N8)) (⟨1⟩:p9));let t2:=(lp (p5 (⟨x.ns0,0+t1.2.is3.toNat,x.ns0-t1.2.is3.toNat⟩:B4)) (⟨t1.2.is3,1,x.eh0⟩:o6));(sl (decide ((↑x.ns0:Int)<2)) (kk ⟨1,x.ns0,x.eh0⟩) (sl (Nat.beq t1.1 1) (kk ⟨1,t2.2.is3.toNat-0,app (I1 t2.2.eh0 (0+t2.2.is3.toNat)) (app (List.replicate (x.ns0-t2.2.is3.toNat) [i 0,i 0,i 0]) (j6 t2.2.eh0 ((0+t2.2.is3.toNat)+(x.ns0-t2.2.is3.toNat))))⟩) (sl (Nat.beq t1.1 2) (kk ⟨1,x.ns0,x.eh0⟩) (kk ⟨0,0,[]⟩))))
noncomputable def L8(x:ca7):ca8:=L7 (λr=>r) x
noncomputable def la1(x:ca7)(r:ca8):DT (c7×List c8):=(.ite (Nat.beq r.alt 1) (.ret (.sl 0 0 r.ns0 0,[⟨29,3,r.eh0,true,false,0⟩])) .fail)
theorem xb3{α β:Type}(F:α->β)(kk:ca8->α)(x:ca7):F (L7 kk x)=L7 (λr=>F (kk r)) x:=by unfold L7;(repeat' apply q8 (f:=F))<;>rfl
noncomputable def oa3:Sum:=rb4 ⟨[.s (.o (.sl 0 0 (some 0) none))],[⟨29,3,true,none⟩],λa H=>(⟨slN (slT a 0),elT H 0⟩,())⟩ (λx=>la1 x (L8 x))
theorem Da9:g8 prog G 76 oa3:=ca1 (enc:=λx=>⟨[.sl 0 0 x.ns0 0],[⟨29,3,x.eh0,true,false,0⟩]⟩) (λa H=>by kernel_rfl) (bd b76 nb0) λx=>gb6 (.s .p (.s .p (.s (.s .p (.b (.u ha8.ls))) .p))) [ha8.pr] (by kernel_rfl) (.cons ib2 .nil) (Qhd (b:=L7 (λr=>(la1 x r).run) x) (by kernel_rfl) (xb3 (λr=>(la1 x r).run) (λr=>r) x).symm)
noncomputable def dc7:List (Nat×Sum):=[(73,xa2),(74,ka9),(76,oa3)]
theorem Vb1:j5 prog G dc7:=⟨Na8,Ba7,Da9,trivial⟩
noncomputable def ja2(x:V3×List V3):Option (c7×List c8):=let t1:=(Z8 (hC tV (λk=>(tV).row (gL tV (x.1::x.2) k)),tC tV (List.length x.2) (λk=>(tV).row (gL tV (x.1::x.2) k))));let t2:=(L8 ⟨t1.ns0,app (bL tV (qb3 (slR tV t1.eh0 0 t1.ns0))) (j6 t1.eh0 t1.ns0)⟩);(sl (okL tV (List.length x.2+1) (λk=>(tV).row (gL tV (x.1::x.2) k))) (sl (Nat.beq t1.alt 1) (sl (Bool.and (Nat.ble t1.ns0 room) (Bool.and (Nat.ble t1.ns0 (len t1.eh0)) (okS tV t1.eh0 0 t1.ns0))) (sl (Nat.beq t2.alt 1) (some (.sl 0 0 t2.ns0 0,[⟨29,3,t2.eh0,true,false,0⟩])) none) none) none) none)
noncomputable def Ma6(x:V3×List V3):List V3:=J0 (one (r1L tV)) (ja2 x)
noncomputable def Ma7(x:V3×List V3):Bool:=okO (one (r1L tV)) (ja2 x)
noncomputable def qb4:Sum:=K2 (hd9 tV) (λx=>.guard (Ma7 x) (.ret ((one (r1L tV)).enc (Ma6 x),[])))
theorem dc8:g8 prog G 35 qb4:=ta0 (bd b35 Vb1) (one (r1L tV)) (o:=ja2) λx=>n9 (by kernel_rfl)
noncomputable def Ja0:List (Nat×Sum):=[(34,mb9),(35,qb4),(78,Ma1),(79,Ub3),(37,Ib3),(38,xa7),(36,na5)]
theorem Ac5:j5 prog G Ja0:=⟨Ib4,dc8,hb7,Ic1,Ac0,cb5,va7,trivial⟩
structure N9 where
 (is3 is4 is9 A6 fb6 J7 qc8:Int)
 (c9 e8:List V3)
structure A2 where
 ph:Nat
 B1:Int
 eh4:List (List c7)
 A7:Nat
 eh5:List (List c7)
noncomputable def ib3(p:N9)(s:A2):St:=⟨.unk::.ptr 0 0 0 0::.unk::i p.is3::i p.is4::ra 4 (i p.is9::i p.A6::ra 5 (i p.fb6::i p.J7::ra 5 (i p.qc8::i s.B1::ra 35 (i 0::.unk::.ptr 1 0 0 0::.v (.slice none 0 0)::i 0::.unk::.ptr 2 0 0 0::.ptr 3 0 0 0::ra 28 [])))),[⟨0,1,[[eL tV p.c9]],true,false,0⟩,⟨0,1,[[eL tV p.e8]],true,false,0⟩,⟨0,0,[[.ptr 4 0 0 0]],true,false,0⟩,⟨0,0,[[.v (.slice none 0 0)]],true,false,0⟩,⟨77,0,s.eh4,true,false,0⟩]⟩
noncomputable def ib4(p:N9)(s:A2):St:=⟨.unk::.ptr 0 0 0 0::.unk::i p.is3::i p.is4::ra 4 (i p.is9::i p.A6::ra 5 (i p.fb6::i p.J7::ra 5 (i p.qc8::i s.B1::ra 35 (i 0::.unk::.ptr 1 0 0 0::.v (.slice none 0 0)::i 0::.unk::.ptr 2 0 0 0::.ptr 3 0 0 0::ra 28 [])))),[⟨0,1,[[eL tV p.c9]],true,false,0⟩,⟨0,1,[[eL tV p.e8]],true,false,0⟩,⟨0,0,[[.ptr 4 0 0 0]],true,false,0⟩,⟨0,0,[[.sl 5 0 s.A7 0]],true,false,0⟩,⟨77,0,s.eh4,true,false,0⟩,⟨45,4,s.eh5,true,false,0⟩]⟩
noncomputable def nc5(p:N9)(s:A2):St:=(sel (Nat.beq s.ph 1) (ib4 p s) (ib3 p s))
noncomputable def P9{α:Type}(k:A2->α)(e:Nat->α)(z:α)(p:N9)(s:A2):α:=let t1:=(H7 (gL tV p.c9 s.B1.toNat) (gL tV p.c9 p.is4.toNat) (gL tV p.c9 p.is3.toNat));let t2:=(qa5 t1.1);let t3:=(X9 (rt tV p.e8) t2);let t4:=(X9 (rt tV p.e8) t1.1);(sl (decide (s.B1<p.qc8)) (sl (inB s.B1 (List.length p.c9)) (sl (inB p.is4 (List.length p.c9)) (sl (inB p.is3 (List.length p.c9)) (sl (ba4 (gL tV p.c9 s.B1.toNat) (gL tV p.c9 p.is4.toNat) (gL tV p.c9 p.is3.toNat)) (sl t1.2 (sl t1.2 (sl (Sa1 4 [(0,.int .i64),(1,.int .i64),(2,.int .i64),(3,.int .i64)] [i t1.1.n.x,i t1.1.n.y,i t1.1.n.z,i t1.1.b] s.eh4) (sl (Sa1 4 [(0,.int .i64),(1,.int .i64),(2,.int .i64),(3,.int .i64)] [i t2.n.x,i t2.n.y,i t2.n.z,i t2.b] s.eh4) (k ⟨0,W (s.B1+1),s.eh4,0,[]⟩) (sl (okE tV p.e8) (sl (H9 (rt tV p.e8) t2) (sl (!t3) (k ⟨1,W (s.B1+1),Z1 [(0,.int .i64),(1,.int .i64),(2,.int .i64),(3,.int .i64)] [i t2.n.x,i t2.n.y,i t2.n.z,i t2.b] [i t2.n.x,i t2.n.y,i t2.n.z,i t2.b,b true] s.eh4,1,[[i t2.n.x,i t2.n.y,i t2.n.z,i t2.b]]⟩) (k ⟨0,W (s.B1+1),Z1 [(0,.int .i64),(1,.int .i64),(2,.int .i64),(3,.int .i64)] [i t2.n.x,i t2.n.y,i t2.n.z,i t2.b] [i t2.n.x,i t2.n.y,i t2.n.z,i t2.b,b true] s.eh4,0,[]⟩)) z) z)) (sl (okE tV p.e8) (sl (H9 (rt tV p.e8) t1.1) (sl (!t4) (sl (Sa1 4 [(0,.int .i64),(1,.int .i64),(2,.int .i64),(3,.int .i64)] [i t2.n.x,i t2.n.y,i t2.n.z,i t2.b] (Z1 [(0,.int .i64),(1,.int .i64),(2,.int .i64),(3,.int .i64)] [i t1.1.n.x,i t1.1.n.y,i t1.1.n.z,i t1.1.b] [i t1.1.n.x,i t1.1.n.y,i t1.1.n.z,i t1.1.b,b true] s.eh4)) (k ⟨1,W (s.B1+1),Z1 [(0,.int .i64),(1,.int .i64),(2,.int .i64),(3,.int .i64)] [i t1.1.n.x,i t1.1.n.y,i t1.1.n.z,i t1.1.b] [i t1.1.n.x,i t1.1.n.y,i t1.1.n.z,i t1.1.b,b true] s.eh4,1,[[i t1.1.n.x,i t1.1.n.y,i t1.1.n.z,i t1.1.b]]⟩) (sl (okE tV p.e8) (sl (H9 (rt tV p.e8) t2) (sl (!t3) (k ⟨1,W (s.B1+1),Z1 [(0,.int .i64),(1,.int .i64),(2,.int .i64),(3,.int .i64)] [i t2.n.x,i t2.n.y,i t2.n.z,i t2.b] [i t2.n.x,i t2.n.y,i t2.n.z,i t2.b,b true] (Z1 [(0,.int .i64),(1,.int .i64),(2,.int .i64),(3,.int .i64)] [i t1.1.n.x,i t1.1.n.y,i t1.1.n.z,i t1.1.b] [i t1.1.n.x,i t1.1.n.y,i t1.1.n.z,i t1.1.b,b true] s.eh4),2,[[i t1.1.n.x,i t1.1.n.y,i t1.1.n.z,i t1.1.b],[i t2.n.x,i t2.n.y,i t2.n.z,i t2.b]]⟩) (k ⟨1,W (s.B1+1),Z1 [(0,.int .i64),(1,.int .i64),(2,.int .i64),(3,.int .i64)] [i t2.n.x,i t2.n.y,i t2.n.z,i t2.b] [i t2.n.x,i t2.n.y,i t2.n.z,i t2.b,b true] (Z1 [(0,.int .i64),(1,.int .i64),(2,.int .i64),(3,.int .i64)] [i t1.1.n.x,i t1.1.n.y,i t1.1.n.z,i t1.1.b] [i t1.1.n.x,i t1.1.n.y,i t1.1.n.z,i t1.1.b,b true] s.eh4),1,[[i t1.1.n.x,i t1.1.n.y,i t1.1.n.z,i t1.1.b]]⟩)) z) z)) (sl (Sa1 4 [(0,.int .i64),(1,.int .i64),(2,.int .i64),(3,.int .i64)] [i t2.n.x,i t2.n.y,i t2.n.z,i t2.b] (Z1 [(0,.int .i64),(1,.int .i64),(2,.int .i64),(3,.int .i64)] [i t1.1.n.x,i t1.1.n.y,i t1.1.n.z,i t1.1.b] [i t1.1.n.x,i t1.1.n.y,i t1.1.n.z,i t1.1.b,b true] s.eh4)) (k ⟨0,W (s.B1+1),Z1 [(0,.int .i64),(1,.int .i64),(2,.int .i64),(3,.int .i64)] [i t1.1.n.x,i t1.1.n.y,i t1.1.n.z,i t1.1.b] [i t1.1.n.x,i t1.1.n.y,i t1.1.n.z,i t1.1.b,b true] s.eh4,0,[]⟩) (sl (okE tV p.e8) (sl (H9 (rt tV p.e8) t2) (sl (!t3) (k ⟨1,W (s.B1+1),Z1 [(0,.int .i64),(1,.int .i64),(2,.int .i64),(3,.int .i64)] [i t2.n.x,i t2.n.y,i t2.n.z,i t2.b] [i t2.n.x,i t2.n.y,i t2.n.z,i t2.b,b true] (Z1 [(0,.int .i64),(1,.int .i64),(2,.int .i64),(3,.int .i64)] [i t1.1.n.x,i t1.1.n.y,i t1.1.n.z,i t1.1.b] [i t1.1.n.x,i t1.1.n.y,i t1.1.n.z,i t1.1.b,b true] s.eh4),1,[[i t2.n.x,i t2.n.y,i t2.n.z,i t2.b]]⟩) (k ⟨0,W (s.B1+1),Z1 [(0,.int .i64),(1,.int .i64),(2,.int .i64),(3,.int .i64)] [i t2.n.x,i t2.n.y,i t2.n.z,i t2.b] [i t2.n.x,i t2.n.y,i t2.n.z,i t2.b,b true] (Z1 [(0,.int .i64),(1,.int .i64),(2,.int .i64),(3,.int .i64)] [i t1.1.n.x,i t1.1.n.y,i t1.1.n.z,i t1.1.b] [i t1.1.n.x,i t1.1.n.y,i t1.1.n.z,i t1.1.b,b true] s.eh4),0,[]⟩)) z) z))) z) z)) (k ⟨0,W (s.B1+1),s.eh4,0,[]⟩)) (sl t1.2 z (k ⟨0,W (s.B1+1),s.eh4,0,[]⟩))) z) z) z) z) (e 1))
noncomputable def Q0{α:Type}(k:A2->α)(e:Nat->α)(z:α)(p:N9)(s:A2):α:=let t1:=(H7 (gL tV p.c9 s.B1.toNat) (gL tV p.c9 p.is4.toNat) (gL tV p.c9 p.is3.toNat));let t2:=(qa5 t1.1);let t3:=(X9 (rt tV p.e8) t2);let t4:=(X9 (rt tV p.e8) t1.1);let a0:=(Nat.beq s.A7 (len s.eh5)&&Nat.ble ((s.A7+1)*32) room);(sl (decide (s.B1<p.qc8)) (sl (inB s.B1 (List.length p.c9)) (sl (inB p.is4 (List.length p.c9)) (sl (inB p.is3 (List.length p.c9)) (sl (ba4 (gL tV p.c9 s.B1.toNat) (gL tV p.c9 p.is4.toNat) (gL tV p.c9 p.is3.toNat)) (sl t1.2 (sl t1.2 (sl (Sa1 4 [(0,.int .i64),(1,.int .i64),(2,.int .i64),(3,.int .i64)] [i t1.1.n.x,i t1.1.n.y,i t1.1.n.z,i t1.1.b] s.eh4) (sl (Sa1 4 [(0,.int .i64),(1,.int .i64),(2,.int .i64),(3,.int .i64)] [i t2.n.x,i t2.n.y,i t2.n.z,i t2.b] s.eh4) (k ⟨1,W (s.B1+1),s.eh4,s.A7,s.eh5⟩) (sl (okE tV p.e8) (sl (H9 (rt tV p.e8) t2) (sl (!t3) (sl a0 (k ⟨1,W (s.B1+1),Z1 [(0,.int .i64),(1,.int .i64),(2,.int .i64),(3,.int .i64)] [i t2.n.x,i t2.n.y,i t2.n.z,i t2.b] [i t2.n.x,i t2.n.y,i t2.n.z,i t2.b,b true] s.eh4,s.A7+1,app s.eh5 [[i t2.n.x,i t2.n.y,i t2.n.z,i t2.b]]⟩) z) (k ⟨1,W (s.B1+1),Z1 [(0,.int .i64),(1,.int .i64),(2,.int .i64),(3,.int .i64)] [i t2.n.x,i t2.n.y,i t2.n.z,i t2.b] [i t2.n.x,i t2.n.y,i t2.n.z,i t2.b,b true] s.eh4,s.A7,s.eh5⟩)) z) z)) (sl (okE tV p.e8) (sl (H9 (rt tV p.e8) t1.1) (sl (!t4) (sl a0 (sl (Sa1 4 [(0,.int .i64),(1,.int .i64),(2,.int .i64),(3,.int .i64)] [i t2.n.x,i t2.n.y,i t2.n.z,i t2.b] (Z1 [(0,.int .i64),(1,.int .i64),(2,.int .i64),(3,.int .i64)] [i t1.1.n.x,i t1.1.n.y,i t1.1.n.z,i t1.1.b] [i t1.1.n.x,i t1.1.n.y,i t1.1.n.z,i t1.1.b,b true] s.eh4)) (k ⟨1,W (s.B1+1),Z1 [(0,.int .i64),(1,.int .i64),(2,.int .i64),(3,.int .i64)] [i t1.1.n.x,i t1.1.n.y,i t1.1.n.z,i t1.1.b] [i t1.1.n.x,i t1.1.n.y,i t1.1.n.z,i t1.1.b,b true] s.eh4,s.A7+1,app s.eh5 [[i t1.1.n.x,i t1.1.n.y,i t1.1.n.z,i t1.1.b]]⟩) (sl (okE tV p.e8) (sl (H9 (rt tV p.e8) t2) (sl (!t3) (sl (Nat.beq (s.A7+1) (len (app s.eh5 [[i t1.1.n.x,i t1.1.n.y,i t1.1.n.z,i t1.1.b]]))&&Nat.ble (((s.A7+1)+1)*32) room) (k ⟨1,W (s.B1+1),Z1 [(0,.int .i64),(1,.int .i64),(2,.int .i64),(3,.int .i64)] [i t2.n.x,i t2.n.y,i t2.n.z,i t2.b] [i t2.n.x,i t2.n.y,i t2.n.z,i t2.b,b true] (Z1 [(0,.int .i64),(1,.int .i64),(2,.int .i64),(3,.int .i64)] [i t1.1.n.x,i t1.1.n.y,i t1.1.n.z,i t1.1.b] [i t1.1.n.x,i t1.1.n.y,i t1.1.n.z,i t1.1.b,b true] s.eh4),(s.A7+1)+1,app (app s.eh5 [[i t1.1.n.x,i t1.1.n.y,i t1.1.n.z,i t1.1.b]]) [[i t2.n.x,i t2.n.y,i t2.n.z,i t2.b]]⟩) z) (k ⟨1,W (s.B1+1),Z1 [(0,.int .i64),(1,.int .i64),(2,.int .i64),(3,.int .i64)] [i t2.n.x,i t2.n.y,i t2.n.z,i t2.b] [i t2.n.x,i t2.n.y,i t2.n.z,i t2.b,b true] (Z1 [(0,.int .i64),(1,.int .i64),(2,.int .i64),(3,.int .i64)] [i t1.1.n.x,i t1.1.n.y,i t1.1.n.z,i t1.1.b] [i t1.1.n.x,i t1.1.n.y,i t1.1.n.z,i t1.1.b,b true] s.eh4),s.A7+1,app s.eh5 [[i t1.1.n.x,i t1.1.n.y,i t1.1.n.z,i t1.1.b]]⟩)) z) z)) z) (sl (Sa1 4 [(0,.int .i64),(1,.int .i64),(2,.int .i64),(3,.int .i64)] [i t2.n.x,i t2.n.y,i t2.n.z,i t2.b] (Z1 [(0,.int .i64),(1,.int .i64),(2,.int .i64),(3,.int .i64)] [i t1.1.n.x,i t1.1.n.y,i t1.1.n.z,i t1.1.b] [i t1.1.n.x,i t1.1.n.y,i t1.1.n.z,i t1.1.b,b true] s.eh4)) (k ⟨1,W (s.B1+1),Z1 [(0,.int .i64),(1,.int .i64),(2,.int .i64),(3,.int .i64)] [i t1.1.n.x,i t1.1.n.y,i t1.1.n.z,i t1.1.b] [i t1.1.n.x,i t1.1.n.y,i t1.1.n.z,i t1.1.b,b true] s.eh4,s.A7,s.eh5⟩) (sl (okE tV p.e8) (sl (H9 (rt tV p.e8) t2) (sl (!t3) (sl a0 (k ⟨1,W (s.B1+1),Z1 [(0,.int .i64),(1,.int .i64),(2,.int .i64),(3,.int .i64)] [i t2.n.x,i t2.n.y,i t2.n.z,i t2.b] [i t2.n.x,i t2.n.y,i t2.n.z,i t2.b,b true] (Z1 [(0,.int .i64),(1,.int .i64),(2,.int .i64),(3,.int .i64)] [i t1.1.n.x,i t1.1.n.y,i t1.1.n.z,i t1.1.b] [i t1.1.n.x,i t1.1.n.y,i t1.1.n.z,i t1.1.b,b true] s.eh4),s.A7+1,app s.eh5 [[i t2.n.x,i t2.n.y,i t2.n.z,i t2.b]]⟩) z) (k ⟨1,W (s.B1+1),Z1 [(0,.int .i64),(1,.int .i64),(2,.int .i64),(3,.int .i64)] [i t2.n.x,i t2.n.y,i t2.n.z,i t2.b] [i t2.n.x,i t2.n.y,i t2.n.z,i t2.b,b true] (Z1 [(0,.int .i64),(1,.int .i64),(2,.int .i64),(3,.int .i64)] [i t1.1.n.x,i t1.1.n.y,i t1.1.n.z,i t1.1.b] [i t1.1.n.x,i t1.1.n.y,i t1.1.n.z,i t1.1.b,b true] s.eh4),s.A7,s.eh5⟩)) z) z))) z) z)) (k ⟨1,W (s.B1+1),s.eh4,s.A7,s.eh5⟩)) (sl t1.2 z (k ⟨1,W (s.B1+1),s.eh4,s.A7,s.eh5⟩))) z) z) z) z) (e 2))
noncomputable def O6(p:N9)(s:A2):Stp A2:=(sel (Nat.beq s.ph 1) (Q0 .next .exit .fail p s) (P9 .next .exit .fail p s))
noncomputable def Wa1:Lo N9 A2:=⟨En Ja0,0,ee9,[1,1,1,1,1,0,1,4,4,1,4,4,1,1,0,4,1,1,4,4,1,1,0,4,1,1,4,4],[1,3,4,9,10,16,17,23,24,60,62,63,64,66,67],.p,[⟨sUq::sPq 0::sUq::sIq::sIq::ru2 4 (sIq::sIq::ru2 5 (sIq::sIq::ru2 5 (sIq::sIq::ru2 35 (.s (.o (.lit .i64 0))::sUq::sPq 1::.s (.o .nil)::.s (.o (.lit .i64 0))::sUq::sPq 2::sPq 3::ru2 28 [])))),[⟨0,1,true,some [[.c 3 (nL tV)]]⟩,⟨0,1,true,some [[.c 3 (nL tV)]]⟩,⟨0,0,true,some [[.o (.ptr 4 0 0 0)]]⟩,⟨0,0,true,some [[.o .nil]]⟩,⟨77,0,true,none⟩],λa H=>(⟨aIq a 3,aIq a 4,aIq a 9,aIq a 10,aIq a 16,aIq a 17,aIq a 23,hLq tV H 0 0 0,hLq tV H 1 0 0⟩,⟨0,aIq a 24,elT H 4,0,[]⟩)⟩,⟨sUq::sPq 0::sUq::sIq::sIq::ru2 4 (sIq::sIq::ru2 5 (sIq::sIq::ru2 5 (sIq::sIq::ru2 35 (.s (.o (.lit .i64 0))::sUq::sPq 1::.s (.o .nil)::.s (.o (.lit .i64 0))::sUq::sPq 2::sPq 3::ru2 28 [])))),[⟨0,1,true,some [[.c 3 (nL tV)]]⟩,⟨0,1,true,some [[.c 3 (nL tV)]]⟩,⟨0,0,true,some [[.o (.ptr 4 0 0 0)]]⟩,⟨0,0,true,some [[.o (.sl 5 0 (some 0) none)]]⟩,⟨77,0,true,none⟩,⟨45,4,true,none⟩],λa H=>(⟨aIq a 3,aIq a 4,aIq a 9,aIq a 10,aIq a 16,aIq a 17,aIq a 23,hLq tV H 0 0 0,hLq tV H 1 0 0⟩,⟨1,aIq a 24,elT H 4,slN (slT (rwT (elT H 3) 0) 0),elT H 5⟩)⟩],O6,[(some 4,λp s=>upq (ib3 p s) [(25,b (decide (s.B1<p.qc8)))]),(some 4,λp s=>upq (ib4 p s) [(25,b (decide (s.B1<p.qc8)))])],nc5⟩
theorem nc6:Wa1.OkM:=Lo.okM [] (by kernel_rfl) .nil rfl (.cons (λa H=>by kernel_rfl) (.cons (λa H=>by kernel_rfl) .nil)) λp s=>(.sel (Nat.beq s.ph 1) (.of @Q0 (λF _ _ _ _ _=>by unfold Q0;(repeat' apply q8 (f:=F))<;>rfl) (by kernel_rfl)) (.of @P9 (λF _ _ _ _ _=>by unfold P9;(repeat' apply q8 (f:=F))<;>rfl) (by kernel_rfl)))
structure O0 where
 (is3 is9 A6 fb6:Int)
structure v8 where
 ph:Nat
 J7:Int
 (c9 e8:List V3)
 eh4:List (List c7)
 A7:Nat
 eh5:List (List c7)
noncomputable def ib5(p:O0)(s:v8):St:=⟨.unk::.ptr 0 0 0 0::.unk::i p.is3::ra 5 (i p.is9::i p.A6::ra 5 (i p.fb6::i s.J7::ra 42 (i 0::.unk::.ptr 1 0 0 0::.v (.slice none 0 0)::i 0::.unk::.ptr 2 0 0 0::.ptr 3 0 0 0::ra 28 []))),[⟨0,1,[[eL tV s.c9]],true,false,0⟩,⟨0,1,[[eL tV s.e8]],true,false,0⟩,⟨0,0,[[.ptr 4 0 0 0]],true,false,0⟩,⟨0,0,[[.v (.slice none 0 0)]],true,false,0⟩,⟨77,0,s.eh4,true,false,0⟩]⟩
noncomputable def ib6(p:O0)(s:v8):St:=⟨.unk::.ptr 0 0 0 0::.unk::i p.is3::ra 5 (i p.is9::i p.A6::ra 5 (i p.fb6::i s.J7::ra 42 (i 0::.unk::.ptr 1 0 0 0::.v (.slice none 0 0)::i 0::.unk::.ptr 2 0 0 0::.ptr 3 0 0 0::ra 28 []))),[⟨0,1,[[eL tV s.c9]],true,false,0⟩,⟨0,1,[[eL tV s.e8]],true,false,0⟩,⟨0,0,[[.ptr 4 0 0 0]],true,false,0⟩,⟨0,0,[[.sl 5 0 s.A7 0]],true,false,0⟩,⟨77,0,s.eh4,true,false,0⟩,⟨45,4,s.eh5,true,false,0⟩]⟩
noncomputable def nc7(p:O0)(s:v8):St:=(sel (Nat.beq s.ph 1) (ib6 p s) (ib5 p s))
noncomputable def Q1{α:Type}(k:v8->α)(e:Nat->α)(z:α)(p:O0)(s:v8):α:=let t1:=(lp (O6 (⟨p.is3,s.J7,p.is9,p.A6,p.fb6,s.J7,(↑(s.J7.toNat-0):Int),rt tV s.c9,rt tV s.e8⟩:N9)) (⟨0,0,s.eh4,0,[]⟩:A2));(sl (decide (s.J7<p.fb6)) (sl (inB s.J7 ((List.length s.c9)+1)) (sl ((cnE tV s.c9)&&((cnE tV s.e8)&&true)) (sl (Nat.beq t1.1 1) (k ⟨0,W (s.J7+1),rt tV s.c9,rt tV s.e8,t1.2.eh4,0,[]⟩) (sl (Nat.beq t1.1 2) (k ⟨1,W (s.J7+1),rt tV s.c9,rt tV s.e8,t1.2.eh4,t1.2.A7,t1.2.eh5⟩) z)) z) z) (e 1))
noncomputable def Q3{α:Type}(k:v8->α)(e:Nat->α)(z:α)(p:O0)(s:v8):α:=let t1:=(lp (O6 (⟨p.is3,s.J7,p.is9,p.A6,p.fb6,s.J7,(↑(s.J7.toNat-0):Int),rt tV s.c9,rt tV s.e8⟩:N9)) (⟨1,0,s.eh4,s.A7,s.eh5⟩:A2));(sl (decide (s.J7<p.fb6)) (sl (inB s.J7 ((List.length s.c9)+1)) (sl ((cnE tV s.c9)&&((cnE tV s.e8)&&true)) (sl (Nat.beq t1.1 1) (k ⟨0,W (s.J7+1),rt tV s.c9,rt tV s.e8,t1.2.eh4,0,[]⟩) (sl (Nat.beq t1.1 2) (k ⟨1,W (s.J7+1),rt tV s.c9,rt tV s.e8,t1.2.eh4,t1.2.A7,t1.2.eh5⟩) z)) z) z) (e 2))
noncomputable def U9(p:O0)(s:v8):Stp v8:=(sel (Nat.beq s.ph 1) (Q3 .next .exit .fail p s) (Q1 .next .exit .fail p s))
noncomputable def Wa2:Lo O0 v8:=⟨En Ja0,0,ee9,[1,1,1,1,1,0,1,4,4,1,4,4,1,1,0,4,1,1,4,4],[1,3,9,10,16,17,60,62,63,64,66,67],.s .p (.s .p (.s (.b (.s .p (.s .p (.b (.u Wa1.lsM))))) .p)),[⟨sUq::sPq 0::sUq::sIq::ru2 5 (sIq::sIq::ru2 5 (sIq::sIq::ru2 42 (.s (.o (.lit .i64 0))::sUq::sPq 1::.s (.o .nil)::.s (.o (.lit .i64 0))::sUq::sPq 2::sPq 3::ru2 28 []))),[⟨0,1,true,some [[.c 3 (nL tV)]]⟩,⟨0,1,true,some [[.c 3 (nL tV)]]⟩,⟨0,0,true,some [[.o (.ptr 4 0 0 0)]]⟩,⟨0,0,true,some [[.o .nil]]⟩,⟨77,0,true,none⟩],λa H=>(⟨aIq a 3,aIq a 9,aIq a 10,aIq a 16⟩,⟨0,aIq a 17,hLq tV H 0 0 0,hLq tV H 1 0 0,elT H 4,0,[]⟩)⟩,⟨sUq::sPq 0::sUq::sIq::ru2 5 (sIq::sIq::ru2 5 (sIq::sIq::ru2 42 (.s (.o (.lit .i64 0))::sUq::sPq 1::.s (.o .nil)::.s (.o (.lit .i64 0))::sUq::sPq 2::sPq 3::ru2 28 []))),[⟨0,1,true,some [[.c 3 (nL tV)]]⟩,⟨0,1,true,some [[.c 3 (nL tV)]]⟩,⟨0,0,true,some [[.o (.ptr 4 0 0 0)]]⟩,⟨0,0,true,some [[.o (.sl 5 0 (some 0) none)]]⟩,⟨77,0,true,none⟩,⟨45,4,true,none⟩],λa H=>(⟨aIq a 3,aIq a 9,aIq a 10,aIq a 16⟩,⟨1,aIq a 17,hLq tV H 0 0 0,hLq tV H 1 0 0,elT H 4,slN (slT (rwT (elT H 3) 0) 0),elT H 5⟩)⟩],U9,[(some 2,λp s=>upq (ib5 p s) [(18,b (decide (s.J7<p.fb6)))]),(some 2,λp s=>upq (ib6 p s) [(18,b (decide (s.J7<p.fb6)))])],nc7⟩
theorem nc8:Wa2.OkM:=Lo.okM [Wa1.prM] (by kernel_rfl) (.cons nc6 .nil) rfl (.cons (λa H=>by kernel_rfl) (.cons (λa H=>by kernel_rfl) .nil)) λp s=>(.sel (Nat.beq s.ph 1) (.of @Q3 (λF _ _ _ _ _=>by unfold Q3;(repeat' apply q8 (f:=F))<;>rfl) (by kernel_rfl)) (.of @Q1 (λF _ _ _ _ _=>by unfold Q1;(repeat' apply q8 (f:=F))<;>rfl) (by kernel_rfl)))
structure S3 where
 is9:Int
structure A3 where
 ph:Nat
 A6:Int
 (c9 e8:List V3)
 eh4:List (List c7)
 A7:Nat
 eh5:List (List c7)
noncomputable def ib7(p:S3)(s:A3):St:=⟨.unk::.ptr 0 0 0 0::ra 7 (i p.is9::i s.A6::ra 49 (i 0::.unk::.ptr 1 0 0 0::.v (.slice none 0 0)::i 0::.unk::.ptr 2 0 0 0::.ptr 3 0 0 0::ra 28 [])),[⟨0,1,[[eL tV s.c9]],true,false,0⟩,⟨0,1,[[eL tV s.e8]],true,false,0⟩,⟨0,0,[[.ptr 4 0 0 0]],true,false,0⟩,⟨0,0,[[.v (.slice none 0 0)]],true,false,0⟩,⟨77,0,s.eh4,true,false,0⟩]⟩
noncomputable def ib8(p:S3)(s:A3):St:=⟨.unk::.ptr 0 0 0 0::ra 7 (i p.is9::i s.A6::ra 49 (i 0::.unk::.ptr 1 0 0 0::.v (.slice none 0 0)::i 0::.unk::.ptr 2 0 0 0::.ptr 3 0 0 0::ra 28 [])),[⟨0,1,[[eL tV s.c9]],true,false,0⟩,⟨0,1,[[eL tV s.e8]],true,false,0⟩,⟨0,0,[[.ptr 4 0 0 0]],true,false,0⟩,⟨0,0,[[.sl 5 0 s.A7 0]],true,false,0⟩,⟨77,0,s.eh4,true,false,0⟩,⟨45,4,s.eh5,true,false,0⟩]⟩
noncomputable def nc9(p:S3)(s:A3):St:=(sel (Nat.beq s.ph 1) (ib8 p s) (ib7 p s))
noncomputable def Q4{α:Type}(k:A3->α)(e:Nat->α)(z:α)(p:S3)(s:A3):α:=let t1:=(lp (U9 (⟨s.A6,p.is9,s.A6,(↑(s.A6.toNat-0):Int)⟩:O0)) (⟨0,0,rt tV s.c9,rt tV s.e8,s.eh4,0,[]⟩:v8));(sl (decide (s.A6<p.is9)) (sl (inB s.A6 ((List.length s.c9)+1)) (sl ((cnE tV s.c9)&&((cnE tV s.e8)&&true)) (sl (Nat.beq t1.1 1) (k ⟨0,W (s.A6+1),t1.2.c9,t1.2.e8,t1.2.eh4,0,[]⟩) (sl (Nat.beq t1.1 2) (k ⟨1,W (s.A6+1),t1.2.c9,t1.2.e8,t1.2.eh4,t1.2.A7,t1.2.eh5⟩) z)) z) z) (e 1))
noncomputable def Q5{α:Type}(k:A3->α)(e:Nat->α)(z:α)(p:S3)(s:A3):α:=let t1:=(lp (U9 (⟨s.A6,p.is9,s.A6,(↑(s.A6.toNat-0):Int)⟩:O0)) (⟨1,0,rt tV s.c9,rt tV s.e8,s.eh4,s.A7,s.eh5⟩:v8));(sl (decide (s.A6<p.is9)) (sl (inB s.A6 ((List.length s.c9)+1)) (sl ((cnE tV s.c9)&&((cnE tV s.e8)&&true)) (sl (Nat.beq t1.1 1) (k ⟨0,W (s.A6+1),t1.2.c9,t1.2.e8,t1.2.eh4,0,[]⟩) (sl (Nat.beq t1.1 2) (k ⟨1,W (s.A6+1),t1.2.c9,t1.2.e8,t1.2.eh4,t1.2.A7,t1.2.eh5⟩) z)) z) z) (e 2))
noncomputable def wa2(p:S3)(s:A3):Stp A3:=(sel (Nat.beq s.ph 1) (Q5 .next .exit .fail p s) (Q4 .next .exit .fail p s))
noncomputable def Wa3:Lo S3 A3:=⟨En Ja0,0,ee9,[1,1,1,1,1,0,1,4,4,1,4,4],[1,9,10,60,62,63,64,66,67],.s .p (.s .p (.s (.b (.s .p (.s .p (.b (.u Wa2.lsM))))) .p)),[⟨sUq::sPq 0::ru2 7 (sIq::sIq::ru2 49 (.s (.o (.lit .i64 0))::sUq::sPq 1::.s (.o .nil)::.s (.o (.lit .i64 0))::sUq::sPq 2::sPq 3::ru2 28 [])),[⟨0,1,true,some [[.c 3 (nL tV)]]⟩,⟨0,1,true,some [[.c 3 (nL tV)]]⟩,⟨0,0,true,some [[.o (.ptr 4 0 0 0)]]⟩,⟨0,0,true,some [[.o .nil]]⟩,⟨77,0,true,none⟩],λa H=>(⟨aIq a 9⟩,⟨0,aIq a 10,hLq tV H 0 0 0,hLq tV H 1 0 0,elT H 4,0,[]⟩)⟩,⟨sUq::sPq 0::ru2 7 (sIq::sIq::ru2 49 (.s (.o (.lit .i64 0))::sUq::sPq 1::.s (.o .nil)::.s (.o (.lit .i64 0))::sUq::sPq 2::sPq 3::ru2 28 [])),[⟨0,1,true,some [[.c 3 (nL tV)]]⟩,⟨0,1,true,some [[.c 3 (nL tV)]]⟩,⟨0,0,true,some [[.o (.ptr 4 0 0 0)]]⟩,⟨0,0,true,some [[.o (.sl 5 0 (some 0) none)]]⟩,⟨77,0,true,none⟩,⟨45,4,true,none⟩],λa H=>(⟨aIq a 9⟩,⟨1,aIq a 10,hLq tV H 0 0 0,hLq tV H 1 0 0,elT H 4,slN (slT (rwT (elT H 3) 0) 0),elT H 5⟩)⟩],wa2,[(some 0,λp s=>upq (ib7 p s) [(11,b (decide (s.A6<p.is9)))]),(some 0,λp s=>upq (ib8 p s) [(11,b (decide (s.A6<p.is9)))])],nc9⟩
theorem oc0:Wa3.OkM:=Lo.okM [Wa2.prM] (by kernel_rfl) (.cons nc8 .nil) rfl (.cons (λa H=>by kernel_rfl) (.cons (λa H=>by kernel_rfl) .nil)) λp s=>(.sel (Nat.beq s.ph 1) (.of @Q5 (λF _ _ _ _ _=>by unfold Q5;(repeat' apply q8 (f:=F))<;>rfl) (by kernel_rfl)) (.of @Q4 (λF _ _ _ _ _=>by unfold Q4;(repeat' apply q8 (f:=F))<;>rfl) (by kernel_rfl)))
noncomputable def ha9(x:V3×List V3):Option (c7×List c8):=let t1:=(Ba2 (rt tV (x.1::x.2)));let t2:=(Ma6 (hC tV (λk=>(tV).row (gL tV (x.1::x.2) k)),tC tV (List.length x.2) (λk=>(tV).row (gL tV (x.1::x.2) k))));let t3:=(lp (wa2 (⟨(↑(List.length t2):Int)⟩:S3)) (⟨0,0,rt tV t2,rt tV t2,[],0,[]⟩:A3));(sl (okE tV (x.1::x.2)) (sl (Ba3 (rt tV (x.1::x.2))) (sl (t1 != 0) (some (.tup [.v (.slice none 0 0),i t1],[])) (sl (okL tV (List.length x.2+1) (λk=>(tV).row (gL tV (x.1::x.2) k))) (sl (Ma7 (hC tV (λk=>(tV).row (gL tV (x.1::x.2) k)),tC tV (List.length x.2) (λk=>(tV).row (gL tV (x.1::x.2) k)))) (sl ((cnE tV t2)&&((cnE tV t2)&&true)) (sl (Nat.beq t3.1 1) none (sl (Nat.beq t3.1 2) (sl (Bool.and (Nat.ble t3.2.A7 room) (Bool.and (Nat.ble t3.2.A7 (len t3.2.eh5)) (okS tP t3.2.eh5 0 t3.2.A7))) (some (.tup [.sl 0 0 t3.2.A7 0,i 0],[⟨45,4,app (bL tP (Hb6 (slR tP t3.2.eh5 0 t3.2.A7))) (j6 t3.2.eh5 t3.2.A7),true,false,0⟩])) none) none)) none) none) none)) none) none)
noncomputable def Qa0(x:V3×List V3):List Pln×Int:=J0 (two (r1L tP) r1I) (ha9 x)
noncomputable def Qa1(x:V3×List V3):Bool:=okO (two (r1L tP) r1I) (ha9 x)
noncomputable def Vb2:Sum:=K2 (hd9 tV) (λx=>.guard (Qa1 x) (.ret ((two (r1L tP) r1I).enc (Qa0 x),[])))
theorem Ib6:g8 prog G 11 Vb2:=ta0 (bd b11 Ac5) (two (r1L tP) r1I) (o:=ha9) λx=>Cd8 (.s .p (.s .p (.s .p (.s .p (.s .p (.s (.s .p (.b (.i (.s .p (.b (.u Wa3.lsM)))))) .p)))))) [Wa3.prM] (by kernel_rfl) (.cons oc0 .nil) (by kernel_rfl)
end Go.Ev.Ce
