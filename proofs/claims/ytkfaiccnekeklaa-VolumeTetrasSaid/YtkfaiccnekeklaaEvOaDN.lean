/- Own work. -/
import Derived.Test.YtkfaiccnekeklaaChecked
import Derived.Test.YtkfaiccnekeklaaEvOaCePf
import Derived.KernelRfl
set_option linter.all false
def Qha:=@List.getD_eq_getElem?_getD
def Qhb:=@List.getElem?_eq_getElem
def Qhc:=@List.drop_eq_getElem_cons
def Qhd:=@Eq.trans
def Qhe:=@Nat.le_refl
def Qhf:=@List.length_mergeSort
def Qhg:=@Bool.false_eq_true
namespace Go.Ev.Ce
open Go Go.Ev Go.Proofs
set_option maxRecDepth 1000000
theorem mx:(Try.prog).follows .mixedOrders=true:=Checked.mixed Try.checked
abbrev Bdq(n:Nat)(pf:PFn):Prop:=Vc0 Try.prog n λE=>Ob9 E pf
theorem bdq{f:FuncId}{fn:Func}(hf:(Try.prog).funcs[f]?=some fn)(hn:decide (fn.name ≠ "runtime.NumGoroutine")=true:=by kernel_rfl)(hc:Option.isSome (i6 Try.prog fn)=true:=by kernel_rfl):Bdq f (got (i6 Try.prog fn)):=je8 mx hf hn (Ac5 hc)
theorem b3:Bdq 3 pf3:=bdq Try.func3
theorem b4:Bdq 4 pf4:=bdq Try.func4
theorem b5:Bdq 5 pf5:=bdq Try.func5
theorem b6:Bdq 6 pf6:=bdq Try.func6
theorem b7:Bdq 7 pf7:=bdq Try.func7
theorem b8:Bdq 8 pf8:=bdq Try.func8
theorem b9:Vc0 Try.prog 9 λE=>ab1 E pf9:=ud6 (h:=h9) mx Try.func9 (by kernel_rfl) Try.func20 (by kernel_rfl) (Ac5 (by kernel_rfl))
theorem b10:Bdq 10 je9:=bdq Try.func10
theorem b11:Bdq 11 ke0:=bdq Try.func11
theorem b12:Bdq 12 ke1:=bdq Try.func12
theorem b13:Bdq 13 ke2:=bdq Try.func13
theorem b14:Bdq 14 ke3:=bdq Try.func14
theorem b15:Bdq 15 ke4:=bdq Try.func15
theorem b16:Bdq 16 ke5:=bdq Try.func16
theorem b17:Bdq 17 ke6:=bdq Try.func17
theorem b18:Vc0 Try.prog 18 λE=>ab1 E Jd8:=ud6 (h:=h18) mx Try.func18 (by kernel_rfl) Try.func48 (by kernel_rfl) (Ac5 (by kernel_rfl))
theorem b19:Bdq 19 ee7:=bdq Try.func19
theorem b20:Bdq 20 ke7:=bdq Try.func20
theorem b21:Bdq 21 ee8:=bdq Try.func21
theorem b22:Bdq 22 ee9:=bdq Try.func22
theorem b23:Bdq 23 ke8:=bdq Try.func23
theorem b24:Bdq 24 ke9:=bdq Try.func24
theorem b25:Bdq 25 fe0:=bdq Try.func25
theorem b26:Bdq 26 Wd7:=bdq Try.func26
theorem b27:Bdq 27 fe1:=bdq Try.func27
theorem b28:Bdq 28 le0:=bdq Try.func28
theorem b29:Bdq 29 le1:=bdq Try.func29
theorem b30:Bdq 30 fe2:=bdq Try.func30
theorem b31:Bdq 31 le2:=bdq Try.func31
theorem b33:Bdq 33 le3:=bdq Try.func33
theorem b34:Bdq 34 le4:=bdq Try.func34
theorem b35:Bdq 35 le5:=bdq Try.func35
theorem b36:Bdq 36 le6:=bdq Try.func36
theorem b37:Bdq 37 fe3:=bdq Try.func37
theorem b38:Bdq 38 le7:=bdq Try.func38
theorem b39:Bdq 39 le8:=bdq Try.func39
theorem b40:Bdq 40 ud7:=bdq Try.func40
theorem b41:Bdq 41 le9:=bdq Try.func41
theorem b43:Bdq 43 me0:=bdq Try.func43
theorem b44:Bdq 44 Wd8:=bdq Try.func44
theorem b45:Bdq 45 me1:=bdq Try.func45
theorem b46:Bdq 46 me2:=bdq Try.func46
theorem b47:Vc0 Try.prog 47 λE=>ab1 E Jd9:=ud6 (h:=h47) mx Try.func47 (by kernel_rfl) Try.func48 (by kernel_rfl) (Ac5 (by kernel_rfl))
theorem b49:Bdq 49 me3:=bdq Try.func49
theorem b50:Bdq 50 me4:=bdq Try.func50
theorem b51:Bdq 51 me5:=bdq Try.func51
theorem b54:Bdq 54 fe4:=bdq Try.func54
theorem b55:Bdq 55 Wd9:=bdq Try.func55
theorem b56:Bdq 56 fe5:=bdq Try.func56
theorem b58:Bdq 58 fe6:=bdq Try.func58
theorem b59:Bdq 59 me6:=bdq Try.func59
theorem b60:Bdq 60 me7:=bdq Try.func60
theorem b61:Bdq 61 me8:=bdq Try.func61
theorem b72:Bdq 72 me9:=bdq Try.func72
theorem b81:Bdq 81 ne2:=bdq Try.func81
end Go.Ev.Ce
namespace Go.Ev.L
open Go Go.Ev
noncomputable def jb7:RT->PC->PS2
 |.s a b,.seq x y=>.seq (jb7 a x) (jb7 b y)
 |.c a b,.cond g x y=>.cond g (jb7 a x) (jb7 b y)
 |.b a,.block id x=>.block id (jb7 a x)
 |.i a,.inner f x n c=>.inner f x n (jb7 a c)
 |.u S,_=>.sum S
 |_,c=>.pc c
theorem Ac6{E:Env}{k:Nat}(rt:RT)(c:PC):ta6 (λx=>∀s,N8 (x.1 s) (E6 E k x.2 s)) (qb3 rt c)->V5 E k (jb7 rt c) c:=by
 induction rt generalizing c with
 |p=>intro h;cases c<;>exact .pc _
 |s a b iha ihb =>
  intro h;cases c with
  |seq x y=>exact .seq (iha x (ta6.app h).1) (ihb y (ta6.app h).2)
  |_=>exact .pc _
 |c a b iha ihb =>
  intro h;cases c with
  |cond g x y=>exact .cond g (iha x (ta6.app h).1) (ihb y (ta6.app h).2)
  |_=>exact .pc _
 |b a iha =>
  intro h;cases c with
  |block id x=>exact .block id (iha x h)
  |_=>exact .pc _
 |l a iha=>intro h;cases c<;>exact .pc _
 |i a iha =>
  intro h;cases c with
  |inner f x n c=>exact .inner f x n (iha c h)
  |_=>exact .pc _
 |u S =>
  intro h
  have:qb3 (.u S) c=[(S,c)]:=by cases c<;>rfl
  rw[this] at h;cases h with
  |cons h t =>
   have e:jb7 (.u S) c=.sum S:=by cases c<;>rfl
   rw[e];exact .sum h
section
variable{π σ:Type}{E:Env}{k:Nat}{keep:List Nat}{alts:List (Al2 π σ)}{enc:π->σ->St}{step:π->σ->Stp σ}{xs:Xs π σ}{body:PS2}{c:PC}
theorem ib8.belowM(hb:V5 E k body c)(hN:E.N=rounds+1)(w:ib8 Lc1 k keep (Jb7 E k body) alts step xs enc)(s:St):N8 (sc8 Lc1 k keep alts step xs s) (E6 E k (.loopM keep c) s):=λr hr=>by
 obtain⟨t,h1,h2⟩:=w.go hr;rw[Uc9,hN];exact Za6 hb.le _ _ _ (nb9 h1 h2)
theorem ib8.belowML(hb:V5 E k body c)(hN:E.N=rounds+1)(w:ib8 ib5 k keep (Jb7 E k body) alts step xs enc)(s:St):N8 (sc8 ib5 k keep alts step xs s) (E6 E k (.loop keep c) s):=λr hr=>by
 obtain⟨t,h1,h2⟩:=w.go hr;rw[sc7,hN];exact Za6 hb.le _ _ _ (nb9 h1 h2)
end
end Go.Ev.L
namespace Go.Ev.Ab
open Go Go.Ev
@[reducible] def o(d:Nat)(x:PO):PI:=⟨some d,none,[],x⟩
@[reducible] def s(x:PO):PI:=⟨none,none,[],x⟩
@[reducible] def ci(n:Int):Arg:=.c (.v (.int .i64 n))
@[reducible] def cb(b:Bool):Arg:=.c (.v (.bool b))
@[reducible] def vi(n:Int):a7:=.v (.int .i64 n)
@[reducible] def rep{α:Type}(n:Nat)(x:α):List α:=List.replicate n x
@[reducible] def ki(n:Nat):List CK:=List.replicate n (.int .i64)
@[reducible] def mv(d n:Nat):PI:=o d (.mv (.t n))
@[reducible] def mc(d:Nat)(n:Int):PI:=o d (.mv (ci n))
@[reducible] def mb(d:Nat)(x:Bool):PI:=o d (.mv (cb x))
@[reducible] def fd(d k n:Nat):PI:=o d (.fld k (.t n))
@[reducible] def ex(d x k:Nat):PI:=o d (.ext (.t x) k)
@[reducible] def ca(d f:Nat)(l:List Arg):PI:=o d (.call f l)
@[reducible] def so(l:List PI)(x:PC):PC:=.seq (.ops l) x
@[reducible] def sq(x y:PC):PC:=.seq x y
@[reducible] def ts(l:List Nat):List Arg:=l.map .t
@[reducible] def cl(f:Nat)(l:List Nat):PO:=.call f (ts l)
@[reducible] def sT(k a b:Nat):PI:=s (.store k (.t a) (.t b))
@[reducible] def pa(d c x:Nat):PI:=o d (.pick (.t c) (.t x) (cb false))
@[reducible] def po(d c x:Nat):PI:=o d (.pick (.t c) (cb true) (.t x))
@[reducible] def al(d k:Nat)(n:Int):PI:=o d (.alloc (rep k (vi n)))
@[reducible] def ap(d et es n x y:Nat):PI:=o d (.append et es n (.t x) (.t y))
end Go.Ev.Ab
namespace Go.Ev.L
open Go Go.Ev
def Cps{π σ:Type}(u:∀{α:Type},(σ->α)->(Nat->α)->α->π->σ->α):Prop :=
 ∀{α β:Type} (F:α->β) (k:σ->α) (e:Nat->α) (z:α) (p:π) (s:σ),F (u k e z p s)=u (λx=>F (k x)) (λt=>F (e t)) (F z) p s
@[reducible] noncomputable def foL{π σ:Type}(en:π->σ->St)(xs:Xs π σ)(p:π)(s:σ):Stp σ->Option (d8×St):=ib6 (λs'=>some (.normal,en p s')) (λt=>xOf xs p s t 1) none
structure Lo(π σ:Type) where
 E:Env
 k:Nat
 F:PFn
 at':List Nat
 kp:List Nat
 rt:RT
 al:List (Al2 π σ)
 st:π->σ->Stp σ
 xs:Xs π σ
 en:π->σ->St
namespace Lo
variable{π σ:Type}(L:Lo π σ)
noncomputable def lc:PC:=je6 L.at' L.F.body
noncomputable def ls:St->DT (d8×St):=sc8 ib5 L.k L.kp L.al L.st L.xs
noncomputable def lsM:St->DT (d8×St):=sc8 Lc1 L.k L.kp L.al L.st L.xs
noncomputable def pr:(St->DT (d8×St))×PC:=(L.ls,.loop L.kp L.lc)
noncomputable def prM:(St->DT (d8×St))×PC:=(L.lsM,.loopM L.kp L.lc)
def Ok:Prop:=∀s,S3 L.k L.F.res (L.pr.1 s) (E6 L.E L.k L.pr.2 s)
def OkE:Prop:=∀s,N8 (L.pr.1 s) (E6 L.E L.k L.pr.2 s)
def OkM:Prop:=∀s,N8 (L.prM.1 s) (E6 L.E L.k L.prM.2 s)
def Rd(hd:St->DT St)(bd:St->DT (d8×St))(p:π)(s:σ)(a:St)(b:Stp σ):Prop:=(Za7 hd bd a).run=foL L.en L.xs p s b
def H0:Prop:=∀p s,L.Rd (ib5 L.k L.kp) (Zc6 L.E L.k L.F.res (nc3 L.rt L.lc)) p s (L.en p s) (L.st p s)
def H1:Prop:=∀p s,L.Rd (ib5 L.k L.kp) (Jb7 L.E L.k (jb7 L.rt L.lc)) p s (L.en p s) (L.st p s)
def H2:Prop:=∀p s,L.Rd (Lc1 L.k L.kp) (Jb7 L.E L.k (jb7 L.rt L.lc)) p s (L.en p s) (L.st p s)
def HA:Prop:=ta6 (λx=>∀a H,(⟨id7 x.sh a,id8 x.bl H⟩:St)=L.en (x.rd a H).1 (x.rd a H).2) L.al
variable{L}
theorem Rd.of {hd : St → DT St} {bd : St → DT (d8 × St)} {p : π} {s : σ} {a : St} (u : ∀ {α : Type}, (σ → α) → (Nat → α) → α → π → σ → α)
  (q:Cps @u) (H:(Za7 hd bd a).run=u (λx=>foL L.en L.xs p s (.next x)) (λt=>foL L.en L.xs p s (.exit t)) (foL L.en L.xs p s .fail) p s):L.Rd hd bd p s a (u .next .exit .fail p s) :=
 H.trans (q (foL L.en L.xs p s) Stp.next Stp.exit Stp.fail p s).symm
theorem Rd.sel{hd:St->DT St}{bd:St->DT (d8×St)}{p:π}{s:σ}{a1 a0:St}{b1 b0:Stp σ}(c:Bool)(h1:L.Rd hd bd p s a1 b1)(h0:L.Rd hd bd p s a0 b0):L.Rd hd bd p s (sel c a1 a0) (sel c b1 b0):=by
 cases c with
 |true=>exact h1
 |false=>exact h0
theorem ok(l:List ((St->DT (d8×St))×PC))(hs:qb3 L.rt L.lc=l)(hl:ta6 (λx=>∀s,S3 L.k L.F.res (x.1 s) (E6 L.E L.k x.2 s)) l)(hN:L.E.N=rounds+1)(ha:L.HA)(h:L.H0):L.Ok :=
 ib8.belowC (ad7 _ _ (by rw[hs];exact hl)) hN ⟨ha,h⟩
theorem okE(l:List ((St->DT (d8×St))×PC))(hs:qb3 L.rt L.lc=l)(hl:ta6 (λx=>∀s,N8 (x.1 s) (E6 L.E L.k x.2 s)) l)(hN:L.E.N=rounds+1)(ha:L.HA)(h:L.H1):L.OkE :=
 ib8.belowML (Ac6 _ _ (by rw[hs];exact hl)) hN ⟨ha,h⟩
theorem okM(l:List ((St->DT (d8×St))×PC))(hs:qb3 L.rt L.lc=l)(hl:ta6 (λx=>∀s,N8 (x.1 s) (E6 L.E L.k x.2 s)) l)(hN:L.E.N=rounds+1)(ha:L.HA)(h:L.H2):L.OkM :=
 ib8.belowM (Ac6 _ _ (by rw[hs];exact hl)) hN ⟨ha,h⟩
end Lo
theorem qb5 {E : Env} {F : PFn} {args : List a7} {blks : List c7} {o : Option (a7 × List c7)} (rt : RT) (l : List ((St → DT (d8 × St)) × PC)) (hs : qb3 rt F.body = l)
  (hl:ta6 (λx=>∀s,S3 (len blks) F.res (x.1 s) (E6 E (len blks) x.2 s)) l) (h:(de6 E F (nc3 rt F.body) args blks).run=o) (r:a7×List c7) (hr:o=some r):(Ob9 E F args blks).run=some r :=
 Sc8 (ad7 rt _ (by rw[hs];exact hl)) r (h.trans hr)
theorem tc9 {E : Env} {F : PFn} {args : List a7} {blks : List c7} {o : Option (a7 × List c7)} (rt : RT) (l : List ((St → DT (d8 × St)) × PC)) (hs : qb3 rt F.body = l)
  (hl:ta6 (λx=>∀s,N8 (x.1 s) (E6 E (len blks) x.2 s)) l) (h:(Rd2 E F (jb7 rt F.body) args blks).run=o) (r:a7×List c7) (hr:o=some r):(ab1 E F args blks).run=some r :=
 Lc0 (Ac6 rt _ (by rw[hs];exact hl)) r (h.trans hr)
theorem F8{A o:Option (a7×List c7)}(h:A=o)(r:a7×List c7)(hr:o=some r):A=some r:=h.trans hr
noncomputable abbrev upq(x:St)(l:List (Nat×a7)):St:=⟨l.foldl (λa q=>a.set q.1 q.2) x.a,x.H⟩
noncomputable abbrev sIq:S2:=.s (.o (.int .i64))
noncomputable abbrev sUq:S2:=.s (.o .unk)
noncomputable abbrev sPq(n:Nat):S2:=.s (.o (.ptr n 0 0 0))
noncomputable abbrev sTq(n:Nat):S2:=.s (.o (.tree n))
noncomputable abbrev sLq{α:Type}(t:Ty α):S2:=.s (.c t.es (nL t))
noncomputable abbrev kLq(n:Nat):List K:=List.replicate n (.o (.int .i64))
noncomputable abbrev aIq(a:List a7)(n:Nat):Int:=toI (slT a n)
noncomputable abbrev aNq(a:List a7)(n:Nat):Nat:=toN (slT a n)
noncomputable abbrev aGq(a:List a7)(n:Nat):Nat->List a7:=toG (slT a n)
noncomputable abbrev aLq{α:Type}(t:Ty α)(a:List a7)(n:Nat):List α:=rL t (slT a n)
noncomputable abbrev hIq(H:List c7)(m r n:Nat):Int:=toI (slT (rwT (elT H m) r) n)
noncomputable abbrev cIq(a:List a7)(m n:Nat):Int:=toI (slT (cellsOf (slT a m)) n)
noncomputable abbrev cNq(a:List a7)(m n:Nat):Nat:=toN (slT (cellsOf (slT a m)) n)
noncomputable abbrev cGq(a:List a7)(m n:Nat):Nat->List a7:=toG (slT (cellsOf (slT a m)) n)
noncomputable abbrev hNq(H:List c7)(m r n:Nat):Nat:=toN (slT (rwT (elT H m) r) n)
noncomputable abbrev hGq(H:List c7)(m r n:Nat):Nat->List a7:=toG (slT (rwT (elT H m) r) n)
noncomputable abbrev hLq{α:Type}(t:Ty α)(H:List c7)(m r n:Nat):List α:=rL t (slT (rwT (elT H m) r) n)
end Go.Ev.L
namespace Go.Ev.Ce
structure V3 where
 x:Int
 y:Int
 z:Int
structure Pln where
 n:V3
 b:Int
structure Pt where
 px:Int
 py:Int
 pz:Int
 pw:Int
def a8(a b:V3):V3:=⟨a.y*b.z-a.z*b.y,a.z*b.x-a.x*b.z,a.x*b.y-a.y*b.x⟩
def dot(a b:V3):Int:=a.x*b.x+a.y*b.y+a.z*b.z
def mw(p q r:Pln):Int:=dot p.n (a8 q.n r.n)
end Go.Ev.Ce
namespace Go.Ev.Ce
open Go Go.Ev Go.Ev.L Go.Proofs
@[reducible] noncomputable def prog:Program:=Try.prog
noncomputable def G:Nat->List Value:=λ_=>[]
noncomputable def En(l:List (Nat×Sum)):Env:={ P:=prog,G,fns:=λ_=>none,call:=Ud4 l,own:=λf j=>Bool.and (Ba2 f [32,27,56,40,42,44]) (Nat.beq j 0),N:=18446744073709551616 }
@[reducible] def u:a7:=.v (.tuple #[])
theorem fe7{l:List (Nat×Sum)}(h:n8 prog G l):∀f,g9 (En l).P (En l).G f ((En l).call f):=Zc4 h
theorem bd{l:List (Nat×Sum)}{f:FuncId}{R:Env->Sum}(b:Vc0 prog f R)(h:n8 prog G l):g9 prog G f (R (En l)):=b rfl (fe7 h)
noncomputable def tV:Ty V3 where
 es:=3
 row x:=[i x.x,i x.y,i x.z]
 rd r:=⟨toI (hdA r),toI (hdA (tlA r)),toI (hdA (tlA (tlA r)))⟩
 ok r:=xa7 3 r
 cks:=List.replicate 3 (.int .i64)
 d:=⟨0,0,0⟩
 h0 _:=rfl
 h1 _:=rfl
 h2 _:=rfl
 h3 _ h:=.of (Ia4 h)
 h4 _:=rfl
 h5 _:=rfl
noncomputable def r1V:R1 V3:=r1A tV 3 λ_ h=>h
noncomputable def tP:Ty Pln where
 es:=4
 row x:=[i x.n.x,i x.n.y,i x.n.z,i x.b]
 rd r:=⟨⟨toI (hdA r),toI (hdA (tlA r)),toI (hdA (tlA (tlA r)))⟩,toI (hdA (tlA (tlA (tlA r))))⟩
 ok r:=xa7 4 r
 cks:=List.replicate 4 (.int .i64)
 d:=⟨⟨0,0,0⟩,0⟩
 h0 _:=rfl
 h1 _:=rfl
 h2 _:=rfl
 h3 _ h:=.of (Ia4 h)
 h4 _:=rfl
 h5 _:=rfl
noncomputable def r1P:R1 Pln:=r1A tP 4 λ_ h=>h
structure Tp where
 p:Pln
 q:Pln
 r:Pln
structure Q2 where
 a:V3
 b:V3
set_option maxRecDepth 100000
noncomputable def ob5(x:V3)(y:V3):Int:=(W ((W ((W (x.x*y.x))+(W (x.y*y.y))))+(W (x.z*y.z))))
noncomputable def Pa8(x:V3)(y:V3):V3:=(⟨W ((W (x.y*y.z))-(W (x.z*y.y))),W ((W (x.z*y.x))-(W (x.x*y.z))),W ((W (x.x*y.y))-(W (x.y*y.x)))⟩:V3)
noncomputable def ua0(x:Int):Option (a7×List c7):=(sl (decide (x<0)) (some (i (W (0-x)),[])) (some (i x,[])))
noncomputable def ha8(x:Int):Int:=T8 (one r1I) (ua0 x)
noncomputable def ha9(x:Int):Bool:=okO (one r1I) (ua0 x)
structure ka9 where
 (is6 e8 e7 g8 ma7 ma8 ma9:Int)
structure S5 where
 (is5 is7:Int)
noncomputable def Ka7{α:Type}(k:S5->α)(e:Nat->α)(z:α)(p:ka9)(s:S5):α:=(sl (decide (s.is7>0)) (sl (s.is7==0) z (k ⟨s.is7,Int.tmod s.is5 s.is7⟩)) (e 1))
noncomputable def Z3(p:ka9)(s:S5):Stp S5:=Ka7 .next .exit .fail p s
noncomputable def ab4(x:V3):Option (a7×List c7):=let t1:=(ha8 x.x);let t2:=(lp (Z3 (⟨0,x.x,x.y,x.z,x.x,x.y,x.z⟩:ka9)) (⟨0,t1⟩:S5));let t3:=(ha8 x.y);let t4:=(lp (Z3 (⟨1,x.x,x.y,x.z,x.x,x.y,x.z⟩:ka9)) (⟨t2.2.is5,t3⟩:S5));let t5:=(ha8 x.z);let t6:=(lp (Z3 (⟨2,x.x,x.y,x.z,x.x,x.y,x.z⟩:ka9)) (⟨t4.2.is5,t5⟩:S5));(sl (x.x==(-9223372036854775808)) (some (.tup [.agg [i 0,i 0,i 0],i 0],[])) (sl (ha9 x.x) (sl (Nat.beq t2.1 1) (sl (x.y==(-9223372036854775808)) (some (.tup [.agg [i 0,i 0,i 0],i 0],[])) (sl (ha9 x.y) (sl (Nat.beq t4.1 1) (sl (x.z==(-9223372036854775808)) (some (.tup [.agg [i 0,i 0,i 0],i 0],[])) (sl (ha9 x.z) (sl (Nat.beq t6.1 1) (sl (t6.2.is5==0) (some (.tup [.agg [i 0,i 0,i 0],i 0],[])) (sl (t6.2.is5==0) none (sl (t6.2.is5==0) none (sl (t6.2.is5==0) none (some (.tup [.agg [i (W (Int.tdiv x.x t6.2.is5)),i (W (Int.tdiv x.y t6.2.is5)),i (W (Int.tdiv x.z t6.2.is5))],i t6.2.is5],[])))))) none) none)) none) none)) none) none))
noncomputable def xa8(x:V3):V3×Int:=T8 (two r1V r1I) (ab4 x)
noncomputable def ab5(x:V3):Bool:=okO (two r1V r1I) (ab4 x)
noncomputable def Pa9(x:Pln):Option (a7×List c7):=let t1:=(xa8 x.n);(sl (decide (x.n.x<(-4608))) (some (b false,[])) (sl (decide (x.n.x>4608)) (some (b false,[])) (sl (decide (x.n.y<(-4608))) (some (b false,[])) (sl (decide (x.n.y>4608)) (some (b false,[])) (sl (decide (x.n.z<(-4608))) (some (b false,[])) (sl (decide (x.n.z>4608)) (some (b false,[])) (sl (ab5 x.n) (sl (t1.2==1) (sl (decide (x.b>=(-2097152))) (some (b (decide (x.b<=2097152)),[])) (some (b false,[]))) (some (b false,[]))) none)))))))
noncomputable def Lc2(x:Pln):Bool:=T8 (one r1B) (Pa9 x)
noncomputable def jb8(x:Pln):Bool:=okO (one r1B) (Pa9 x)
noncomputable def Vc1:List (Nat×Sum):=[]
theorem Lc3:n8 prog G Vc1:=trivial
noncomputable def Va6(x:Int)(y:Int):Option (a7×List c7):=(sl (decide (y<1)) (some (i 0,[])) (sl (y==0) none (sl (y==0) none (some (i (Int.tmod (W ((Int.tmod x y)+y)) y),[])))))
noncomputable def ob6(x:Int)(y:Int):Int:=T8 (one r1I) (Va6 x y)
noncomputable def ob7(x:Int)(y:Int):Bool:=okO (one r1I) (Va6 x y)
noncomputable def uc0:Sum:=Oa1 cI cI (λx y=>.guard (ob7 x y) (.ret ((one r1I).enc (ob6 x y),[])))
theorem Vc2:g9 prog G 24 uc0:=Sb0 (bd b24 Lc3) (one r1I) (o:=Va6) λx y=>F8 (by kernel_rfl)
noncomputable def Ac7:List (Nat×Sum):=[]
theorem nc6:n8 prog G Ac7:=trivial
noncomputable def p9(x:V3)(y:V3):Int:=(W ((W ((W (x.x*y.x))+(W (x.y*y.y))))+(W (x.z*y.z))))
noncomputable def ca6:Sum:=Oa1 (ta8 tV) (ta8 tV) (λx y=>.ret ((one r1I).enc (p9 x y),[]))
theorem da1:g9 prog G 6 ca6:=Xb8 (bd b6 nc6) λx y=>F8 (by kernel_rfl)
noncomputable def ec9:List (Nat×Sum):=[]
theorem Sb1:n8 prog G ec9:=trivial
noncomputable def q8(x:V3)(y:V3):V3:=(⟨W ((W (x.y*y.z))-(W (x.z*y.y))),W ((W (x.z*y.x))-(W (x.x*y.z))),W ((W (x.x*y.y))-(W (x.y*y.x)))⟩:V3)
noncomputable def Z4:Sum:=Oa1 (ta8 tV) (ta8 tV) (λx y=>.ret ((one r1V).enc (q8 x y),[]))
theorem ba4:g9 prog G 7 Z4:=Xb8 (bd b7 Sb1) λx y=>F8 (by kernel_rfl)
noncomputable def db5:List (Nat×Sum):=[]
theorem Jb8:n8 prog G db5:=trivial
structure ba5 where
 is0:Int
 ed8:List Int
 is8:Int
structure D4 where
 is9:Int
noncomputable def Qa0(p:ba5)(s:D4):St:=⟨i p.is0::ra 6 (eL tI p.ed8::i p.is8::i s.is9::ra 13 []),[]⟩
noncomputable def U8{α:Type}(k:D4->α)(e:Nat->α)(z:α)(p:ba5)(s:D4):α:=(sl (decide (s.is9<p.is8)) (sl (inB s.is9 (List.length p.ed8)) (sl (decide ((gL tI p.ed8 s.is9.toNat)<(W (0-p.is0)))) (e 1) (sl (decide ((gL tI p.ed8 s.is9.toNat)>p.is0)) (e 1) (k ⟨W (s.is9+1)⟩))) z) (e 2))
noncomputable def X9(p:ba5)(s:D4):Stp D4:=U8 .next .exit .fail p s
noncomputable def xa9:Lo ba5 D4:=⟨En db5,0,fe4,[1,0,1,4,4],[0,7,8,9],.p,[⟨sIq::ru2 6 (sLq tI::sIq::sIq::ru2 13 []),[],λa H=>(⟨aIq a 0,aLq tI a 7,aIq a 8⟩,⟨aIq a 9⟩)⟩],X9,[(none,λp s=>⟨[b false],[]⟩),(some 0,λp s=>upq (Qa0 p s) [(10,b (decide (s.is9<p.is8)))])],Qa0⟩
theorem Cb5:xa9.Ok:=Lo.ok [] (by kernel_rfl) .nil rfl (.cons (λa H=>by kernel_rfl) .nil) λp s=>(.of @U8 (λF _ _ _ _ _=>by unfold U8;(repeat' apply w8 (f:=F))<;>rfl) (by kernel_rfl))
noncomputable def ia0(x:Int)(y:List Int):Option (a7×List c7):=let t1:=(lp (X9 (⟨x,rt tI y,(↑(List.length y):Int)⟩:ba5)) (⟨0⟩:D4));(sl ((cnE tI y)&&true) (sl (Nat.beq t1.1 1) (some (b false,[])) (sl (Nat.beq t1.1 2) (some (b true,[])) none)) none)
noncomputable def ba6(x:Int)(y:List Int):Bool:=T8 (one r1B) (ia0 x y)
noncomputable def ba7(x:Int)(y:List Int):Bool:=okO (one r1B) (ia0 x y)
noncomputable def Ka8:Sum:=Oa1 cI (Ba4 tI) (λx y=>.guard (ba7 x y) (.ret ((one r1B).enc (ba6 x y),[])))
theorem db6:g9 prog G 54 Ka8:=Sb0 (bd b54 Jb8) (one r1B) (o:=ia0) λx y=>qb5 (.s .p (.s (.s .p (.b (.u xa9.ls))) .p)) [xa9.pr] (by kernel_rfl) (.cons Cb5 .nil) (by kernel_rfl)
noncomputable def Cb6:List (Nat×Sum):=[]
theorem wb9:n8 prog G Cb6:=trivial
noncomputable def la0(x:Int):Int:=(if (W (0-x))>x then (W (0-x)) else x)
noncomputable def Va7:Sum:=O8 cI (λx=>.ret ((one r1I).enc (la0 x),[]))
theorem Cb7:g9 prog G 72 Va7:=ob0 (bd b72 wb9) λx=>F8 (by kernel_rfl)
noncomputable def ya0:List (Nat×Sum):=[(72,Va7)]
theorem Cb8:n8 prog G ya0:=⟨Cb7,trivial⟩
structure O9 where
 Qa9:List Int
 (is7 is8:Int)
structure F4 where
 (is3 is5:Int)
noncomputable def Ka9(p:O9)(s:F4):St:=⟨ra 3 (i s.is3::.unk::i s.is5::eL tI p.Qa9::i p.is7::i p.is8::ra 15 []),[]⟩
noncomputable def R8{α:Type}(k:F4->α)(e:Nat->α)(z:α)(p:O9)(s:F4):α:=(sl (decide (s.is5>0)) (sl (s.is5==0) z (k ⟨s.is5,Int.tmod s.is3 s.is5⟩)) (e 1))
noncomputable def M3(p:O9)(s:F4):Stp F4:=R8 .next .exit .fail p s
noncomputable def ua1:Lo O9 F4:=⟨En ya0,0,Wd9,[1,1,0,1,4,4,1,1,0,4,1,1,1,4,4],[3,5,6,7,8],.p,[⟨ru2 3 (sIq::sUq::sIq::sLq tI::sIq::sIq::ru2 15 []),[],λa H=>(⟨aLq tI a 6,aIq a 7,aIq a 8⟩,⟨aIq a 3,aIq a 5⟩)⟩],M3,[(some 2,λp s=>upq (Ka9 p s) [(16,i s.is5),(17,b (decide (s.is5>0)))])],Ka9⟩
theorem xb0:ua1.Ok:=Lo.ok [] (by kernel_rfl) .nil rfl (.cons (λa H=>by kernel_rfl) .nil) λp s=>(.of @R8 (λF _ _ _ _ _=>by unfold R8;(repeat' apply w8 (f:=F))<;>rfl) (by kernel_rfl))
structure Y0 where
 is7:Int
structure A1 where
 is3:Int
 Qa9:List Int
 is8:Int
noncomputable def La0(p:Y0)(s:A1):St:=⟨ra 3 (i s.is3::.unk::.unk::eL tI s.Qa9::i p.is7::i s.is8::ra 15 []),[]⟩
noncomputable def R9{α:Type}(k:A1->α)(e:Nat->α)(z:α)(p:Y0)(s:A1):α:=let t1:=(la0 (gL tI s.Qa9 s.is8.toNat));let t2:=(lp (M3 (⟨rt tI s.Qa9,p.is7,s.is8⟩:O9)) (⟨s.is3,t1⟩:F4));(sl (decide (s.is8<p.is7)) (sl (inB s.is8 (List.length s.Qa9)) (sl ((gL tI s.Qa9 s.is8.toNat)==(-9223372036854775808)) (e 1) (sl ((cnE tI s.Qa9)&&true) (sl (Nat.beq t2.1 1) (k ⟨t2.2.is3,rt tI s.Qa9,W (s.is8+1)⟩) z) z)) z) (e 2))
noncomputable def U9(p:Y0)(s:A1):Stp A1:=R9 .next .exit .fail p s
noncomputable def ua2:Lo Y0 A1:=⟨En ya0,0,Wd9,[1,1,0,1,4,4],[3,6,7,8],.s .p (.s .p (.s (.b (.s .p (.s .p (.s .p (.b (.u ua1.ls)))))) .p)),[⟨ru2 3 (sIq::sUq::sUq::sLq tI::sIq::sIq::ru2 15 []),[],λa H=>(⟨aIq a 7⟩,⟨aIq a 3,aLq tI a 6,aIq a 8⟩)⟩],U9,[(none,λp s=>⟨[i 0],[]⟩),(some 0,λp s=>upq (La0 p s) [(9,b (decide (s.is8<p.is7)))])],La0⟩
theorem xb1:ua2.Ok:=Lo.ok [ua1.pr] (by kernel_rfl) (.cons xb0 .nil) rfl (.cons (λa H=>by kernel_rfl) .nil) λp s=>(.of @R9 (λF _ _ _ _ _=>by unfold R9;(repeat' apply w8 (f:=F))<;>rfl) (by kernel_rfl))
noncomputable def ea1(x:List Int):Option (a7×List c7):=let t1:=(lp (U9 (⟨(↑(List.length x):Int)⟩:Y0)) (⟨0,rt tI x,0⟩:A1));(sl ((cnE tI x)&&true) (sl (Nat.beq t1.1 1) (some (i 0,[])) (sl (Nat.beq t1.1 2) (some (i t1.2.is3,[])) none)) none)
noncomputable def R3(x:List Int):Int:=T8 (one r1I) (ea1 x)
noncomputable def R4(x:List Int):Bool:=okO (one r1I) (ea1 x)
noncomputable def Ca9:Sum:=O8 (Ba4 tI) (λx=>.guard (R4 x) (.ret ((one r1I).enc (R3 x),[])))
theorem Va8:g9 prog G 55 Ca9:=Sa0 (bd b55 Cb8) (one r1I) (o:=ea1) λx=>qb5 (.s .p (.s .p (.s (.s .p (.b (.u ua2.ls))) .p))) [ua2.pr] (by kernel_rfl) (.cons xb1 .nil) (by kernel_rfl)
noncomputable def fc0:List (Nat×Sum):=[(54,Ka8),(55,Ca9)]
theorem Sb2:n8 prog G fc0:=⟨db6,Va8,trivial⟩
noncomputable def na6(x:Pln):Option (a7×List c7):=let t1:=(ba6 4608 [x.n.x,x.n.y,x.n.z]);let t2:=(R3 [x.n.x,x.n.y,x.n.z]);let t3:=(ba6 2097152 [x.b]);(sl (ba7 4608 [x.n.x,x.n.y,x.n.z]) (sl t1 (sl (R4 [x.n.x,x.n.y,x.n.z]) (sl (t2==1) (sl (ba7 2097152 [x.b]) (some (b t3,[])) none) (some (b false,[]))) none) (some (b false,[]))) none)
noncomputable def za7(x:Pln):Bool:=T8 (one r1B) (na6 x)
noncomputable def za8(x:Pln):Bool:=okO (one r1B) (na6 x)
noncomputable def sb1:Sum:=O8 (ta8 tP) (λx=>.guard (za8 x) (.ret ((one r1B).enc (za7 x),[])))
theorem fc1:g9 prog G 34 sb1:=Sa0 (bd b34 Sb2) (one r1B) (o:=na6) λx=>F8 (by kernel_rfl)
noncomputable def fc2:List (Nat×Sum):=[]
theorem Sb3:n8 prog G fc2:=trivial
noncomputable def na7(x:Int)(y:Int):Option (a7×List c7):=(sl (decide (x<y)) (some (i (-1),[])) (sl (decide (x>y)) (some (i 1,[])) (some (i 0,[]))))
noncomputable def T3(x:Int)(y:Int):Int:=T8 (one r1I) (na7 x y)
noncomputable def T4(x:Int)(y:Int):Bool:=okO (one r1I) (na7 x y)
noncomputable def Sa1:Sum:=Oa1 cI cI (λx y=>.guard (T4 x y) (.ret ((one r1I).enc (T3 x y),[])))
theorem jb9:g9 prog G 36 Sa1:=Sb0 (bd b36 Sb3) (one r1I) (o:=na7) λx y=>F8 (by kernel_rfl)
noncomputable def Jb9:List (Nat×Sum):=[(36,Sa1)]
theorem Cb9:n8 prog G Jb9:=⟨jb9,trivial⟩
noncomputable def ea2(x:Pln)(y:Pln):Option (a7×List c7):=let t1:=(T3 x.n.x y.n.x);let t2:=(T3 x.n.y y.n.y);let t3:=(T3 x.n.z y.n.z);let t4:=(T3 x.b y.b);(sl (T4 x.n.x y.n.x) (sl (t1==0) (sl (T4 x.n.y y.n.y) (sl (t2==0) (sl (T4 x.n.z y.n.z) (sl (t3==0) (sl (T4 x.b y.b) (sl (t4==0) (some (i t4,[])) (some (i t4,[]))) none) (some (i t3,[]))) none) (some (i t2,[]))) none) (some (i t1,[]))) none)
noncomputable def pa3(x:Pln)(y:Pln):Int:=T8 (one r1I) (ea2 x y)
noncomputable def pa4(x:Pln)(y:Pln):Bool:=okO (one r1I) (ea2 x y)
noncomputable def Da0:Sum:=Oa1 (ta8 tP) (ta8 tP) (λx y=>.guard (pa4 x y) (.ret ((one r1I).enc (pa3 x y),[])))
theorem Kb0:g9 prog G 33 Da0:=Sb0 (bd b33 Cb9) (one r1I) (o:=ea2) λx y=>F8 (by kernel_rfl)
noncomputable def Lc4:List (Nat×Sum):=[(54,Ka8)]
theorem Ac8:n8 prog G Lc4:=⟨db6,trivial⟩
noncomputable def La1(x:V3):Option (a7×List c7):=let t1:=(ba6 24 [x.x,x.y,x.z]);(sl (ba7 24 [x.x,x.y,x.z]) (some (b t1,[])) none)
noncomputable def ia1(x:V3):Bool:=T8 (one r1B) (La1 x)
noncomputable def ia2(x:V3):Bool:=okO (one r1B) (La1 x)
noncomputable def ab6:Sum:=O8 (ta8 tV) (λx=>.guard (ia2 x) (.ret ((one r1B).enc (ia1 x),[])))
theorem kb0:g9 prog G 35 ab6:=Sa0 (bd b35 Ac8) (one r1B) (o:=La1) λx=>F8 (by kernel_rfl)
end Go.Ev.Ce
namespace Go.Proofs
open Go.Shelf
set_option maxRecDepth 100000 in
def Ce.sortLay_ren:Go.Shelf.Ren:=⟨fun | 6=>32 | 15=>53 | 14=>52 | 28=>70 | 29=>71 | 20=>62 | 21=>63 | 22=>64 | 23=>65 | 24=>66 | 25=>67 | 26=>68 | 27=>69 | 46=>82 | 47=>83 | 48=>84 | 49=>85 | 50=>86 | 57=>90 | n=>n,fun | 22=>45 | 24=>50 | 25=>69 | 3=>3 | 39=>83 | 0=>0 | 53=>101 | 55=>103 | 4=>4 | 46=>94 | 45=>93 | 50=>98 | 5=>5 | 9=>9 | 66=>110 | 70=>114 | 76=>118 | 77=>119 | n=>n,fun | n=>n⟩
set_option maxRecDepth 100000 in
theorem Ce.sortLay:Go.Proofs.SlLaysF0.n6 Try.prog Ce.sortLay_ren:={
 mixed:=by kernel_rfl
 f6:=⟨Try.f32.name,by decide,Try.func32.trans (congrArg some (by kernel_rfl))⟩
 f14:=⟨Try.f52.name,by decide,Try.func52.trans (congrArg some (by kernel_rfl))⟩
 f15:=Try.func53.trans (congrArg some (by kernel_rfl))
 f20:=⟨Try.f62.name,by decide,Try.func62.trans (congrArg some (by kernel_rfl))⟩
 f21:=⟨Try.f63.name,by decide,Try.func63.trans (congrArg some (by kernel_rfl))⟩
 f22:=⟨Try.f64.name,by decide,Try.func64.trans (congrArg some (by kernel_rfl))⟩
 f23:=⟨Try.f65.name,by decide,Try.func65.trans (congrArg some (by kernel_rfl))⟩
 f24:=⟨Try.f66.name,by decide,Try.func66.trans (congrArg some (by kernel_rfl))⟩
 f25:=⟨Try.f67.name,by decide,Try.func67.trans (congrArg some (by kernel_rfl))⟩
 f26:=⟨Try.f68.name,by decide,Try.func68.trans (congrArg some (by kernel_rfl))⟩
 f27:=⟨Try.f69.name,by decide,Try.func69.trans (congrArg some (by kernel_rfl))⟩
 f28:=Try.func70.trans (congrArg some (by kernel_rfl))
 f29:=Try.func71.trans (congrArg some (by kernel_rfl))
 f46:=⟨Try.f82.name,by decide,Try.func82.trans (congrArg some (by kernel_rfl))⟩
 f47:=Try.func83.trans (congrArg some (by kernel_rfl))
 f48:=Try.func84.trans (congrArg some (by kernel_rfl))
 f49:=⟨Try.f85.name,by decide,Try.func85.trans (congrArg some (by kernel_rfl))⟩
 f50:=⟨Try.f86.name,by decide,Try.func86.trans (congrArg some (by kernel_rfl))⟩
 f57:=⟨Try.f90.name,by decide,Try.func90.trans (congrArg some (by kernel_rfl))⟩
 t0:=Try.underlying0
 a0:=Try.isAgg0
 z0:=Try.sizeOf0
 v0:=Try.zeroValue0
 t3:=Try.underlying3
 a3:=Try.isAgg3
 z3:=Try.sizeOf3
 v3:=Try.zeroValue3
 t4:=Try.underlying4
 a4:=Try.isAgg4
 z4:=Try.sizeOf4
 v4:=Try.zeroValue4
 t5:=Try.underlying5
 a5:=Try.isAgg5
 z5:=Try.sizeOf5
 v5:=Try.zeroValue5
 t9:=Try.underlying9
 a9:=Try.isAgg9
 z9:=Try.sizeOf9
 v9:=Try.zeroValue9
 t22:=Try.underlying45
 a22:=Try.isAgg45
 z22:=Try.sizeOf45
 v22:=Try.zeroValue45
 t25:=Try.underlying69
 a25:=Try.isAgg69
 z25:=Try.sizeOf69
 v25:=Try.zeroValue69
 t39:=Try.underlying83
 a39:=Try.isAgg83
 z39:=Try.sizeOf83
 v39:=Try.zeroValue83
 t45:=Try.underlying93
 a45:=Try.isAgg93
 z45:=Try.sizeOf93
 v45:=Try.zeroValue93
 t46:=Try.underlying94
 a46:=Try.isAgg94
 z46:=Try.sizeOf94
 v46:=Try.zeroValue94
 t50:=Try.underlying98
 a50:=Try.isAgg98
 z50:=Try.sizeOf98
 v50:=Try.zeroValue98
 t53:=Try.underlying101
 a53:=Try.isAgg101
 z53:=Try.sizeOf101
 v53:=Try.zeroValue101
 t55:=Try.underlying103
 a55:=Try.isAgg103
 z55:=Try.sizeOf103
 v55:=Try.zeroValue103
 t66:=Try.underlying110
 a66:=Try.isAgg110
 z66:=Try.sizeOf110
 v66:=Try.zeroValue110
 t70:=Try.underlying114
 a70:=Try.isAgg114
 z70:=Try.sizeOf114
 v70:=Try.zeroValue114
 t76:=Try.underlying118
 a76:=Try.isAgg118
 z76:=Try.sizeOf118
 v76:=Try.zeroValue118
 t77:=Try.underlying119
 a77:=Try.isAgg119
 z77:=Try.sizeOf119
 v77:=Try.zeroValue119 }
end Go.Proofs
namespace Go.Ev.Ce
open Go Go.Ev Go.Ev.L Go.Proofs Go.Sort
def Sa2(x y:Int):Int:=if x<y then -1 else if x>y then 1 else 0
def Sa3(x y:Pln):Int :=
 if Sa2 x.n.x y.n.x=0 then if Sa2 x.n.y y.n.y=0 then if Sa2 x.n.z y.n.z=0 then Sa2 x.b y.b else Sa2 x.n.z y.n.z else Sa2 x.n.y y.n.y else Sa2 x.n.x y.n.x
theorem ab7(x y:Int):Sa2 x y<0↔x<y:=by unfold Sa2;split<;>(try split)<;>omega
theorem Db0(x y:Int):Sa2 x y=0↔x=y:=by unfold Sa2;split<;>(try split)<;>omega
def LtP(x y:Pln):Prop:=x.n.x<y.n.x\/x.n.x=y.n.x/\(x.n.y<y.n.y\/x.n.y=y.n.y/\(x.n.z<y.n.z\/x.n.z=y.n.z/\x.b<y.b))
instance(x y:Pln):Decidable (LtP x y):=by unfold LtP;exact inferInstance
theorem Ac9(x y:Pln):Sa3 x y<0↔LtP x y:=by
 have h1:=ab7 x.n.x y.n.x;have h2:=Db0 x.n.x y.n.x;have h3:=ab7 x.n.y y.n.y;have h4:=Db0 x.n.y y.n.y;have h5:=ab7 x.n.z y.n.z;have h6:=Db0 x.n.z y.n.z;have h7:=ab7 x.b y.b;unfold Sa3 LtP;split
 ·split
  ·split<;>omega
  ·omega
 ·omega
theorem ya1(x y:Pln):ltOf Sa3 x y=decide (LtP x y):=by
 unfold ltOf;rw[decide_eq_decide];exact Ac9 x y
theorem fe8:SWO (ltOf Sa3) where
 irrefl x:=by rw[ya1];simp[LtP]
 trans x y z h1 h2:=by rw[ya1,decide_eq_true_eq] at *;unfold LtP at *;omega
 ntrans x y z h1 h2:=by rw[ya1,decide_eq_false_iff_not] at *;unfold LtP at *;omega
theorem ne3(x y:Pln)(h1:ltOf Sa3 x y=false)(h2:ltOf Sa3 y x=false):x=y:=by
 rw[ya1,decide_eq_false_iff_not] at *
 unfold LtP at *
 obtain⟨⟨a,b,c⟩,d⟩:=x;obtain⟨⟨a',b',c'⟩,d'⟩:=y
 simp only at *
 have:a=a'/\b=b'/\c=c'/\d=d':=by omega
 obtain⟨rfl,rfl,rfl,rfl⟩:=this;rfl
theorem Lc5(x y:Int):na7 x y=some (i (Sa2 x y),[]):=by
 unfold na7 Sa2;simp only[wb6,decide_eq_true_eq]
 split<;>(try split)<;>rfl
theorem bd7(x y:Int):T3 x y=Sa2 x y:=by unfold T3;rw[Lc5];rfl
theorem bd8(x y:Int):T4 x y=true:=by unfold T4;rw[Lc5];rfl
theorem fc3(x y:Pln):ea2 x y=some (i (Sa3 x y),[]):=by
 unfold ea2 Sa3;simp only[bd7,bd8,wb6,beq_iff_eq,if_true]
 repeat' (first | rfl | split)
theorem fe9(x y:Pln):pa3 x y=Sa3 x y:=by unfold pa3;rw[fc3];rfl
theorem ge0(x y:Pln):pa4 x y=true:=by unfold pa4;rw[fc3];rfl
theorem ge1(x y:Pln):(Da0 [.agg (tP.row x),.agg (tP.row y)] []).run=some (i (Sa3 x y),[]):=by
 have:(Da0 [.agg (tP.row x),.agg (tP.row y)] []).run=sel (pa4 x y) (some (i (pa3 x y),[])) none:=by kernel_rfl
 rw[this,ge0,fe9]
def Jb6(p:Pln):List Value:=[.int .i64 p.n.x,.int .i64 p.n.y,.int .i64 p.n.z,.int .i64 p.b]
instance:Inhabited Pln:=⟨⟨⟨0,0,0⟩,0⟩⟩
def sb2(l:List Pln):List Pln:=l.mergeSort λx y=>!ltOf Sa3 y x
theorem ob8(l:List Pln):(sb2 l).length=l.length:=Qhf l
noncomputable def ra8:Sum:=ad9 tP 33 50 sb2
theorem ud8:Ce.sortLay_ren.f 6=32:=by kernel_rfl
theorem uc1:Ce.sortLay_ren.t 24=50:=by kernel_rfl
set_option maxRecDepth 100000 in
theorem Sa4:g9 prog G 32 ra8:=by
 refine bd0 (enc:=Jb6) (cf:=Sa3) ⟨_,Try.func32,by kernel_rfl,of_decide_eq_true (by kernel_rfl)⟩ (by decide) (λ_=>rfl) (λr h=>Ia4 (n:=4) h) (λx v hv=>?_) ob8
  (λblk off size w=>ad8 Kb0 ge1 (λ_=>rfl) (λ_=>rfl) _ _ _ _ _) (λblk cap d w hcl hH hb hs=>?_)
 ·simp[Jb6] at hv
  rcases hv with rfl|rfl|rfl|rfl<;>rfl
 ·have eg:∀args w,(callFunc 33 args).run Try.prog w=.ok (.enter 33 args) w:=enters_of Try.func33 (by kernel_rfl) rfl
  have:=AnyQ.slices_SortFunc Ce.sortLay 4 (by rw[uc1];exact Try.isAgg50) (by rw[uc1];exact Try.sizeOf50) Jb6 (λ_=>rfl) (λx v hv=>by simp[Jb6] at hv;rcases hv with rfl | rfl | rfl | rfl<;>rfl) Sa3 fe8 33 #[] blk 0 cap d w eg (hcl 0 d.size) hH hb hs
  rw[ud8] at this;refine this.mono λe w' ⟨h1,d',n,os,h2,h3,h4⟩=>⟨h1,n,os,?_⟩
  have h5:=sorted_unique_holds fe8 ne3 d d' h2 h3;rw[h4];show _=sortWorldK Jb6 4 w blk 0 n (d.toList.mergeSort λx y=>!ltOf Sa3 y x).toArray os
  rw[<- h5]
end Go.Ev.Ce
namespace Go.Ev.Ce
open Go Go.Ev Go.Ev.L Go.Proofs
set_option maxRecDepth 100000
structure pa5 where
 is1:Int
 m9:List Int
 e7:Int
noncomputable def Kb1:List (Nat×Sum):=[(24,uc0)]
theorem Db1:n8 prog G Kb1:=⟨Vc2,trivial⟩
structure pa6 where
 alt:Nat
 (is0 e7:Int)
noncomputable def X3{α:Type}(kk:pa6->α)(x:pa5):α:=let t1:=(ob6 (gL tI x.m9 (W ((W (x.e7+1))-1)).toNat) x.is1);(sl (decide (x.e7>=(↑(List.length x.m9):Int))) (kk ⟨1,0,x.e7⟩) (sl (inB (W ((W (x.e7+1))-1)) (List.length x.m9)) (sl (ob7 (gL tI x.m9 (W ((W (x.e7+1))-1)).toNat) x.is1) (kk ⟨1,t1,W (x.e7+1)⟩) (kk ⟨0,0,0⟩)) (kk ⟨0,0,0⟩)))
noncomputable def L2(x:pa5):pa6:=X3 (λr=>r) x
noncomputable def ya2(x:pa5)(r:pa6):DT (a7×List c7):=(.ite (Nat.beq r.alt 1) (.ret (i r.is0,[⟨0,2,[[eL tI x.m9,i r.e7]],true,false,0⟩])) .fail)
theorem Sb4{α β:Type}(F:α->β)(kk:pa6->α)(x:pa5):F (X3 kk x)=X3 (λr=>F (kk r)) x:=by unfold X3;(repeat' apply w8 (f:=F))<;>rfl
noncomputable def Da1:Sum:=Va3 ⟨[.s (.o (.ptr 0 0 0 0)),.s (.o (.int .i64))],[⟨0,2,true,some [[.c 1 (nL tI),.o (.int .i64)]]⟩],λa H=>(⟨toI (slT a 1),rL tI (slT (rwT (elT H 0) 0) 0),toI (slT (rwT (elT H 0) 0) 1)⟩,())⟩ (λx=>ya2 x (L2 x))
theorem Va9:g9 prog G 16 Da1:=S4 (enc:=λx=>⟨[.ptr 0 0 0 0,i x.is1],[⟨0,2,[[eL tI x.m9,i x.e7]],true,false,0⟩]⟩) (λa H=>by kernel_rfl) (bd b16 Db1) λx=>F8 (Qhd (b:=X3 (λr=>(ya2 x r).run) x) (by kernel_rfl) (Sb4 (λr=>(ya2 x r).run) (λr=>r) x).symm)
noncomputable def Ia6(x:V3)(y:V3):V3:=(⟨W (x.x-y.x),W (x.y-y.y),W (x.z-y.z)⟩:V3)
noncomputable def Db2(x:V3):Option (a7×List c7):=(sl (decide (x.x<(-24))) (some (b false,[])) (sl (decide (x.x>24)) (some (b false,[])) (sl (decide (x.y<(-24))) (some (b false,[])) (sl (decide (x.y>24)) (some (b false,[])) (sl (decide (x.z<(-24))) (some (b false,[])) (sl (decide (x.z>24)) (some (b false,[])) (some (b true,[]))))))))
noncomputable def Wa0(x:V3):Bool:=T8 (one r1B) (Db2 x)
noncomputable def Wa1(x:V3):Bool:=okO (one r1B) (Db2 x)
noncomputable def za9(x:V3)(y:V3)(z:V3):Option (a7×List c7):=let t1:=(Wa0 x);let t2:=(Wa0 y);let t3:=(Wa0 z);let t4:=(Ia6 y x);let t5:=(Ia6 z x);let t6:=(Pa8 t4 t5);let t7:=(xa8 t6);let t8:=(ob5 t7.1 x);(sl (Wa1 x) (sl (!t1) (some (.tup [.agg [i 0,i 0,i 0,i 0],b false],[])) (sl (Wa1 y) (sl (!t2) (some (.tup [.agg [i 0,i 0,i 0,i 0],b false],[])) (sl (Wa1 z) (sl (!t3) (some (.tup [.agg [i 0,i 0,i 0,i 0],b false],[])) (sl (ab5 t6) (sl (t7.2==0) (some (.tup [.agg [i 0,i 0,i 0,i 0],b false],[])) (some (.tup [.agg [i t7.1.x,i t7.1.y,i t7.1.z,i t8],b true],[]))) none)) none)) none)) none)
noncomputable def nc7(x:V3)(y:V3)(z:V3):Pln×Bool:=T8 (two r1P r1B) (za9 x y z)
noncomputable def Sa5(x:V3)(y:V3)(z:V3):Bool:=okO (two r1P r1B) (za9 x y z)
noncomputable def ab8(x:Pln)(y:V3):Option (a7×List c7):=let t1:=(Lc2 x);let t2:=(Wa0 y);let t3:=(ob5 x.n y);(sl (jb8 x) (sl (!t1) (some (i 0,[])) (sl (Wa1 y) (sl (!t2) (some (i 0,[])) (sl (decide ((W (t3-x.b))<0)) (some (i (-1),[])) (sl (decide ((W (t3-x.b))>0)) (some (i 1,[])) (some (i 0,[]))))) none)) none)
noncomputable def Vc3(x:Pln)(y:V3):Int:=T8 (one r1I) (ab8 x y)
noncomputable def fc4(x:Pln)(y:V3):Bool:=okO (one r1I) (ab8 x y)
structure od1 where
 (e8 e7 g8 o3 H8 H9 I0 Ha7:Int)
structure od2 where
 is7:Int
structure ob9 where
 is1:Int
 m9:List Int
 e7:Int
noncomputable def Vc4:List (Nat×Sum):=[(16,Da1)]
theorem Lc6:n8 prog G Vc4:=⟨Va9,trivial⟩
structure pb0 where
 alt:Nat
 (V9 W0 W4:Int)
 m9:List Int
 e7:Int
noncomputable def Ia7{α:Type}(kk:pb0->α)(x:ob9):α:=let t1:=(L2 ⟨W ((W (2*x.is1))+1),rt tI x.m9,x.e7⟩);let t2:=(L2 ⟨W ((W (2*x.is1))+1),rt tI (rt tI x.m9),t1.e7⟩);let t3:=(L2 ⟨W ((W (2*x.is1))+1),rt tI (rt tI (rt tI x.m9)),t2.e7⟩);(sl ((cnE tI x.m9)&&true) (sl (Nat.beq t1.alt 1) (sl ((cnE tI (rt tI x.m9))&&true) (sl (Nat.beq t2.alt 1) (sl ((cnE tI (rt tI (rt tI x.m9)))&&true) (sl (Nat.beq t3.alt 1) (kk ⟨1,W (t1.is0-x.is1),W (t2.is0-x.is1),W (t3.is0-x.is1),rt tI (rt tI (rt tI x.m9)),t3.e7⟩) (kk ⟨0,0,0,0,[],0⟩)) (kk ⟨0,0,0,0,[],0⟩)) (kk ⟨0,0,0,0,[],0⟩)) (kk ⟨0,0,0,0,[],0⟩)) (kk ⟨0,0,0,0,[],0⟩)) (kk ⟨0,0,0,0,[],0⟩))
noncomputable def Wa2(x:ob9):pb0:=Ia7 (λr=>r) x
noncomputable def xb2(x:ob9)(r:pb0):DT (a7×List c7):=(.ite (Nat.beq r.alt 1) (.ret (.agg [i r.V9,i r.W0,i r.W4],[⟨0,2,[[eL tI r.m9,i r.e7]],true,false,0⟩])) .fail)
theorem ld1{α β:Type}(F:α->β)(kk:pb0->α)(x:ob9):F (Ia7 kk x)=Ia7 (λr=>F (kk r)) x:=by unfold Ia7;(repeat' apply w8 (f:=F))<;>rfl
noncomputable def uc2:Sum:=Va3 ⟨[.s (.o (.ptr 0 0 0 0)),.s (.o (.int .i64))],[⟨0,2,true,some [[.c 1 (nL tI),.o (.int .i64)]]⟩],λa H=>(⟨toI (slT a 1),rL tI (slT (rwT (elT H 0) 0) 0),toI (slT (rwT (elT H 0) 0) 1)⟩,())⟩ (λx=>xb2 x (Wa2 x))
theorem Vc5:g9 prog G 15 uc2:=S4 (enc:=λx=>⟨[.ptr 0 0 0 0,i x.is1],[⟨0,2,[[eL tI x.m9,i x.e7]],true,false,0⟩]⟩) (λa H=>by kernel_rfl) (bd b15 Lc6) λx=>F8 (Qhd (b:=Ia7 (λr=>(xb2 x r).run) x) (by kernel_rfl) (ld1 (λr=>(xb2 x r).run) (λr=>r) x).symm)
structure ua3 where
 j7:List V3
 (is3 is4 is5:Int)
 bs7:Bool
 (e8 e7 g8 o3:Int)
structure la1 where
 is8:Int
noncomputable def La2{α:Type}(k:la1->α)(e:Nat->α)(z:α)(p:ua3)(s:la1):α:=let t1:=(Vc3 (⟨(⟨p.e8,p.e7,p.g8⟩:V3),p.o3⟩:Pln) (gL tV p.j7 s.is8.toNat));(sl (decide (s.is8<(↑(List.length p.j7):Int))) (sl p.bs7 (sl (inB s.is8 (List.length p.j7)) (sl (fc4 (⟨(⟨p.e8,p.e7,p.g8⟩:V3),p.o3⟩:Pln) (gL tV p.j7 s.is8.toNat)) (sl (t1 != 0) (e 1) (k ⟨W (s.is8+1)⟩)) z) z) (e 2)) (e 3))
noncomputable def na8(p:ua3)(s:la1):Stp la1:=La2 .next .exit .fail p s
structure ab9 where
 (is3 is4:Int)
structure la2 where
 j7:List V3
 is5:Int
noncomputable def La3{α:Type}(k:la2->α)(e:Nat->α)(z:α)(p:ab9)(s:la2):α:=let t1:=(nc7 (gL tV s.j7 p.is3.toNat) (gL tV s.j7 p.is4.toNat) (gL tV s.j7 s.is5.toNat));let t2:=(lp (na8 (⟨rt tV s.j7,p.is3,p.is4,s.is5,t1.2,t1.1.n.x,t1.1.n.y,t1.1.n.z,t1.1.b⟩:ua3)) (⟨0⟩:la1));(sl (decide (s.is5<p.is4)) (sl (inB p.is3 (List.length s.j7)) (sl (inB p.is4 (List.length s.j7)) (sl (inB s.is5 (List.length s.j7)) (sl (Sa5 (gL tV s.j7 p.is3.toNat) (gL tV s.j7 p.is4.toNat) (gL tV s.j7 s.is5.toNat)) (sl ((cnE tV s.j7)&&true) (sl (Nat.beq t2.1 1) (e 1) (sl (Nat.beq t2.1 2) (k ⟨rt tV s.j7,W (s.is5+1)⟩) (sl (Nat.beq t2.1 3) (k ⟨rt tV s.j7,W (s.is5+1)⟩) z))) z) z) z) z) z) (e 2))
noncomputable def na9(p:ab9)(s:la2):Stp la2:=La3 .next .exit .fail p s
structure bb0 where
 is3:Int
structure la3 where
 j7:List V3
 is4:Int
noncomputable def La4{α:Type}(k:la3->α)(e:Nat->α)(z:α)(p:bb0)(s:la3):α:=let t1:=(lp (na9 (⟨p.is3,s.is4⟩:ab9)) (⟨rt tV s.j7,0⟩:la2));(sl (decide (s.is4<p.is3)) (sl ((cnE tV s.j7)&&true) (sl (Nat.beq t1.1 1) (e 1) (sl (Nat.beq t1.1 2) (k ⟨t1.2.j7,W (s.is4+1)⟩) z)) z) (e 2))
noncomputable def oa0(p:bb0)(s:la3):Stp la3:=La4 .next .exit .fail p s
structure bb1 where
structure la4 where
 j7:List V3
 is3:Int
noncomputable def La5{α:Type}(k:la4->α)(e:Nat->α)(z:α)(p:bb1)(s:la4):α:=let t1:=(lp (oa0 (⟨s.is3⟩:bb0)) (⟨rt tV s.j7,0⟩:la3));(sl (decide (s.is3<(↑(List.length s.j7):Int))) (sl ((cnE tV s.j7)&&true) (sl (Nat.beq t1.1 1) (e 1) (sl (Nat.beq t1.1 2) (k ⟨t1.2.j7,W (s.is3+1)⟩) z)) z) (e 2))
noncomputable def oa1(p:bb1)(s:la4):Stp la4:=La5 .next .exit .fail p s
noncomputable def fc5(x:List V3):Option (a7×List c7):=let t1:=(lp (oa1 (⟨⟩:bb1)) (⟨rt tV x,0⟩:la4));(sl ((cnE tV x)&&true) (sl (Nat.beq t1.1 1) (some (b false,[])) (sl (Nat.beq t1.1 2) (some (b true,[])) none)) none)
structure Ed7 where
 j7:List V3
structure Ed8 where
 is3:Int
structure Ed9 where
 oe0:List V3
 (e8 e7 g8 o3:Int)
structure Fd0 where
 is5:Int
structure Rd3 where
 V2:List Pln
 (e8 e7 g8 o3:Int)
structure Rd4 where
 is5:Int
structure Fd1 where
 j7:List V3
 (is6 is7:Int)
structure Fd2 where
 ph:Nat
 is8:Int
 Sd8:List Pln
structure Fd3 where
 is6:Int
structure Fd4 where
 ph:Nat
 j7:List V3
 is7:Int
 Sd8:List Pln
structure Fd5 where
structure Fd6 where
 ph:Nat
 j7:List V3
 is6:Int
 Sd8:List Pln
structure ud9 where
 is4:Int
structure vd0 where
 ph:Nat
 is6:Int
 m9:List Int
 e7:Int
 ns5:Nat
 eh1:List (List a7)
noncomputable def Bc0:List (Nat×Sum):=[]
theorem nc8:n8 prog G Bc0:=trivial
noncomputable def r7(x:V3)(y:V3):V3:=(⟨W (x.x-y.x),W (x.y-y.y),W (x.z-y.z)⟩:V3)
noncomputable def Ba5:Sum:=Oa1 (ta8 tV) (ta8 tV) (λx y=>.ret ((one r1V).enc (r7 x y),[]))
theorem Fa7:g9 prog G 8 Ba5:=Xb8 (bd b8 nc8) λx y=>F8 (by kernel_rfl)
noncomputable def nc9:List (Nat×Sum):=[(8,Ba5)]
theorem fc6:n8 prog G nc9:=⟨Fa7,trivial⟩
noncomputable def la5(x:Pln):Pln:=let t1:=(r7 (⟨0,0,0⟩:V3) x.n);(⟨t1,W (0-x.b)⟩:Pln)
noncomputable def Db3:Sum:=O8 (ta8 tP) (λx=>.ret ((one r1P).enc (la5 x),[]))
theorem oc0:g9 prog G 50 Db3:=ob0 (bd b50 fc6) λx=>F8 (by kernel_rfl)
noncomputable def oc1:List (Nat×Sum):=[(55,Ca9)]
theorem fc7:n8 prog G oc1:=⟨Va8,trivial⟩
noncomputable def ua4(x:V3):Option (a7×List c7):=let t1:=(R3 [x.x,x.y,x.z]);(sl (R4 [x.x,x.y,x.z]) (sl (t1==0) (some (.tup [.agg [i 0,i 0,i 0],i 0],[])) (sl (t1==0) none (sl (t1==0) none (sl (t1==0) none (some (.tup [.agg [i (W (Int.tdiv x.x t1)),i (W (Int.tdiv x.y t1)),i (W (Int.tdiv x.z t1))],i t1],[])))))) none)
noncomputable def la6(x:V3):V3×Int:=T8 (two r1V r1I) (ua4 x)
noncomputable def Fa8(x:V3):Bool:=okO (two r1V r1I) (ua4 x)
noncomputable def Db4:Sum:=O8 (ta8 tV) (λx=>.guard (Fa8 x) (.ret ((two r1V r1I).enc (la6 x),[])))
theorem oc2:g9 prog G 61 Db4:=Sa0 (bd b61 fc7) (two r1V r1I) (o:=ua4) λx=>F8 (by kernel_rfl)
noncomputable def Kb2:List (Nat×Sum):=[(35,ab6),(8,Ba5),(7,Z4),(61,Db4),(6,ca6)]
theorem Db5:n8 prog G Kb2:=⟨kb0,Fa7,ba4,oc2,da1,trivial⟩
noncomputable def ea3(x:V3)(y:V3)(z:V3):Option (a7×List c7):=let t1:=(ia1 x);let t2:=(ia1 y);let t3:=(ia1 z);let t4:=(r7 y x);let t5:=(r7 z x);let t6:=(q8 t4 t5);let t7:=(la6 t6);let t8:=(p9 t7.1 x);(sl (ia2 x) (sl (!t1) (some (.tup [.agg [i 0,i 0,i 0,i 0],b false],[])) (sl (ia2 y) (sl (!t2) (some (.tup [.agg [i 0,i 0,i 0,i 0],b false],[])) (sl (ia2 z) (sl (!t3) (some (.tup [.agg [i 0,i 0,i 0,i 0],b false],[])) (sl (Fa8 t6) (some (.tup [.agg [i t7.1.x,i t7.1.y,i t7.1.z,i t8],b (decide (t7.2>0))],[])) none)) none)) none)) none)
noncomputable def C9(x:V3)(y:V3)(z:V3):Pln×Bool:=T8 (two r1P r1B) (ea3 x y z)
noncomputable def X4(x:V3)(y:V3)(z:V3):Bool:=okO (two r1P r1B) (ea3 x y z)
noncomputable def Da2:Sum:=nc2 (ta8 tV) (ta8 tV) (ta8 tV) (λx y z=>.guard (X4 x y z) (.ret ((two r1P r1B).enc (C9 x y z),[])))
theorem Wa3:g9 prog G 49 Da2:=de8 (bd b49 Db5) (two r1P r1B) (o:=ea3) λx y z=>F8 (by kernel_rfl)
noncomputable def oc3:List (Nat×Sum):=[(34,sb1),(35,ab6),(6,ca6),(36,Sa1)]
theorem fc8:n8 prog G oc3:=⟨fc1,kb0,da1,jb9,trivial⟩
noncomputable def ua5(x:Pln)(y:V3):Option (a7×List c7):=let t1:=(za7 x);let t2:=(ia1 y);let t3:=(p9 x.n y);let t4:=(T3 t3 x.b);(sl (za8 x) (sl (!t1) (some (i 0,[])) (sl (ia2 y) (sl (!t2) (some (i 0,[])) (sl (T4 t3 x.b) (some (i t4,[])) none)) none)) none)
noncomputable def J2(x:Pln)(y:V3):Int:=T8 (one r1I) (ua5 x y)
noncomputable def S6(x:Pln)(y:V3):Bool:=okO (one r1I) (ua5 x y)
noncomputable def ua6:Sum:=Oa1 (ta8 tP) (ta8 tV) (λx y=>.guard (S6 x y) (.ret ((one r1I).enc (J2 x y),[])))
theorem Aa0:g9 prog G 20 ua6:=Sb0 (bd b20 fc8) (one r1I) (o:=ua5) λx y=>F8 (by kernel_rfl)
structure Aa1 where
 (V9 W0 W4 e8 e7 g8 o3:Int)
noncomputable def fc9:List (Nat×Sum):=[(20,ua6)]
theorem Sb5:n8 prog G fc9:=⟨Aa0,trivial⟩
structure Aa2 where
 alt:Nat
 bs0:Bool
noncomputable def ga1{α:Type}(kk:Aa2->α)(x:Aa1):α:=let t1:=(J2 (⟨(⟨x.e8,x.e7,x.g8⟩:V3),x.o3⟩:Pln) (⟨x.V9,x.W0,x.W4⟩:V3));(sl (S6 (⟨(⟨x.e8,x.e7,x.g8⟩:V3),x.o3⟩:Pln) (⟨x.V9,x.W0,x.W4⟩:V3)) (kk ⟨1,t1 != 0⟩) (kk ⟨0,false⟩))
noncomputable def Aa3(x:Aa1):Aa2:=ga1 (λr=>r) x
noncomputable def La6(x:Aa1)(r:Aa2):DT (a7×List c7):=(.ite (Nat.beq r.alt 1) (.ret (b r.bs0,[⟨0,4,[[i x.e8,i x.e7,i x.g8,i x.o3]],true,false,0⟩])) .fail)
theorem oc4{α β:Type}(F:α->β)(kk:Aa2->α)(x:Aa1):F (ga1 kk x)=ga1 (λr=>F (kk r)) x:=by unfold ga1;(repeat' apply w8 (f:=F))<;>rfl
noncomputable def sb3:Sum:=Va3 ⟨[.agg (kLq 3),sPq 0],[⟨0,4,true,some [kLq 4]⟩],λa H=>(⟨cIq a 0 0,cIq a 0 1,cIq a 0 2,hIq H 0 0 0,hIq H 0 0 1,hIq H 0 0 2,hIq H 0 0 3⟩,())⟩ (λx=>La6 x (Aa3 x))
theorem gc0:g9 prog G 60 sb3:=S4 (enc:=λx=>⟨[.agg [i x.V9,i x.W0,i x.W4],.ptr 0 0 0 0],[⟨0,4,[[i x.e8,i x.e7,i x.g8,i x.o3]],true,false,0⟩]⟩) (λa H=>by kernel_rfl) (bd b60 Sb5) λx=>F8 (Qhd (b:=ga1 (λr=>(La6 x r).run) x) (by kernel_rfl) (oc4 (λr=>(La6 x r).run) (λr=>r) x).symm)
structure P0 where
 j7:List V3
 (e8 e7 g8 o3:Int)
noncomputable def oa2:List (Nat×Sum):=[(60,sb3)]
theorem Oa2:n8 prog G oa2:=⟨gc0,trivial⟩
structure E1 where
 j7:List V3
 (is7 e8 e7 g8 o3:Int)
structure k9 where
 is8:Int
noncomputable def ia3(p:E1)(s:k9):St:=⟨eL tV p.j7::.fn 60 [.ptr 0 0 0 0]::ra 5 (i p.is7::i s.is8::ra 10 []),[⟨0,4,[[i p.e8,i p.e7,i p.g8,i p.o3]],true,false,0⟩]⟩
noncomputable def A2{α:Type}(k:k9->α)(e:Nat->α)(z:α)(p:E1)(s:k9):α:=let t1:=(Aa3 ⟨(gL tV p.j7 s.is8.toNat).x,(gL tV p.j7 s.is8.toNat).y,(gL tV p.j7 s.is8.toNat).z,p.e8,p.e7,p.g8,p.o3⟩);(sl (decide (s.is8<p.is7)) (sl (inB s.is8 (List.length p.j7)) (sl (Nat.beq t1.alt 1) (sl t1.bs0 (e 1) (k ⟨W (s.is8+1)⟩)) z) z) (e 2))
noncomputable def C1(p:E1)(s:k9):Stp k9:=A2 .next .exit .fail p s
noncomputable def W6:Lo E1 k9:=⟨En oa2,1,ud7,[1,0,1,4,4],[0,1,7,8],.p,[⟨sLq tV::.fn 60 [.o (.ptr 0 0 0 0)]::ru2 5 (sIq::sIq::ru2 10 []),[⟨0,4,true,some [kLq 4]⟩],λa H=>(⟨aLq tV a 0,aIq a 7,hIq H 0 0 0,hIq H 0 0 1,hIq H 0 0 2,hIq H 0 0 3⟩,⟨aIq a 8⟩)⟩],C1,[(none,λp s=>⟨[i s.is8],[⟨0,4,[[i p.e8,i p.e7,i p.g8,i p.o3]],true,false,0⟩]⟩),(some 0,λp s=>upq (ia3 p s) [(9,b (decide (s.is8<p.is7)))])],ia3⟩
theorem La7:W6.Ok:=Lo.ok [] (by kernel_rfl) .nil rfl (.cons (λa H=>by kernel_rfl) .nil) λp s=>(.of @A2 (λF _ _ _ _ _=>by unfold A2;(repeat' apply w8 (f:=F))<;>rfl) (by kernel_rfl))
structure P1 where
 alt:Nat
 is0:Int
noncomputable def B0{α:Type}(kk:P1->α)(x:P0):α:=let t1:=(lp (C1 (⟨rt tV x.j7,(↑(List.length x.j7):Int),x.e8,x.e7,x.g8,x.o3⟩:E1)) (⟨0⟩:k9));(sl ((cnE tV x.j7)&&true) (sl (Nat.beq t1.1 1) (kk ⟨1,t1.2.is8⟩) (sl (Nat.beq t1.1 2) (kk ⟨1,-1⟩) (kk ⟨0,0⟩))) (kk ⟨0,0⟩))
noncomputable def P2(x:P0):P1:=B0 (λr=>r) x
noncomputable def Z5(x:P0)(r:P1):DT (a7×List c7):=(.ite (Nat.beq r.alt 1) (.ret (i r.is0,[⟨0,4,[[i x.e8,i x.e7,i x.g8,i x.o3]],true,false,0⟩])) .fail)
theorem Wa4{α β:Type}(F:α->β)(kk:P1->α)(x:P0):F (B0 kk x)=B0 (λr=>F (kk r)) x:=by unfold B0;(repeat' apply w8 (f:=F))<;>rfl
noncomputable def ra9:Sum:=Va3 ⟨[sLq tV,.fn 60 [.o (.ptr 0 0 0 0)]],[⟨0,4,true,some [kLq 4]⟩],λa H=>(⟨aLq tV a 0,hIq H 0 0 0,hIq H 0 0 1,hIq H 0 0 2,hIq H 0 0 3⟩,())⟩ (λx=>Z5 x (P2 x))
theorem Sa6:g9 prog G 40 ra9:=S4 (enc:=λx=>⟨[eL tV x.j7,.fn 60 [.ptr 0 0 0 0]],[⟨0,4,[[i x.e8,i x.e7,i x.g8,i x.o3]],true,false,0⟩]⟩) (λa H=>by kernel_rfl) (bd b40 Oa2) λx=>qb5 (.s .p (.s (.s .p (.b (.u W6.ls))) .p)) [W6.pr] (by kernel_rfl) (.cons La7 .nil) (Qhd (b:=B0 (λr=>(Z5 x r).run) x) (by kernel_rfl) (Wa4 (λr=>(Z5 x r).run) (λr=>r) x).symm)
structure J3 where
 j7:List V3
 (e8 e7 g8 o3:Int)
noncomputable def Fa9:List (Nat×Sum):=[(40,ra9)]
theorem Da3:n8 prog G Fa9:=⟨Sa6,trivial⟩
structure J4 where
 alt:Nat
 bs0:Bool
noncomputable def s9{α:Type}(kk:J4->α)(x:J3):α:=let t1:=(P2 ⟨rt tV x.j7,x.e8,x.e7,x.g8,x.o3⟩);(sl ((cnE tV x.j7)&&true) (sl (Nat.beq t1.alt 1) (kk ⟨1,decide (t1.is0>=0)⟩) (kk ⟨0,false⟩)) (kk ⟨0,false⟩))
noncomputable def n9(x:J3):J4:=s9 (λr=>r) x
noncomputable def S7(x:J3)(r:J4):DT (a7×List c7):=(.ite (Nat.beq r.alt 1) (.ret (b r.bs0,[⟨0,4,[[i x.e8,i x.e7,i x.g8,i x.o3]],true,false,0⟩])) .fail)
theorem La8{α β:Type}(F:α->β)(kk:J4->α)(x:J3):F (s9 kk x)=s9 (λr=>F (kk r)) x:=by unfold s9;(repeat' apply w8 (f:=F))<;>rfl
noncomputable def ia4:Sum:=Va3 ⟨[sLq tV,.fn 60 [.o (.ptr 0 0 0 0)]],[⟨0,4,true,some [kLq 4]⟩],λa H=>(⟨aLq tV a 0,hIq H 0 0 0,hIq H 0 0 1,hIq H 0 0 2,hIq H 0 0 3⟩,())⟩ (λx=>S7 x (n9 x))
theorem Ga0:g9 prog G 46 ia4:=S4 (enc:=λx=>⟨[eL tV x.j7,.fn 60 [.ptr 0 0 0 0]],[⟨0,4,[[i x.e8,i x.e7,i x.g8,i x.o3]],true,false,0⟩]⟩) (λa H=>by kernel_rfl) (bd b46 Da3) λx=>F8 (Qhd (b:=s9 (λr=>(S7 x r).run) x) (by kernel_rfl) (La8 (λr=>(S7 x r).run) (λr=>r) x).symm)
noncomputable def db7:List (Nat×Sum):=[]
theorem Kb3:n8 prog G db7:=trivial
@[reducible] noncomputable def ba8:Sum:=Ob9 (En db7) fe2
theorem ea4:g9 prog G 30 ba8:=bd b30 Kb3
noncomputable def Ga1:List (Nat×Sum):=[(49,Da2),(46,ia4),(30,ba8)]
theorem oc5:n8 prog G Ga1:=⟨Wa3,Ga0,ea4,trivial⟩
structure T5 where
 (is3 is4 is9 w7 Ua6 E7 Wb8:Int)
 (c8 d9:List V3)
structure D0 where
 y7:Int
noncomputable def kb1(p:T5)(s:D0):St:=⟨.unk::.ptr 0 0 0 0::.unk::i p.is3::i p.is4::ra 4 (i p.is9::i p.w7::ra 5 (i p.Ua6::i p.E7::ra 5 (i p.Wb8::i s.y7::ra 35 (i 0::.unk::.ptr 1 0 0 0::.ptr 2 0 0 0::ra 8 [])))),[⟨0,1,[[eL tV p.c8]],true,false,0⟩,⟨0,1,[[eL tV p.d9]],true,false,0⟩,⟨0,1,[[b false]],true,false,0⟩]⟩
noncomputable def ea5{α:Type}(k:D0->α)(e:Nat->α)(z:α)(p:T5)(s:D0):α:=let t1:=(C9 (gL tV p.c8 s.y7.toNat) (gL tV p.c8 p.is4.toNat) (gL tV p.c8 p.is3.toNat));let t2:=(n9 ⟨rt tV p.d9,t1.1.n.x,t1.1.n.y,t1.1.n.z,t1.1.b⟩);(sl (decide (s.y7<p.Wb8)) (sl (inB s.y7 (List.length p.c8)) (sl (inB p.is4 (List.length p.c8)) (sl (inB p.is3 (List.length p.c8)) (sl (X4 (gL tV p.c8 s.y7.toNat) (gL tV p.c8 p.is4.toNat) (gL tV p.c8 p.is3.toNat)) (sl t1.2 (sl t1.2 (sl ((cnE tV p.d9)&&true) (sl (Nat.beq t2.alt 1) (e 1) z) z) (k ⟨W (s.y7+1)⟩)) (sl t1.2 z (k ⟨W (s.y7+1)⟩))) z) z) z) z) (e 2))
noncomputable def J5(p:T5)(s:D0):Stp D0:=ea5 .next .exit .fail p s
noncomputable def Sa7:Lo T5 D0:=⟨En Ga1,0,Jd9,[1,0,1,4,4,1,4,4,1,1,0,4,1,1,4,4,1,1,0,4,1,1,4,4],[1,3,4,9,10,16,17,23,24,60,62,63],.p,[⟨sUq::sPq 0::sUq::sIq::sIq::ru2 4 (sIq::sIq::ru2 5 (sIq::sIq::ru2 5 (sIq::sIq::ru2 35 (.s (.o (.lit .i64 0))::sUq::sPq 1::sPq 2::ru2 8 [])))),[⟨0,1,true,some [[.c 3 (nL tV)]]⟩,⟨0,1,true,some [[.c 3 (nL tV)]]⟩,⟨0,1,true,some [[.o (.blit false)]]⟩],λa H=>(⟨aIq a 3,aIq a 4,aIq a 9,aIq a 10,aIq a 16,aIq a 17,aIq a 23,hLq tV H 0 0 0,hLq tV H 1 0 0⟩,⟨aIq a 24⟩)⟩],J5,[(none,λp s=>let t1:=(C9 (gL tV p.c8 s.y7.toNat) (gL tV p.c8 p.is4.toNat) (gL tV p.c8 p.is3.toNat));let t2:=(n9 ⟨rt tV p.d9,t1.1.n.x,t1.1.n.y,t1.1.n.z,t1.1.b⟩);⟨.unk::.ptr 0 0 0 0::.unk::i p.is3::i p.is4::i s.y7::.ptr 3 0 0 0::b t1.2::.unk::i p.is9::i p.w7::ra 5 (i p.Ua6::i p.E7::ra 5 (i p.Wb8::i s.y7::b (decide (s.y7<p.Wb8))::i s.y7::.tup [.agg [i t1.1.n.x,i t1.1.n.y,i t1.1.n.z,i t1.1.b],b t1.2]::eL tV p.c8::i s.y7::.tptr [i (gL tV p.c8 s.y7.toNat).x,i (gL tV p.c8 s.y7.toNat).y,i (gL tV p.c8 s.y7.toNat).z]::.agg [i (gL tV p.c8 s.y7.toNat).x,i (gL tV p.c8 s.y7.toNat).y,i (gL tV p.c8 s.y7.toNat).z]::eL tV p.c8::i p.is4::.tptr [i (gL tV p.c8 p.is4.toNat).x,i (gL tV p.c8 p.is4.toNat).y,i (gL tV p.c8 p.is4.toNat).z]::.agg [i (gL tV p.c8 p.is4.toNat).x,i (gL tV p.c8 p.is4.toNat).y,i (gL tV p.c8 p.is4.toNat).z]::eL tV p.c8::i p.is3::.tptr [i (gL tV p.c8 p.is3.toNat).x,i (gL tV p.c8 p.is3.toNat).y,i (gL tV p.c8 p.is3.toNat).z]::.agg [i (gL tV p.c8 p.is3.toNat).x,i (gL tV p.c8 p.is3.toNat).y,i (gL tV p.c8 p.is3.toNat).z]::.tup [.agg [i t1.1.n.x,i t1.1.n.y,i t1.1.n.z,i t1.1.b],b t1.2]::.agg [i t1.1.n.x,i t1.1.n.y,i t1.1.n.z,i t1.1.b]::b t1.2::b t1.2::b true::.unk::.agg [i t1.1.n.x,i t1.1.n.y,i t1.1.n.z,i t1.1.b]::b false::b true::b true::.unk::u::u::u::u::b true::b true::ra 3 (i 1::.unk::.ptr 1 0 0 0::.ptr 2 0 0 0::ra 8 []))),[⟨0,1,[[eL tV p.c8]],true,false,0⟩,⟨0,1,[[eL tV p.d9]],true,false,0⟩,⟨0,1,[[b (!t2.bs0)]],true,false,0⟩,⟨0,4,[[i t1.1.n.x,i t1.1.n.y,i t1.1.n.z,i t1.1.b]],true,false,0⟩,⟨0,4,[[i t1.1.n.x,i t1.1.n.y,i t1.1.n.z,i t1.1.b]],true,false,0⟩]⟩),(some 4,λp s=>upq (kb1 p s) [(25,b (decide (s.y7<p.Wb8)))])],kb1⟩
theorem gc1:Sa7.OkM:=Lo.okM [] (by kernel_rfl) .nil rfl (.cons (λa H=>by kernel_rfl) .nil) λp s=>(.of @ea5 (λF _ _ _ _ _=>by unfold ea5;(repeat' apply w8 (f:=F))<;>rfl) (by kernel_rfl))
structure Z6 where
 (is3 is9 w7 Ua6:Int)
structure F9 where
 E7:Int
 (c8 d9:List V3)
noncomputable def kb2(p:Z6)(s:F9):St:=⟨.unk::.ptr 0 0 0 0::.unk::i p.is3::ra 5 (i p.is9::i p.w7::ra 5 (i p.Ua6::i s.E7::ra 42 (i 0::.unk::.ptr 1 0 0 0::.ptr 2 0 0 0::ra 8 []))),[⟨0,1,[[eL tV s.c8]],true,false,0⟩,⟨0,1,[[eL tV s.d9]],true,false,0⟩,⟨0,1,[[b false]],true,false,0⟩]⟩
noncomputable def ea6{α:Type}(k:F9->α)(e:Nat->α)(z:α)(p:Z6)(s:F9):α:=let t1:=(lp (J5 (⟨p.is3,s.E7,p.is9,p.w7,p.Ua6,s.E7,(↑(s.E7.toNat-0):Int),rt tV s.c8,rt tV s.d9⟩:T5)) (⟨0⟩:D0));(sl (decide (s.E7<p.Ua6)) (sl (inB s.E7 ((List.length s.c8)+1)) (sl ((cnE tV s.c8)&&((cnE tV s.d9)&&true)) (sl (Nat.beq t1.1 1) (e 1) (sl (Nat.beq t1.1 2) (k ⟨W (s.E7+1),rt tV s.c8,rt tV s.d9⟩) z)) z) z) (e 2))
noncomputable def O2(p:Z6)(s:F9):Stp F9:=ea6 .next .exit .fail p s
noncomputable def Sa8:Lo Z6 F9:=⟨En Ga1,0,Jd9,[1,0,1,4,4,1,4,4,1,1,0,4,1,1,4,4],[1,3,9,10,16,17,60,62,63],.s .p (.s .p (.s (.b (.s .p (.s .p (.b (.u Sa7.lsM))))) .p)),[⟨sUq::sPq 0::sUq::sIq::ru2 5 (sIq::sIq::ru2 5 (sIq::sIq::ru2 42 (.s (.o (.lit .i64 0))::sUq::sPq 1::sPq 2::ru2 8 []))),[⟨0,1,true,some [[.c 3 (nL tV)]]⟩,⟨0,1,true,some [[.c 3 (nL tV)]]⟩,⟨0,1,true,some [[.o (.blit false)]]⟩],λa H=>(⟨aIq a 3,aIq a 9,aIq a 10,aIq a 16⟩,⟨aIq a 17,hLq tV H 0 0 0,hLq tV H 1 0 0⟩)⟩],O2,[(none,λp s=>let t1:=(lp (J5 (⟨p.is3,s.E7,p.is9,p.w7,p.Ua6,s.E7,(↑(s.E7.toNat-0):Int),rt tV s.c8,rt tV s.d9⟩:T5)) (⟨0⟩:D0));let t2:=(C9 (gL tV (rt tV s.c8) t1.2.y7.toNat) (gL tV (rt tV s.c8) s.E7.toNat) (gL tV (rt tV s.c8) p.is3.toNat));let t3:=(n9 ⟨rt tV (rt tV s.d9),t2.1.n.x,t2.1.n.y,t2.1.n.z,t2.1.b⟩);⟨.unk::.ptr 0 0 0 0::.unk::i p.is3::i s.E7::i t1.2.y7::.ptr 3 0 0 0::b t2.2::.unk::i p.is9::i p.w7::ra 5 (i p.Ua6::i s.E7::ra 5 (i (↑(s.E7.toNat-0):Int)::i t1.2.y7::b (decide (t1.2.y7<(↑(s.E7.toNat-0):Int)))::i t1.2.y7::.tup [.agg [i t2.1.n.x,i t2.1.n.y,i t2.1.n.z,i t2.1.b],b t2.2]::eL tV (rt tV s.c8)::i t1.2.y7::.tptr [i (gL tV (rt tV s.c8) t1.2.y7.toNat).x,i (gL tV (rt tV s.c8) t1.2.y7.toNat).y,i (gL tV (rt tV s.c8) t1.2.y7.toNat).z]::.agg [i (gL tV (rt tV s.c8) t1.2.y7.toNat).x,i (gL tV (rt tV s.c8) t1.2.y7.toNat).y,i (gL tV (rt tV s.c8) t1.2.y7.toNat).z]::eL tV (rt tV s.c8)::i s.E7::.tptr [i (gL tV (rt tV s.c8) s.E7.toNat).x,i (gL tV (rt tV s.c8) s.E7.toNat).y,i (gL tV (rt tV s.c8) s.E7.toNat).z]::.agg [i (gL tV (rt tV s.c8) s.E7.toNat).x,i (gL tV (rt tV s.c8) s.E7.toNat).y,i (gL tV (rt tV s.c8) s.E7.toNat).z]::eL tV (rt tV s.c8)::i p.is3::.tptr [i (gL tV (rt tV s.c8) p.is3.toNat).x,i (gL tV (rt tV s.c8) p.is3.toNat).y,i (gL tV (rt tV s.c8) p.is3.toNat).z]::.agg [i (gL tV (rt tV s.c8) p.is3.toNat).x,i (gL tV (rt tV s.c8) p.is3.toNat).y,i (gL tV (rt tV s.c8) p.is3.toNat).z]::.tup [.agg [i t2.1.n.x,i t2.1.n.y,i t2.1.n.z,i t2.1.b],b t2.2]::.agg [i t2.1.n.x,i t2.1.n.y,i t2.1.n.z,i t2.1.b]::b t2.2::b t2.2::b true::.unk::.agg [i t2.1.n.x,i t2.1.n.y,i t2.1.n.z,i t2.1.b]::b false::b true::b true::.unk::u::u::u::u::b true::b true::ra 3 (i 1::.unk::.ptr 1 0 0 0::.ptr 2 0 0 0::ra 8 []))),[⟨0,1,[[eL tV (rt tV s.c8)]],true,false,0⟩,⟨0,1,[[eL tV (rt tV s.d9)]],true,false,0⟩,⟨0,1,[[b (!t3.bs0)]],true,false,0⟩,⟨0,4,[[i t2.1.n.x,i t2.1.n.y,i t2.1.n.z,i t2.1.b]],true,false,0⟩,⟨0,4,[[i t2.1.n.x,i t2.1.n.y,i t2.1.n.z,i t2.1.b]],true,false,0⟩]⟩),(some 2,λp s=>upq (kb2 p s) [(18,b (decide (s.E7<p.Ua6)))])],kb2⟩
theorem gc2:Sa8.OkM:=Lo.okM [Sa7.prM] (by kernel_rfl) (.cons gc1 .nil) rfl (.cons (λa H=>by kernel_rfl) .nil) λp s=>(.of @ea6 (λF _ _ _ _ _=>by unfold ea6;(repeat' apply w8 (f:=F))<;>rfl) (by kernel_rfl))
structure oa3 where
 is9:Int
structure N9 where
 w7:Int
 (c8 d9:List V3)
noncomputable def kb3(p:oa3)(s:N9):St:=⟨.unk::.ptr 0 0 0 0::ra 7 (i p.is9::i s.w7::ra 49 (i 0::.unk::.ptr 1 0 0 0::.ptr 2 0 0 0::ra 8 [])),[⟨0,1,[[eL tV s.c8]],true,false,0⟩,⟨0,1,[[eL tV s.d9]],true,false,0⟩,⟨0,1,[[b false]],true,false,0⟩]⟩
noncomputable def ea7{α:Type}(k:N9->α)(e:Nat->α)(z:α)(p:oa3)(s:N9):α:=let t1:=(lp (O2 (⟨s.w7,p.is9,s.w7,(↑(s.w7.toNat-0):Int)⟩:Z6)) (⟨0,rt tV s.c8,rt tV s.d9⟩:F9));(sl (decide (s.w7<p.is9)) (sl (inB s.w7 ((List.length s.c8)+1)) (sl ((cnE tV s.c8)&&((cnE tV s.d9)&&true)) (sl (Nat.beq t1.1 1) (e 1) (sl (Nat.beq t1.1 2) (k ⟨W (s.w7+1),t1.2.c8,t1.2.d9⟩) z)) z) z) (e 2))
noncomputable def ba9(p:oa3)(s:N9):Stp N9:=ea7 .next .exit .fail p s
noncomputable def Sa9:Lo oa3 N9:=⟨En Ga1,0,Jd9,[1,0,1,4,4,1,4,4],[1,9,10,60,62,63],.s .p (.s .p (.s (.b (.s .p (.s .p (.b (.u Sa8.lsM))))) .p)),[⟨sUq::sPq 0::ru2 7 (sIq::sIq::ru2 49 (.s (.o (.lit .i64 0))::sUq::sPq 1::sPq 2::ru2 8 [])),[⟨0,1,true,some [[.c 3 (nL tV)]]⟩,⟨0,1,true,some [[.c 3 (nL tV)]]⟩,⟨0,1,true,some [[.o (.blit false)]]⟩],λa H=>(⟨aIq a 9⟩,⟨aIq a 10,hLq tV H 0 0 0,hLq tV H 1 0 0⟩)⟩],ba9,[(none,λp s=>let t1:=(lp (O2 (⟨s.w7,p.is9,s.w7,(↑(s.w7.toNat-0):Int)⟩:Z6)) (⟨0,rt tV s.c8,rt tV s.d9⟩:F9));let t2:=(lp (J5 (⟨s.w7,t1.2.E7,p.is9,s.w7,(↑(s.w7.toNat-0):Int),t1.2.E7,(↑(t1.2.E7.toNat-0):Int),rt tV t1.2.c8,rt tV t1.2.d9⟩:T5)) (⟨0⟩:D0));let t3:=(C9 (gL tV (rt tV t1.2.c8) t2.2.y7.toNat) (gL tV (rt tV t1.2.c8) t1.2.E7.toNat) (gL tV (rt tV t1.2.c8) s.w7.toNat));let t4:=(n9 ⟨rt tV (rt tV t1.2.d9),t3.1.n.x,t3.1.n.y,t3.1.n.z,t3.1.b⟩);⟨.unk::.ptr 0 0 0 0::.unk::i s.w7::i t1.2.E7::i t2.2.y7::.ptr 3 0 0 0::b t3.2::.unk::i p.is9::i s.w7::ra 5 (i (↑(s.w7.toNat-0):Int)::i t1.2.E7::ra 5 (i (↑(t1.2.E7.toNat-0):Int)::i t2.2.y7::b (decide (t2.2.y7<(↑(t1.2.E7.toNat-0):Int)))::i t2.2.y7::.tup [.agg [i t3.1.n.x,i t3.1.n.y,i t3.1.n.z,i t3.1.b],b t3.2]::eL tV (rt tV t1.2.c8)::i t2.2.y7::.tptr [i (gL tV (rt tV t1.2.c8) t2.2.y7.toNat).x,i (gL tV (rt tV t1.2.c8) t2.2.y7.toNat).y,i (gL tV (rt tV t1.2.c8) t2.2.y7.toNat).z]::.agg [i (gL tV (rt tV t1.2.c8) t2.2.y7.toNat).x,i (gL tV (rt tV t1.2.c8) t2.2.y7.toNat).y,i (gL tV (rt tV t1.2.c8) t2.2.y7.toNat).z]::eL tV (rt tV t1.2.c8)::i t1.2.E7::.tptr [i (gL tV (rt tV t1.2.c8) t1.2.E7.toNat).x,i (gL tV (rt tV t1.2.c8) t1.2.E7.toNat).y,i (gL tV (rt tV t1.2.c8) t1.2.E7.toNat).z]::.agg [i (gL tV (rt tV t1.2.c8) t1.2.E7.toNat).x,i (gL tV (rt tV t1.2.c8) t1.2.E7.toNat).y,i (gL tV (rt tV t1.2.c8) t1.2.E7.toNat).z]::eL tV (rt tV t1.2.c8)::i s.w7::.tptr [i (gL tV (rt tV t1.2.c8) s.w7.toNat).x,i (gL tV (rt tV t1.2.c8) s.w7.toNat).y,i (gL tV (rt tV t1.2.c8) s.w7.toNat).z]::.agg [i (gL tV (rt tV t1.2.c8) s.w7.toNat).x,i (gL tV (rt tV t1.2.c8) s.w7.toNat).y,i (gL tV (rt tV t1.2.c8) s.w7.toNat).z]::.tup [.agg [i t3.1.n.x,i t3.1.n.y,i t3.1.n.z,i t3.1.b],b t3.2]::.agg [i t3.1.n.x,i t3.1.n.y,i t3.1.n.z,i t3.1.b]::b t3.2::b t3.2::b true::.unk::.agg [i t3.1.n.x,i t3.1.n.y,i t3.1.n.z,i t3.1.b]::b false::b true::b true::.unk::u::u::u::u::b true::b true::ra 3 (i 1::.unk::.ptr 1 0 0 0::.ptr 2 0 0 0::ra 8 []))),[⟨0,1,[[eL tV (rt tV t1.2.c8)]],true,false,0⟩,⟨0,1,[[eL tV (rt tV t1.2.d9)]],true,false,0⟩,⟨0,1,[[b (!t4.bs0)]],true,false,0⟩,⟨0,4,[[i t3.1.n.x,i t3.1.n.y,i t3.1.n.z,i t3.1.b]],true,false,0⟩,⟨0,4,[[i t3.1.n.x,i t3.1.n.y,i t3.1.n.z,i t3.1.b]],true,false,0⟩]⟩),(some 0,λp s=>upq (kb3 p s) [(11,b (decide (s.w7<p.is9)))])],kb3⟩
theorem gc3:Sa9.OkM:=Lo.okM [Sa8.prM] (by kernel_rfl) (.cons gc2 .nil) rfl (.cons (λa H=>by kernel_rfl) .nil) λp s=>(.of @ea7 (λF _ _ _ _ _=>by unfold ea7;(repeat' apply w8 (f:=F))<;>rfl) (by kernel_rfl))
noncomputable def Ba6(x:List V3):Option (a7×List c7):=let t1:=(lp (ba9 (⟨(↑(List.length x):Int)⟩:oa3)) (⟨0,rt tV x,rt tV x⟩:N9));let t2:=(lp (O2 (⟨t1.2.w7,(↑(List.length x):Int),t1.2.w7,(↑(t1.2.w7.toNat-0):Int)⟩:Z6)) (⟨0,rt tV t1.2.c8,rt tV t1.2.d9⟩:F9));let t3:=(lp (J5 (⟨t1.2.w7,t2.2.E7,(↑(List.length x):Int),t1.2.w7,(↑(t1.2.w7.toNat-0):Int),t2.2.E7,(↑(t2.2.E7.toNat-0):Int),rt tV t2.2.c8,rt tV t2.2.d9⟩:T5)) (⟨0⟩:D0));let t4:=(C9 (gL tV (rt tV t2.2.c8) t3.2.y7.toNat) (gL tV (rt tV t2.2.c8) t2.2.E7.toNat) (gL tV (rt tV t2.2.c8) t1.2.w7.toNat));let t5:=(n9 ⟨rt tV (rt tV t2.2.d9),t4.1.n.x,t4.1.n.y,t4.1.n.z,t4.1.b⟩);(sl ((cnE tV x)&&((cnE tV x)&&true)) (sl (Nat.beq t1.1 1) (some (b (!t5.bs0),[])) (sl (Nat.beq t1.1 2) (some (b true,[])) none)) none)
noncomputable def Qa1(x:List V3):Bool:=T8 (one r1B) (Ba6 x)
noncomputable def Qa2(x:List V3):Bool:=okO (one r1B) (Ba6 x)
noncomputable def Qb1:Sum:=O8 (Ba4 tV) (λx=>.guard (Qa2 x) (.ret ((one r1B).enc (Qa1 x),[])))
theorem Bc1:g9 prog G 47 Qb1:=Sa0 (bd b47 oc5) (one r1B) (o:=Ba6) λx=>tc9 (.s .p (.s (.s .p (.b (.i (.s .p (.b (.u Sa9.lsM)))))) .p)) [Sa9.prM] (by kernel_rfl) (.cons gc3 .nil) (by kernel_rfl)
structure pa7 where
 (V9 W0 W4 e8 e7 g8 o3:Int)
noncomputable def Kb4:List (Nat×Sum):=[(20,ua6)]
theorem Db6:n8 prog G Kb4:=⟨Aa0,trivial⟩
structure pa8 where
 alt:Nat
 bs0:Bool
noncomputable def X5{α:Type}(kk:pa8->α)(x:pa7):α:=let t1:=(J2 (⟨(⟨x.e8,x.e7,x.g8⟩:V3),x.o3⟩:Pln) (⟨x.V9,x.W0,x.W4⟩:V3));(sl (S6 (⟨(⟨x.e8,x.e7,x.g8⟩:V3),x.o3⟩:Pln) (⟨x.V9,x.W0,x.W4⟩:V3)) (kk ⟨1,decide (t1>0)⟩) (kk ⟨0,false⟩))
noncomputable def pa9(x:pa7):pa8:=X5 (λr=>r) x
noncomputable def ya3(x:pa7)(r:pa8):DT (a7×List c7):=(.ite (Nat.beq r.alt 1) (.ret (b r.bs0,[⟨0,4,[[i x.e8,i x.e7,i x.g8,i x.o3]],true,false,0⟩])) .fail)
theorem Sb6{α β:Type}(F:α->β)(kk:pa8->α)(x:pa7):F (X5 kk x)=X5 (λr=>F (kk r)) x:=by unfold X5;(repeat' apply w8 (f:=F))<;>rfl
noncomputable def db8:Sum:=Va3 ⟨[.agg (kLq 3),sPq 0],[⟨0,4,true,some [kLq 4]⟩],λa H=>(⟨cIq a 0 0,cIq a 0 1,cIq a 0 2,hIq H 0 0 0,hIq H 0 0 1,hIq H 0 0 2,hIq H 0 0 3⟩,())⟩ (λx=>ya3 x (pa9 x))
theorem Kb5:g9 prog G 51 db8:=S4 (enc:=λx=>⟨[.agg [i x.V9,i x.W0,i x.W4],.ptr 0 0 0 0],[⟨0,4,[[i x.e8,i x.e7,i x.g8,i x.o3]],true,false,0⟩]⟩) (λa H=>by kernel_rfl) (bd b51 Db6) λx=>F8 (Qhd (b:=X5 (λr=>(ya3 x r).run) x) (by kernel_rfl) (Sb6 (λr=>(ya3 x r).run) (λr=>r) x).symm)
structure P4 where
 j7:List V3
 (e8 e7 g8 o3:Int)
noncomputable def oa4:List (Nat×Sum):=[(51,db8)]
theorem Oa3:n8 prog G oa4:=⟨Kb5,trivial⟩
structure E2 where
 j7:List V3
 (is7 e8 e7 g8 o3:Int)
structure l5 where
 is8:Int
noncomputable def ia5(p:E2)(s:l5):St:=⟨eL tV p.j7::.fn 51 [.ptr 0 0 0 0]::ra 5 (i p.is7::i s.is8::ra 10 []),[⟨0,4,[[i p.e8,i p.e7,i p.g8,i p.o3]],true,false,0⟩]⟩
noncomputable def A3{α:Type}(k:l5->α)(e:Nat->α)(z:α)(p:E2)(s:l5):α:=let t1:=(pa9 ⟨(gL tV p.j7 s.is8.toNat).x,(gL tV p.j7 s.is8.toNat).y,(gL tV p.j7 s.is8.toNat).z,p.e8,p.e7,p.g8,p.o3⟩);(sl (decide (s.is8<p.is7)) (sl (inB s.is8 (List.length p.j7)) (sl (Nat.beq t1.alt 1) (sl t1.bs0 (e 1) (k ⟨W (s.is8+1)⟩)) z) z) (e 2))
noncomputable def C3(p:E2)(s:l5):Stp l5:=A3 .next .exit .fail p s
noncomputable def W7:Lo E2 l5:=⟨En oa4,1,ud7,[1,0,1,4,4],[0,1,7,8],.p,[⟨sLq tV::.fn 51 [.o (.ptr 0 0 0 0)]::ru2 5 (sIq::sIq::ru2 10 []),[⟨0,4,true,some [kLq 4]⟩],λa H=>(⟨aLq tV a 0,aIq a 7,hIq H 0 0 0,hIq H 0 0 1,hIq H 0 0 2,hIq H 0 0 3⟩,⟨aIq a 8⟩)⟩],C3,[(none,λp s=>⟨[i s.is8],[⟨0,4,[[i p.e8,i p.e7,i p.g8,i p.o3]],true,false,0⟩]⟩),(some 0,λp s=>upq (ia5 p s) [(9,b (decide (s.is8<p.is7)))])],ia5⟩
theorem La9:W7.Ok:=Lo.ok [] (by kernel_rfl) .nil rfl (.cons (λa H=>by kernel_rfl) .nil) λp s=>(.of @A3 (λF _ _ _ _ _=>by unfold A3;(repeat' apply w8 (f:=F))<;>rfl) (by kernel_rfl))
structure P5 where
 alt:Nat
 is0:Int
noncomputable def B1{α:Type}(kk:P5->α)(x:P4):α:=let t1:=(lp (C3 (⟨rt tV x.j7,(↑(List.length x.j7):Int),x.e8,x.e7,x.g8,x.o3⟩:E2)) (⟨0⟩:l5));(sl ((cnE tV x.j7)&&true) (sl (Nat.beq t1.1 1) (kk ⟨1,t1.2.is8⟩) (sl (Nat.beq t1.1 2) (kk ⟨1,-1⟩) (kk ⟨0,0⟩))) (kk ⟨0,0⟩))
noncomputable def P6(x:P4):P5:=B1 (λr=>r) x
noncomputable def Z7(x:P4)(r:P5):DT (a7×List c7):=(.ite (Nat.beq r.alt 1) (.ret (i r.is0,[⟨0,4,[[i x.e8,i x.e7,i x.g8,i x.o3]],true,false,0⟩])) .fail)
theorem Wa5{α β:Type}(F:α->β)(kk:P5->α)(x:P4):F (B1 kk x)=B1 (λr=>F (kk r)) x:=by unfold B1;(repeat' apply w8 (f:=F))<;>rfl
noncomputable def sa0:Sum:=Va3 ⟨[sLq tV,.fn 51 [.o (.ptr 0 0 0 0)]],[⟨0,4,true,some [kLq 4]⟩],λa H=>(⟨aLq tV a 0,hIq H 0 0 0,hIq H 0 0 1,hIq H 0 0 2,hIq H 0 0 3⟩,())⟩ (λx=>Z7 x (P6 x))
theorem Ta0:g9 prog G 40 sa0:=S4 (enc:=λx=>⟨[eL tV x.j7,.fn 51 [.ptr 0 0 0 0]],[⟨0,4,[[i x.e8,i x.e7,i x.g8,i x.o3]],true,false,0⟩]⟩) (λa H=>by kernel_rfl) (bd b40 Oa3) λx=>qb5 (.s .p (.s (.s .p (.b (.u W7.ls))) .p)) [W7.pr] (by kernel_rfl) (.cons La9 .nil) (Qhd (b:=B1 (λr=>(Z7 x r).run) x) (by kernel_rfl) (Wa5 (λr=>(Z7 x r).run) (λr=>r) x).symm)
structure J6 where
 j7:List V3
 (e8 e7 g8 o3:Int)
noncomputable def Ga2:List (Nat×Sum):=[(40,sa0)]
theorem Da4:n8 prog G Ga2:=⟨Ta0,trivial⟩
structure J7 where
 alt:Nat
 bs0:Bool
noncomputable def u7{α:Type}(kk:J7->α)(x:J6):α:=let t1:=(P6 ⟨rt tV x.j7,x.e8,x.e7,x.g8,x.o3⟩);(sl ((cnE tV x.j7)&&true) (sl (Nat.beq t1.alt 1) (kk ⟨1,decide (t1.is0>=0)⟩) (kk ⟨0,false⟩)) (kk ⟨0,false⟩))
noncomputable def J8(x:J6):J7:=u7 (λr=>r) x
noncomputable def S8(x:J6)(r:J7):DT (a7×List c7):=(.ite (Nat.beq r.alt 1) (.ret (b r.bs0,[⟨0,4,[[i x.e8,i x.e7,i x.g8,i x.o3]],true,false,0⟩])) .fail)
theorem Ma0{α β:Type}(F:α->β)(kk:J7->α)(x:J6):F (u7 kk x)=u7 (λr=>F (kk r)) x:=by unfold u7;(repeat' apply w8 (f:=F))<;>rfl
noncomputable def ia6:Sum:=Va3 ⟨[sLq tV,.fn 51 [.o (.ptr 0 0 0 0)]],[⟨0,4,true,some [kLq 4]⟩],λa H=>(⟨aLq tV a 0,hIq H 0 0 0,hIq H 0 0 1,hIq H 0 0 2,hIq H 0 0 3⟩,())⟩ (λx=>S8 x (J8 x))
theorem Ga3:g9 prog G 46 ia6:=S4 (enc:=λx=>⟨[eL tV x.j7,.fn 51 [.ptr 0 0 0 0]],[⟨0,4,[[i x.e8,i x.e7,i x.g8,i x.o3]],true,false,0⟩]⟩) (λa H=>by kernel_rfl) (bd b46 Da4) λx=>F8 (Qhd (b:=u7 (λr=>(S8 x r).run) x) (by kernel_rfl) (Ma0 (λr=>(S8 x r).run) (λr=>r) x).symm)
noncomputable def gc4:List (Nat×Sum):=[(46,ia6)]
theorem Sb7:n8 prog G gc4:=⟨Ga3,trivial⟩
noncomputable def oa5(x:List V3)(y:Pln):Option (a7×List c7):=let t1:=(J8 ⟨rt tV x,y.n.x,y.n.y,y.n.z,y.b⟩);(sl ((cnE tV x)&&true) (sl (Nat.beq t1.alt 1) (some (b t1.bs0,[])) none) none)
noncomputable def T6(x:List V3)(y:Pln):Bool:=T8 (one r1B) (oa5 x y)
noncomputable def D1(x:List V3)(y:Pln):Bool:=okO (one r1B) (oa5 x y)
noncomputable def sb4:Sum:=Oa1 (Ba4 tV) (ta8 tP) (λx y=>.guard (D1 x y) (.ret ((one r1B).enc (T6 x y),[])))
theorem gc5:g9 prog G 31 sb4:=Sb0 (bd b31 Sb7) (one r1B) (o:=oa5) λx y=>F8 (by kernel_rfl)
noncomputable def Sb8:List (Nat×Sum):=[(35,ab6)]
theorem Kb6:n8 prog G Sb8:=⟨kb0,trivial⟩
noncomputable def ia7(x:V3):Option (a7×List c7):=let t1:=(ia1 x);(sl (ia2 x) (some (b (!t1),[])) none)
noncomputable def ua7(x:V3):Bool:=T8 (one r1B) (ia7 x)
noncomputable def ua8(x:V3):Bool:=okO (one r1B) (ia7 x)
noncomputable def kb4:Sum:=O8 (ta8 tV) (λx=>.guard (ua8 x) (.ret ((one r1B).enc (ua7 x),[])))
theorem Sb9:g9 prog G 45 kb4:=Sa0 (bd b45 Kb6) (one r1B) (o:=ia7) λx=>F8 (by kernel_rfl)
structure P7 where
 j7:List V3
noncomputable def oa6:List (Nat×Sum):=[(45,kb4)]
theorem Oa4:n8 prog G oa6:=⟨Sb9,trivial⟩
structure E3 where
 j7:List V3
 is7:Int
structure l6 where
 is8:Int
noncomputable def ia8(p:E3)(s:l6):St:=⟨eL tV p.j7::.fn 45 []::ra 5 (i p.is7::i s.is8::ra 10 []),[]⟩
noncomputable def A4{α:Type}(k:l6->α)(e:Nat->α)(z:α)(p:E3)(s:l6):α:=let t1:=(ua7 (gL tV p.j7 s.is8.toNat));(sl (decide (s.is8<p.is7)) (sl (inB s.is8 (List.length p.j7)) (sl (ua8 (gL tV p.j7 s.is8.toNat)) (sl t1 (e 1) (k ⟨W (s.is8+1)⟩)) z) z) (e 2))
noncomputable def C4(p:E3)(s:l6):Stp l6:=A4 .next .exit .fail p s
noncomputable def W8:Lo E3 l6:=⟨En oa6,0,ud7,[1,0,1,4,4],[0,1,7,8],.p,[⟨sLq tV::.s (.o (.fn 45))::ru2 5 (sIq::sIq::ru2 10 []),[],λa H=>(⟨aLq tV a 0,aIq a 7⟩,⟨aIq a 8⟩)⟩],C4,[(none,λp s=>⟨[i s.is8],[]⟩),(some 0,λp s=>upq (ia8 p s) [(9,b (decide (s.is8<p.is7)))])],ia8⟩
theorem Ma1:W8.Ok:=Lo.ok [] (by kernel_rfl) .nil rfl (.cons (λa H=>by kernel_rfl) .nil) λp s=>(.of @A4 (λF _ _ _ _ _=>by unfold A4;(repeat' apply w8 (f:=F))<;>rfl) (by kernel_rfl))
structure P8 where
 alt:Nat
 is0:Int
noncomputable def B4{α:Type}(kk:P8->α)(x:P7):α:=let t1:=(lp (C4 (⟨rt tV x.j7,(↑(List.length x.j7):Int)⟩:E3)) (⟨0⟩:l6));(sl ((cnE tV x.j7)&&true) (sl (Nat.beq t1.1 1) (kk ⟨1,t1.2.is8⟩) (sl (Nat.beq t1.1 2) (kk ⟨1,-1⟩) (kk ⟨0,0⟩))) (kk ⟨0,0⟩))
noncomputable def P9(x:P7):P8:=B4 (λr=>r) x
noncomputable def Z8(x:P7)(r:P8):DT (a7×List c7):=(.ite (Nat.beq r.alt 1) (.ret (i r.is0,[])) .fail)
theorem Wa6{α β:Type}(F:α->β)(kk:P8->α)(x:P7):F (B4 kk x)=B4 (λr=>F (kk r)) x:=by unfold B4;(repeat' apply w8 (f:=F))<;>rfl
noncomputable def sa1:Sum:=Va3 ⟨[sLq tV,.s (.o (.fn 45))],[],λa H=>(⟨aLq tV a 0⟩,())⟩ (λx=>Z8 x (P9 x))
theorem Ta1:g9 prog G 40 sa1:=S4 (enc:=λx=>⟨[eL tV x.j7,.fn 45 []],[]⟩) (λa H=>by kernel_rfl) (bd b40 Oa4) λx=>qb5 (.s .p (.s (.s .p (.b (.u W8.ls))) .p)) [W8.pr] (by kernel_rfl) (.cons Ma1 .nil) (Qhd (b:=B4 (λr=>(Z8 x r).run) x) (by kernel_rfl) (Wa6 (λr=>(Z8 x r).run) (λr=>r) x).symm)
structure J9 where
 j7:List V3
noncomputable def Ga4:List (Nat×Sum):=[(40,sa1)]
theorem Da5:n8 prog G Ga4:=⟨Ta1,trivial⟩
structure K0 where
 alt:Nat
 bs0:Bool
noncomputable def u8{α:Type}(kk:K0->α)(x:J9):α:=let t1:=(P9 ⟨rt tV x.j7⟩);(sl ((cnE tV x.j7)&&true) (sl (Nat.beq t1.alt 1) (kk ⟨1,decide (t1.is0>=0)⟩) (kk ⟨0,false⟩)) (kk ⟨0,false⟩))
noncomputable def K1(x:J9):K0:=u8 (λr=>r) x
noncomputable def S9(x:J9)(r:K0):DT (a7×List c7):=(.ite (Nat.beq r.alt 1) (.ret (b r.bs0,[])) .fail)
theorem Ma2{α β:Type}(F:α->β)(kk:K0->α)(x:J9):F (u8 kk x)=u8 (λr=>F (kk r)) x:=by unfold u8;(repeat' apply w8 (f:=F))<;>rfl
noncomputable def ia9:Sum:=Va3 ⟨[sLq tV,.s (.o (.fn 45))],[],λa H=>(⟨aLq tV a 0⟩,())⟩ (λx=>S9 x (K1 x))
theorem Ga5:g9 prog G 46 ia9:=S4 (enc:=λx=>⟨[eL tV x.j7,.fn 45 []],[]⟩) (λa H=>by kernel_rfl) (bd b46 Da5) λx=>F8 (Qhd (b:=u8 (λr=>(S9 x r).run) x) (by kernel_rfl) (Ma2 (λr=>(S9 x r).run) (λr=>r) x).symm)
noncomputable def oc6:List (Nat×Sum):=[(46,ia9),(47,Qb1)]
theorem gc6:n8 prog G oc6:=⟨Ga5,Bc1,trivial⟩
noncomputable def ua9(x:List V3):Option (a7×List c7):=let t1:=(K1 ⟨rt tV x⟩);let t2:=(Qa1 (rt tV x));(sl (decide ((↑(List.length x):Int)>48)) (some (i 2,[])) (sl ((cnE tV x)&&true) (sl (Nat.beq t1.alt 1) (sl t1.bs0 (some (i 3,[])) (sl (okE tV x) (sl (Qa2 (rt tV x)) (sl t2 (some (i 11,[])) (some (i 0,[]))) none) none)) none) none))
noncomputable def la7(x:List V3):Int:=T8 (one r1I) (ua9 x)
noncomputable def la8(x:List V3):Bool:=okO (one r1I) (ua9 x)
noncomputable def Ga6:Sum:=O8 (Ba4 tV) (λx=>.guard (la8 x) (.ret ((one r1I).enc (la7 x),[])))
theorem Ta2:g9 prog G 29 Ga6:=Sa0 (bd b29 gc6) (one r1I) (o:=ua9) λx=>F8 (by kernel_rfl)
noncomputable def Kb7:List (Nat×Sum):=[]
theorem Db7:n8 prog G Kb7:=trivial
noncomputable def qa0(x:Int):Bool:=(x != x)
noncomputable def db9:Sum:=O8 cI (λx=>.ret ((one r1B).enc (qa0 x),[]))
theorem Kb8:g9 prog G 81 db9:=ob0 (bd b81 Db7) λx=>F8 (by kernel_rfl)
noncomputable def xb3:List (Nat×Sum):=[(81,db9)]
theorem qb6:n8 prog G xb3:=⟨Kb8,trivial⟩
noncomputable def Y1(x:Int)(y:Int):Option (a7×List c7):=let t1:=(qa0 x);let t2:=(qa0 y);(sl t1 (sl t2 (some (i 0,[])) (some (i (-1),[]))) (sl t2 (some (i 1,[])) (sl (decide (x<y)) (some (i (-1),[])) (sl (decide (x>y)) (some (i 1,[])) (some (i 0,[]))))))
noncomputable def Q0(x:Int)(y:Int):Int:=T8 (one r1I) (Y1 x y)
noncomputable def Q1(x:Int)(y:Int):Bool:=okO (one r1I) (Y1 x y)
noncomputable def Qa3:Sum:=Oa1 cI cI (λx y=>.guard (Q1 x y) (.ret ((one r1I).enc (Q0 x y),[])))
theorem xb4:g9 prog G 59 Qa3:=Sb0 (bd b59 qb6) (one r1I) (o:=Y1) λx y=>F8 (by kernel_rfl)
noncomputable def sb5:List (Nat×Sum):=[]
theorem gc7:n8 prog G sb5:=trivial
structure ja0 where
 Qa9:List Int
 is7:Int
structure G3 where
 is8:Int
noncomputable def eb0(p:ja0)(s:G3):St:=⟨ra 3 (i 0::.unk::.unk::eL tI p.Qa9::i p.is7::i s.is8::ra 9 []),[]⟩
noncomputable def ya4{α:Type}(k:G3->α)(e:Nat->α)(z:α)(p:ja0)(s:G3):α:=(sl (decide (s.is8<p.is7)) (sl (inB s.is8 (List.length p.Qa9)) (sl ((gL tI p.Qa9 s.is8.toNat) != 0) (e 1) (k ⟨W (s.is8+1)⟩)) z) (e 2))
noncomputable def R5(p:ja0)(s:G3):Stp G3:=ya4 .next .exit .fail p s
noncomputable def Ma3:Lo ja0 G3:=⟨En sb5,0,fe6,[1,1,0,1,4,4],[3,6,7,8],.p,[⟨ru2 3 (.s (.o (.lit .i64 0))::sUq::sUq::sLq tI::sIq::sIq::ru2 9 []),[],λa H=>(⟨aLq tI a 6,aIq a 7⟩,⟨aIq a 8⟩)⟩],R5,[(none,λp s=>⟨[i (gL tI p.Qa9 s.is8.toNat)],[]⟩),(some 0,λp s=>upq (eb0 p s) [(9,b (decide (s.is8<p.is7)))])],eb0⟩
theorem Tb0:Ma3.Ok:=Lo.ok [] (by kernel_rfl) .nil rfl (.cons (λa H=>by kernel_rfl) .nil) λp s=>(.of @ya4 (λF _ _ _ _ _=>by unfold ya4;(repeat' apply w8 (f:=F))<;>rfl) (by kernel_rfl))
noncomputable def va0(x:List Int):Option (a7×List c7):=let t1:=(lp (R5 (⟨rt tI x,(↑(List.length x):Int)⟩:ja0)) (⟨0⟩:G3));(sl ((cnE tI x)&&true) (sl (Nat.beq t1.1 1) (some (i (gL tI (rt tI x) t1.2.is8.toNat),[])) (sl (Nat.beq t1.1 2) (some (i 0,[])) none)) none)
noncomputable def Ga7(x:List Int):Int:=T8 (one r1I) (va0 x)
noncomputable def Ga8(x:List Int):Bool:=okO (one r1I) (va0 x)
noncomputable def Db8:Sum:=O8 (Ba4 tI) (λx=>.guard (Ga8 x) (.ret ((one r1I).enc (Ga7 x),[])))
theorem oc7:g9 prog G 58 Db8:=Sa0 (bd b58 gc7) (one r1I) (o:=va0) λx=>qb5 (.s .p (.s .p (.s (.s .p (.b (.u Ma3.ls))) .p))) [Ma3.pr] (by kernel_rfl) (.cons Tb0 .nil) (by kernel_rfl)
noncomputable def Tb1:List (Nat×Sum):=[(59,Qa3),(58,Db8)]
theorem Kb9:n8 prog G Tb1:=⟨xb4,oc7,trivial⟩
noncomputable def ja1(x:V3)(y:V3):Option (a7×List c7):=let t1:=(Q0 x.x y.x);let t2:=(Q0 x.y y.y);let t3:=(Q0 x.z y.z);let t4:=(Ga7 [t1,t2,t3]);(sl (Q1 x.x y.x) (sl (Q1 x.y y.y) (sl (Q1 x.z y.z) (sl (Ga8 [t1,t2,t3]) (some (i t4,[])) none) none) none) none)
noncomputable def va1(x:V3)(y:V3):Int:=T8 (one r1I) (ja1 x y)
noncomputable def va2(x:V3)(y:V3):Bool:=okO (one r1I) (ja1 x y)
noncomputable def Ma4:Sum:=Oa1 (ta8 tV) (ta8 tV) (λx y=>.guard (va2 x y) (.ret ((one r1I).enc (va1 x y),[])))
theorem Tb2:g9 prog G 43 Ma4:=Sb0 (bd b43 Kb9) (one r1I) (o:=ja1) λx y=>F8 (by kernel_rfl)
end Go.Ev.Ce
namespace Go.Ev.L
open Go Go.Ev
theorem Kd0(n:Int):W n=(n+9223372036854775808) % 18446744073709551616-9223372036854775808:=IntKind.wrap_i64 n
theorem na2{n:Int}(h1:-9223372036854775808<=n)(h2:n<=9223372036854775807):W n=n:=by rw[Kd0];omega
theorem vd1(n:Int):∃k,W n=n+18446744073709551616*k:=⟨-((n+9223372036854775808) / 18446744073709551616),by rw[Kd0];omega⟩
theorem Lb0(n k:Int):W (n+18446744073709551616*k)=W n:=by rw[Kd0,Kd0];omega
theorem xb5(a b:Int):W (W a+b)=W (a+b):=by
 obtain⟨k,hk⟩:=vd1 a;rw[hk,show a+18446744073709551616*k+b=a+b+18446744073709551616*k by omega,Lb0]
theorem gc8(a b:Int):W (a+W b)=W (a+b):=by rw[Int.add_comm,xb5,Int.add_comm]
theorem Bc2(a b:Int):W (W a-b)=W (a-b):=by
 obtain⟨k,hk⟩:=vd1 a;rw[hk,show a+18446744073709551616*k-b=a-b+18446744073709551616*k by omega,Lb0]
theorem Vc6(a b:Int):W (a-W b)=W (a-b):=by
 obtain⟨k,hk⟩:=vd1 b;rw[hk,show a-(b+18446744073709551616*k)=a-b+18446744073709551616*(-k) by omega,Lb0]
theorem J0{j n:Nat}(h:j<n)(hn:n<=4611686018427387904):W ((j:Int)+1)=((j+1:Nat):Int):=by
 rw[na2 (by omega) (by omega)];omega
theorem gc9{j n:Nat}(h:j<n):decide ((j:Int)<(n:Int))=true:=decide_eq_true (by omega)
theorem Db9{j n:Nat}(h:¬ j<n):decide ((j:Int)<(n:Int))=false:=decide_eq_false (by omega)
theorem k8{j n:Nat}(h:j<n):inB (j:Int) n=true:=by
 show Nat.blt j n=true;rw[Nat.blt_eq];exact h
theorem Kd1(m:Int)(n:Nat):inB m n=decide (0<=m/\m<n):=by
 unfold inB;cases m with
 |ofNat k =>
  rw[Bool.eq_iff_iff,decide_eq_true_eq];show Nat.blt k n=true↔_;rw[Nat.blt_eq];constructor
  ·intro h;exact⟨Int.natCast_nonneg k,Int.ofNat_lt.2 h⟩
  ·intro h;exact Int.ofNat_lt.1 h.2
 |negSucc k=>exact (decide_eq_false (λh=>by omega)).symm
theorem bt{c:Bool}(h:c=true){α:Type}(t e:α):sl c t e=t:=by rw[h];rfl
theorem bf{c:Bool}(h:c=false){α:Type}(t e:α):sl c t e=e:=by rw[h];rfl
theorem Kd2{n:Nat}(h:n<=1000000000000):Nat.ble (n*32) room=true:=by
 rw[Nat.ble_eq];unfold room;omega
theorem vd2 {σ : Type} {step : σ → Stp σ} {I : Nat → σ → Prop} {Q : Nat → σ → Prop} (h : ∀ m s, I m s → (∃ t, step s = .exit t ∧ Q t s) ∨ ∃ s' m', m = m' + 1 ∧ step s = .next s' ∧ I m' s') :
  ∀(m n:Nat) (s:σ),m<=n->I m s->Q (lp0 step n s).1 (lp0 step n s).2
 |m,n,s,hn,hi=>by
  rcases h m s hi with⟨t,h1,h2⟩|⟨s',m',rfl,h1,h2⟩
  ·rw[Ic1 h1];exact h2
  ·cases n with
   |zero=>omega
   |succ n =>
    rw[Ic0 h1];exact vd2 h m' n s' (by omega) h2
theorem Lb1 {σ : Type} {step : σ → Stp σ} {I : Nat → σ → Prop} {Q : Nat → σ → Prop} (h : ∀ m s, I m s → (∃ t, step s = .exit t ∧ Q t s) ∨ ∃ s' m', m = m' + 1 ∧ step s = .next s' ∧ I m' s')
  (m:Nat) (s:σ) (hm:m<=18446744073709551615) (hi:I m s):Q (lp step s).1 (lp step s).2:=by
 rw[Qd7];exact vd2 h m rounds s (by unfold rounds;omega) hi
section
variable{σ τ α:Type}{step:σ->Stp σ}
theorem Kd3 {mk : Nat → τ → σ} {f : τ → α → τ} {fin : Nat} (t : Ty α) (l : List α) (I : Nat → τ → Prop) (hl : l.length ≤ 1000000000)
  (h:∀j a,j<l.length->I j a->step (mk j a)=.next (mk (j+1) (f a (gL t l j)))/\I (j+1) (f a (gL t l j)))
  (hf:∀a,I l.length a->step (mk l.length a)=.exit fin) (j0:Nat) (hj:j0<=l.length) (a:τ) (hi:I j0 a) :
  lp step (mk j0 a)=(fin,mk l.length ((l.drop j0).foldl f a))/\I l.length ((l.drop j0).foldl f a):=by
 have key:=Lb1 (step:=step) (I:=λm s=>∃j b,m=l.length-j/\j<=l.length/\s=mk j b/\I j b/\(l.drop j).foldl f b=(l.drop j0).foldl f a)
  (Q:=λu s=>u=fin/\s=mk l.length ((l.drop j0).foldl f a)/\I l.length ((l.drop j0).foldl f a)) (λm s ⟨j,b,hm,hj,hs,hb,he⟩=>by
   subst hs;by_cases hlt:j<l.length
   ·obtain⟨h1,h2⟩:=h j b hlt hb;refine .inr ⟨_,l.length-(j+1),by omega,h1,j+1,_,rfl,by omega,rfl,h2,?_⟩
    rw[<- he,Qhc hlt,List.foldl_cons];simp[gL,Qha,Qhb hlt]
   ·have:j=l.length:=by omega
    subst this;have he:b=(l.drop j0).foldl f a:=by rw[<- he];simp
    subst he;exact .inl ⟨fin,hf _ hb,rfl,rfl,hb⟩) (l.length-j0) (mk j0 a) (by omega) ⟨j0,a,rfl,hj,rfl,hi,rfl⟩
 exact⟨by rw[<- key.2.1,<- key.1],key.2.2⟩
theorem Xd0 {mk : Nat → σ} {c : α → Bool} {u fin : Nat} (t : Ty α) (l : List α) (hl : l.length ≤ 1000000000)
  (h:∀j,j<l.length->step (mk j)=sl (c (gL t l j)) (.exit u) (.next (mk (j+1)))) (hf:step (mk l.length)=.exit fin) (j0:Nat) (hj:j0<=l.length) :
  (lp step (mk j0)).1=if (l.drop j0).any c then u else fin :=
 Lb1 (step:=step) (I:=λm s=>∃j,m=l.length-j/\j<=l.length/\s=mk j/\(l.drop j).any c=(l.drop j0).any c)
  (Q:=λv _=>v=if (l.drop j0).any c then u else fin) (λm s ⟨j,hm,hj,hs,he⟩=>by
   subst hs;by_cases hlt:j<l.length
   ·have h1:=h j hlt;have e:gL t l j=l[j]:=by simp[gL,Qha,Qhb hlt]
    have e2:(l.drop j).any c=(c l[j]||(l.drop (j+1)).any c):=by rw[Qhc hlt,List.any_cons]
    rw[e] at h1;cases hc:c l[j] with
    |true =>
     rw[hc] at h1;refine .inl ⟨u,h1,?_⟩;rw[<- he,e2,hc];rfl
    |false =>
     rw[hc] at h1;refine .inr ⟨_,l.length-(j+1),by omega,h1,j+1,rfl,by omega,rfl,?_⟩
     rw[<- he,e2,hc];rfl
   ·have:j=l.length:=by omega
    subst this;refine .inl ⟨fin,hf,?_⟩;rw[<- he];simp) (l.length-j0) (mk j0) (by omega) ⟨j0,rfl,hj,rfl,rfl⟩
theorem Qa4 {mk : Nat → σ} {c : α → Bool} {u fin : Nat} (t : Ty α) (l : List α) (hl : l.length ≤ 1000000000)
  (h:∀j,j<l.length->step (mk j)=sl (c (gL t l j)) (.exit u) (.next (mk (j+1)))) (hf:step (mk l.length)=.exit fin) (j0:Nat) (hj:j0<=l.length) :
  lp step (mk j0)=if (l.drop j0).any c then (u,mk (j0+(l.drop j0).findIdx c)) else (fin,mk l.length):=by
 have key:=Lb1 (step:=step) (I:=λm s=>∃j,m=l.length-j/\j<=l.length/\j0<=j/\s=mk j/\(l.drop j).any c=(l.drop j0).any c/\j+(l.drop j).findIdx c=j0+(l.drop j0).findIdx c)
  (Q:=λv s=>(v,s)=if (l.drop j0).any c then (u,mk (j0+(l.drop j0).findIdx c)) else (fin,mk l.length)) (λm s ⟨j,hm,hj,hj0,hs,he,hi⟩=>by
   subst hs;by_cases hlt:j<l.length
   ·have h1:=h j hlt;have e:gL t l j=l[j]:=by simp[gL,Qha,Qhb hlt]
    have e2:(l.drop j).any c=(c l[j]||(l.drop (j+1)).any c):=by rw[Qhc hlt,List.any_cons]
    have e3:(l.drop j).findIdx c=if c l[j] then 0 else (l.drop (j+1)).findIdx c+1:=by rw[Qhc hlt,List.findIdx_cons];cases c l[j]<;>rfl
    rw[e] at h1;cases hc:c l[j] with
    |true =>
     rw[hc] at h1;refine .inl ⟨u,h1,?_⟩;rw[<- he,e2,hc,<- hi,e3,hc];rfl
    |false =>
     rw[hc] at h1;refine .inr ⟨_,l.length-(j+1),by omega,h1,j+1,rfl,by omega,by omega,rfl,?_,?_⟩
     ·rw[<- he,e2,hc];rfl
     ·rw[<- hi,e3,hc];simp only[Qhg,if_false];omega
   ·have:j=l.length:=by omega
    subst this;refine .inl ⟨fin,hf,?_⟩;rw[<- he];simp) (l.length-j0) (mk j0) (by omega) ⟨j0,rfl,hj,Qhe _,rfl,rfl,rfl⟩
 exact key
end
theorem bb2{α:Type}(t:Ty α){l:List α}{j:Nat}(h:j<l.length):gL t l j∈l:=by
 simp[gL,Qha,Qhb h]
theorem eb1{α:Type}(t:Ty α){l:List α}{j:Nat}(h:j<l.length):gL t l j=l[j]:=by
 simp[gL,Qha,Qhb h]
def euF:Nat->Int->Int->Int
 |0,g,_=>g
 |k+1,g,n=>if n=0 then g else euF k n (Int.tmod g n)
def eu(g n:Int):Int:=euF (n.natAbs+1) g n
theorem Ia3{g n:Int}(h:n≠0):(Int.tmod g n).natAbs<n.natAbs:=by
 rw[Int.natAbs_tmod];exact Nat.mod_lt _ (by omega)
theorem Lc7:∀(k m:Nat) {g n:Int},n.natAbs<k->n.natAbs<m->euF k g n=euF m g n
 |0,_,_,_,h,_=>by omega
 |_+1,0,_,_,_,h=>by omega
 |k+1,m+1,g,n,h1,h2=>by
  unfold euF;by_cases h:n=0
  ·rw[if_pos h,if_pos h]
  ·rw[if_neg h,if_neg h]
   have:=Ia3 (g:=g) h
   exact Lc7 k m (by omega) (by omega)
theorem Eb0(g:Int):eu g 0=g:=by simp[eu,euF]
theorem Bc3{g n:Int}(h:n≠0):eu g n=eu n (Int.tmod g n):=by
 have:=Ia3 (g:=g) h
 unfold eu
 conv=>lhs;unfold euF
 rw[if_neg h];exact Lc7 _ _ (by omega) (by omega)
theorem Xd1:∀(k:Nat) (g n:Int),n.natAbs<=k->(eu g n).natAbs=Int.gcd g n:=by
 intro k
 induction k with
 |zero =>
  intro g n h
  have:n=0:=by omega
  subst this;rw[Eb0];simp
 |succ k ih =>
  intro g n h;by_cases h0:n=0
  ·subst h0;rw[Eb0];simp
  ·have:=Ia3 (g:=g) h0
   rw[Bc3 h0,ih n (Int.tmod g n) (by omega)]
   unfold Int.gcd;rw[Int.natAbs_tmod,Nat.gcd_comm g.natAbs,Nat.gcd_comm n.natAbs,<- Nat.gcd_rec]
theorem Xd2(g n:Int):(eu g n).natAbs=Int.gcd g n:=Xd1 _ g n (Qhe _)
theorem ld2:∀(k:Nat) (g n:Int),n.natAbs<=k->0<=g->0<=n->0<=eu g n:=by
 intro k
 induction k with
 |zero =>
  intro g n h hg _
  have:n=0:=by omega
  subst this;rw[Eb0];exact hg
 |succ k ih =>
  intro g n h hg hn;by_cases h0:n=0
  ·subst h0;rw[Eb0];exact hg
  ·have:=Ia3 (g:=g) h0
   rw[Bc3 h0];exact ih n _ (by omega) hn (Int.tmod_nonneg _ hg)
theorem Xd3{g n:Int}(hg:0<=g)(hn:0<=n):eu g n=(Int.gcd g n:Int):=by
 have h1:=ld2 _ g n (Qhe _) hg hn;have h2:=Xd2 g n;omega
section
variable{σ:Type}{step:σ->Stp σ}{mk:Int->Int->σ}
theorem Qb2(h:∀g n,0<n->step (mk g n)=.next (mk n (Int.tmod g n)))(h0:∀g,step (mk g 0)=.exit 1)(g n:Int)(hg:0<=g)(h1:0<=n)(hn:n<=9223372036854775808):lp step (mk g n)=(1,mk (eu g n) 0):=by
 have:=Lb1 (step:=step) (I:=λm s=>∃a c,s=mk a c/\c.natAbs<=m/\0<=a/\0<=c/\eu a c=eu g n) (Q:=λu s=>(u,s)=(1,mk (eu g n) 0)) (λm s ⟨a,c,hs,hm,ha,hc0,he⟩=>by
  subst hs;by_cases hc:c=0
  ·subst hc;rw[Eb0] at he;subst he;exact .inl ⟨1,h0 _,rfl⟩
  ·have ht:=Ia3 (g:=a) hc;exact .inr ⟨_,m-1,by omega,h a c (by omega),c,_,rfl,by omega,hc0,Int.tmod_nonneg _ ha,by rw[<- he,Bc3 hc]⟩) n.natAbs (mk g n) (by omega) ⟨g,n,rfl,Qhe _,hg,h1,rfl⟩
 exact this
end
theorem mb{a c A C:Int}(h1:-A<=a)(h2:a<=A)(h3:-C<=c)(h4:c<=C):-(A*C)<=a*c/\a*c<=A*C:=by
 have hA:a.natAbs<=A.natAbs:=by omega
 have hC:c.natAbs<=C.natAbs:=by omega
 have h5:=Nat.mul_le_mul hA hC;rw[<- Int.natAbs_mul,<- Int.natAbs_mul] at h5;have h6:0<=A*C:=Int.mul_nonneg (by omega) (by omega)
 omega
end Go.Ev.L
namespace Go.Proofs
open Go.Shelf
set_option maxRecDepth 100000 in
def Ce.sortLayV_ren:Go.Shelf.Ren:=⟨fun | 6=>42 | 15=>53 | 14=>57 | 28=>70 | 29=>71 | 20=>73 | 21=>74 | 22=>75 | 23=>76 | 24=>77 | 25=>78 | 26=>79 | 27=>80 | 46=>87 | 47=>83 | 48=>84 | 49=>88 | 50=>89 | 57=>91 | n=>n,fun | 22=>24 | 24=>28 | 25=>26 | 3=>3 | 39=>83 | 0=>0 | 53=>101 | 55=>103 | 4=>4 | 46=>94 | 45=>93 | 50=>98 | 5=>5 | 9=>9 | 66=>110 | 70=>114 | 76=>118 | 77=>119 | n=>n,fun | n=>n⟩
set_option maxRecDepth 100000 in
theorem Ce.sortLayV:Go.Proofs.SlLaysF0.n6 Try.prog Ce.sortLayV_ren:={
 mixed:=by kernel_rfl
 f6:=⟨Try.f42.name,by decide,Try.func42.trans (congrArg some (by kernel_rfl))⟩
 f14:=⟨Try.f57.name,by decide,Try.func57.trans (congrArg some (by kernel_rfl))⟩
 f15:=Try.func53.trans (congrArg some (by kernel_rfl))
 f20:=⟨Try.f73.name,by decide,Try.func73.trans (congrArg some (by kernel_rfl))⟩
 f21:=⟨Try.f74.name,by decide,Try.func74.trans (congrArg some (by kernel_rfl))⟩
 f22:=⟨Try.f75.name,by decide,Try.func75.trans (congrArg some (by kernel_rfl))⟩
 f23:=⟨Try.f76.name,by decide,Try.func76.trans (congrArg some (by kernel_rfl))⟩
 f24:=⟨Try.f77.name,by decide,Try.func77.trans (congrArg some (by kernel_rfl))⟩
 f25:=⟨Try.f78.name,by decide,Try.func78.trans (congrArg some (by kernel_rfl))⟩
 f26:=⟨Try.f79.name,by decide,Try.func79.trans (congrArg some (by kernel_rfl))⟩
 f27:=⟨Try.f80.name,by decide,Try.func80.trans (congrArg some (by kernel_rfl))⟩
 f28:=Try.func70.trans (congrArg some (by kernel_rfl))
 f29:=Try.func71.trans (congrArg some (by kernel_rfl))
 f46:=⟨Try.f87.name,by decide,Try.func87.trans (congrArg some (by kernel_rfl))⟩
 f47:=Try.func83.trans (congrArg some (by kernel_rfl))
 f48:=Try.func84.trans (congrArg some (by kernel_rfl))
 f49:=⟨Try.f88.name,by decide,Try.func88.trans (congrArg some (by kernel_rfl))⟩
 f50:=⟨Try.f89.name,by decide,Try.func89.trans (congrArg some (by kernel_rfl))⟩
 f57:=⟨Try.f91.name,by decide,Try.func91.trans (congrArg some (by kernel_rfl))⟩
 t0:=Try.underlying0
 a0:=Try.isAgg0
 z0:=Try.sizeOf0
 v0:=Try.zeroValue0
 t3:=Try.underlying3
 a3:=Try.isAgg3
 z3:=Try.sizeOf3
 v3:=Try.zeroValue3
 t4:=Try.underlying4
 a4:=Try.isAgg4
 z4:=Try.sizeOf4
 v4:=Try.zeroValue4
 t5:=Try.underlying5
 a5:=Try.isAgg5
 z5:=Try.sizeOf5
 v5:=Try.zeroValue5
 t9:=Try.underlying9
 a9:=Try.isAgg9
 z9:=Try.sizeOf9
 v9:=Try.zeroValue9
 t22:=Try.underlying24
 a22:=Try.isAgg24
 z22:=Try.sizeOf24
 v22:=Try.zeroValue24
 t25:=Try.underlying26
 a25:=Try.isAgg26
 z25:=Try.sizeOf26
 v25:=Try.zeroValue26
 t39:=Try.underlying83
 a39:=Try.isAgg83
 z39:=Try.sizeOf83
 v39:=Try.zeroValue83
 t45:=Try.underlying93
 a45:=Try.isAgg93
 z45:=Try.sizeOf93
 v45:=Try.zeroValue93
 t46:=Try.underlying94
 a46:=Try.isAgg94
 z46:=Try.sizeOf94
 v46:=Try.zeroValue94
 t50:=Try.underlying98
 a50:=Try.isAgg98
 z50:=Try.sizeOf98
 v50:=Try.zeroValue98
 t53:=Try.underlying101
 a53:=Try.isAgg101
 z53:=Try.sizeOf101
 v53:=Try.zeroValue101
 t55:=Try.underlying103
 a55:=Try.isAgg103
 z55:=Try.sizeOf103
 v55:=Try.zeroValue103
 t66:=Try.underlying110
 a66:=Try.isAgg110
 z66:=Try.sizeOf110
 v66:=Try.zeroValue110
 t70:=Try.underlying114
 a70:=Try.isAgg114
 z70:=Try.sizeOf114
 v70:=Try.zeroValue114
 t76:=Try.underlying118
 a76:=Try.isAgg118
 z76:=Try.sizeOf118
 v76:=Try.zeroValue118
 t77:=Try.underlying119
 a77:=Try.isAgg119
 z77:=Try.sizeOf119
 v77:=Try.zeroValue119 }
end Go.Proofs
namespace Go.Ev.Ce
open Go Go.Ev Go.Ev.L Go.Proofs Go.Sort
theorem bd9(x y:Int):Y1 x y=some (i (Sa2 x y),[]):=by
 unfold Y1 qa0 Sa2;simp only[bne_self_eq_false,wb6,decide_eq_true_eq,Qhg,if_false]
 split<;>(try split)<;>rfl
theorem Xd4(x y:Int):Q0 x y=Sa2 x y:=by unfold Q0;rw[bd9];rfl
theorem Xd5(x y:Int):Q1 x y=true:=by unfold Q1;rw[bd9];rfl
def orI(a c d:Int):Int:=if a=0 then if c=0 then d else c else a
theorem Kd4(a c d:Int):((lp (R5 ⟨[a,c,d],3⟩) ⟨0⟩).1=1/\gL tI [a,c,d] (lp (R5 ⟨[a,c,d],3⟩) ⟨0⟩).2.is8.toNat=orI a c d)\/((lp (R5 ⟨[a,c,d],3⟩) ⟨0⟩).1=2/\orI a c d=0):=by
 have g0:gL tI [a,c,d] 0=a:=rfl;have g1:gL tI [a,c,d] 1=c:=rfl;have g2:gL tI [a,c,d] 2=d:=rfl;refine Lb1 (step:=R5 ⟨[a,c,d],3⟩) (I:=λm s=>(m=3/\s=⟨0⟩)\/(m=2/\s=⟨1⟩/\a=0)\/(m=1/\s=⟨2⟩/\a=0/\c=0)\/(m=0/\s=⟨3⟩/\a=0/\c=0/\d=0))
  (Q:=λt s=>(t=1/\gL tI [a,c,d] s.is8.toNat=orI a c d)\/(t=2/\orI a c d=0)) (λm s hi=>?_) 3 ⟨0⟩ (by omega) (.inl ⟨rfl,rfl⟩)
 rcases hi with⟨rfl,rfl⟩|⟨rfl,rfl,ha⟩|⟨rfl,rfl,ha,hc⟩|⟨rfl,rfl,ha,hc,hd⟩
 ·by_cases h:a=0
  ·exact .inr ⟨⟨1⟩,2,rfl,by subst h;rfl,.inr (.inl ⟨rfl,rfl,h⟩)⟩
  ·refine .inl ⟨1,?_,.inl ⟨rfl,by unfold orI;rw[if_neg h];rfl⟩⟩
   show sl (a != 0) (Stp.exit 1) (Stp.next (⟨W (0+1)⟩:G3))=_;rw[bt (by simpa using h)]
 ·by_cases h:c=0
  ·exact .inr ⟨⟨2⟩,1,rfl,by subst h;rfl,.inr (.inr (.inl ⟨rfl,rfl,ha,h⟩))⟩
  ·refine .inl ⟨1,?_,.inl ⟨rfl,by unfold orI;rw[if_pos ha,if_neg h];rfl⟩⟩
   show sl (c != 0) (Stp.exit 1) (Stp.next (⟨W (1+1)⟩:G3))=_;rw[bt (by simpa using h)]
 ·by_cases h:d=0
  ·exact .inr ⟨⟨3⟩,0,rfl,by subst h;rfl,.inr (.inr (.inr ⟨rfl,rfl,ha,hc,h⟩))⟩
  ·refine .inl ⟨1,?_,.inl ⟨rfl,by unfold orI;rw[if_pos ha,if_pos hc];rfl⟩⟩
   show sl (d != 0) (Stp.exit 1) (Stp.next (⟨W (2+1)⟩:G3))=_;rw[bt (by simpa using h)]
 ·exact .inl ⟨2,rfl,.inr ⟨rfl,by unfold orI;rw[if_pos ha,if_pos hc];exact hd⟩⟩
theorem Rd5(a c d:Int):va0 [a,c,d]=some (i (orI a c d),[]):=by
 have h:=Kd4 a c d;unfold va0;simp only[s8,p8];rw[show ((([a,c,d]:List Int).length:Nat):Int)=3 from rfl]
 generalize lp (R5 ⟨[a,c,d],3⟩) ⟨0⟩=r at *
 rcases h with⟨h1,h2⟩|⟨h1,h2⟩
 ·rw[h1,h2];rfl
 ·rw[h1,h2];rfl
theorem ne4(a c d:Int):Ga7 [a,c,d]=orI a c d:=by unfold Ga7;rw[Rd5];rfl
theorem ne5(a c d:Int):Ga8 [a,c,d]=true:=by unfold Ga8;rw[Rd5];rfl
def Ta3(x y:V3):Int:=orI (Sa2 x.x y.x) (Sa2 x.y y.y) (Sa2 x.z y.z)
def LtV(x y:V3):Prop:=x.x<y.x\/x.x=y.x/\(x.y<y.y\/x.y=y.y/\x.z<y.z)
instance(x y:V3):Decidable (LtV x y):=by unfold LtV;exact inferInstance
theorem Kd5(x y:V3):Ta3 x y<0↔LtV x y:=by
 have h1:=ab7 x.x y.x;have h2:=Db0 x.x y.x;have h3:=ab7 x.y y.y;have h4:=Db0 x.y y.y;have h5:=ab7 x.z y.z;unfold Ta3 orI LtV;split
 ·split<;>omega
 ·omega
theorem sa2(x y:V3):ltOf Ta3 x y=decide (LtV x y):=by
 unfold ltOf;rw[decide_eq_decide];exact Kd5 x y
theorem ge2:SWO (ltOf Ta3) where
 irrefl x:=by rw[sa2];simp[LtV]
 trans x y z h1 h2:=by rw[sa2,decide_eq_true_eq] at *;unfold LtV at *;omega
 ntrans x y z h1 h2:=by rw[sa2,decide_eq_false_iff_not] at *;unfold LtV at *;omega
theorem ne6(x y:V3)(h1:ltOf Ta3 x y=false)(h2:ltOf Ta3 y x=false):x=y:=by
 rw[sa2,decide_eq_false_iff_not] at *
 unfold LtV at *
 obtain⟨a,b,c⟩:=x;obtain⟨a',b',c'⟩:=y
 simp only at *
 have:a=a'/\b=b'/\c=c':=by omega
 obtain⟨rfl,rfl,rfl⟩:=this;rfl
theorem Qb3(x y:V3):ja1 x y=some (i (Ta3 x y),[]):=by
 unfold ja1 Ta3;simp only[Xd4,Xd5,ne4,ne5,J1]
theorem Xd6(x y:V3):va1 x y=Ta3 x y:=by unfold va1;rw[Qb3];rfl
theorem Xd7(x y:V3):va2 x y=true:=by unfold va2;rw[Qb3];rfl
theorem Xd8(x y:V3):(Ma4 [.agg (tV.row x),.agg (tV.row y)] []).run=some (i (Ta3 x y),[]):=by
 have:(Ma4 [.agg (tV.row x),.agg (tV.row y)] []).run=sel (va2 x y) (some (i (va1 x y),[])) none:=by kernel_rfl
 rw[this,Xd7,Xd6]
def vd3(p:V3):List Value:=[.int .i64 p.x,.int .i64 p.y,.int .i64 p.z]
instance:Inhabited V3:=⟨⟨0,0,0⟩⟩
def eb2(l:List V3):List V3:=l.mergeSort λx y=>!ltOf Ta3 y x
theorem uc3(l:List V3):(eb2 l).length=l.length:=Qhf l
noncomputable def ga8:Sum:=ad9 tV 43 28 eb2
theorem ld3:Ce.sortLayV_ren.f 6=42:=by kernel_rfl
theorem hc3:Ce.sortLayV_ren.t 24=28:=by kernel_rfl
set_option maxRecDepth 100000 in
theorem va3:g9 prog G 42 ga8:=by
 refine bd0 (enc:=vd3) (cf:=Ta3) ⟨_,Try.func42,by kernel_rfl,of_decide_eq_true (by kernel_rfl)⟩ (by decide) (λ_=>rfl) (λr h=>Ia4 (n:=3) h) (λx v hv=>?_) uc3
  (λblk off size w=>ad8 Tb2 Xd8 (λ_=>rfl) (λ_=>rfl) _ _ _ _ _) (λblk cap d w hcl hH hb hs=>?_)
 ·simp[vd3] at hv
  rcases hv with rfl|rfl|rfl<;>rfl
 ·have eg:∀args w,(callFunc 43 args).run Try.prog w=.ok (.enter 43 args) w:=enters_of Try.func43 (by kernel_rfl) rfl
  have:=AnyQ.slices_SortFunc Ce.sortLayV 3 (by rw[hc3];exact Try.isAgg28) (by rw[hc3];exact Try.sizeOf28) vd3 (λ_=>rfl) (λx v hv=>by simp[vd3] at hv;rcases hv with rfl | rfl | rfl<;>rfl) Ta3 ge2 43 #[] blk 0 cap d w eg (hcl 0 d.size) hH hb hs
  rw[ld3] at this;refine this.mono λe w' ⟨h1,d',n,os,h2,h3,h4⟩=>⟨h1,n,os,?_⟩
  have h5:=sorted_unique_holds ge2 ne6 d d' h2 h3;rw[h4];show _=sortWorldK vd3 3 w blk 0 n (d.toList.mergeSort λx y=>!ltOf Ta3 y x).toArray os
  rw[<- h5]
end Go.Ev.Ce
namespace Go.Ev.Ce
open Go Go.Ev Go.Ev.L Go.Proofs
set_option maxRecDepth 100000
noncomputable def qb7:List (Nat×Sum):=[]
theorem kb5:n8 prog G qb7:=trivial
structure da2 where
 (alt ns0:Nat)
 eh0:List (List a7)
noncomputable def M4{α:Type}(kk:da2->α)(x:V3×List V3):α:=(sl (Nat.beq 0 0&&Nat.ble ((0+(len (o9 (λk=>(tV).row (gL tV (x.1::x.2) k)) (List.range (List.length x.2+1)))))*24) room) (kk ⟨1,(0+(len (o9 (λk=>(tV).row (gL tV (x.1::x.2) k)) (List.range (List.length x.2+1))))),(app [] (o9 (λk=>(tV).row (gL tV (x.1::x.2) k)) (List.range (List.length x.2+1))))⟩) (kk ⟨0,0,[]⟩))
noncomputable def V0(x:V3×List V3):da2:=M4 (λr=>r) x
noncomputable def na3(r:da2):DT (a7×List c7):=(.ite (Nat.beq r.alt 1) (.ret (.sl 0 0 r.ns0 0,[⟨28,3,r.eh0,true,false,0⟩])) .fail)
theorem xb6{α β:Type}(F:α->β)(kk:da2->α)(x:V3×List V3):F (M4 kk x)=M4 (λr=>F (kk r)) x:=by unfold M4;(repeat' apply w8 (f:=F))<;>rfl
noncomputable def ra3:Sum:=O8 (Ic5 tV) (λx=>na3 (V0 x))
theorem Fa0:g9 prog G 41 ra3:=ob0 (bd b41 kb5) λx=>F8 (Qhd (b:=M4 (λr=>(na3 r).run) x) (by kernel_rfl) (xb6 (λr=>(na3 r).run) (λr=>r) x).symm)
structure Y2 where
 ns0:Nat
 eh0:List (List a7)
noncomputable def ga9:List (Nat×Sum):=[]
theorem bb3:n8 prog G ga9:=trivial
structure y9 where
 (ns0 os4 ns4:Nat)
structure n7 where
 (is3 is5:Int)
 eh0:List (List a7)
noncomputable def sa3(p:y9)(s:n7):St:=⟨.sl 0 0 p.ns0 0::.unk::.unk::i s.is3::.sl 0 p.os4 p.ns4 0::i s.is5::ra 55 [],[⟨28,3,s.eh0,true,false,0⟩]⟩
noncomputable def G4{α:Type}(k:n7->α)(e:Nat->α)(z:α)(p:y9)(s:n7):α:=(sl (decide (s.is5<(↑p.ns4:Int))) (sl (inB s.is5 p.ns4) (sl (ldR tV s.eh0 (p.os4+s.is5.toNat)) (sl (inB (W (s.is5-1)) p.ns4) (sl (ldR tV s.eh0 (p.os4+(W (s.is5-1)).toNat)) (sl (!(((rdR tV s.eh0 (p.os4+s.is5.toNat)).x==(rdR tV s.eh0 (p.os4+(W (s.is5-1)).toNat)).x)&&(((rdR tV s.eh0 (p.os4+s.is5.toNat)).y==(rdR tV s.eh0 (p.os4+(W (s.is5-1)).toNat)).y)&&(((rdR tV s.eh0 (p.os4+s.is5.toNat)).z==(rdR tV s.eh0 (p.os4+(W (s.is5-1)).toNat)).z)&&true)))) (sl (inB s.is5 p.ns4) (sl (ldR tV s.eh0 (p.os4+s.is5.toNat)) (sl (inB s.is3 p.ns0) (sl ((Nat.blt (0+s.is3.toNat) (len s.eh0))&&(Nat.ble (0+3) (len (l9 s.eh0 (0+s.is3.toNat))))) (k ⟨W (s.is3+1),W (s.is5+1),setAt s.eh0 (0+s.is3.toNat) (aa6 (l9 s.eh0 (0+s.is3.toNat)) 0 [i (rdR tV s.eh0 (p.os4+s.is5.toNat)).x,i (rdR tV s.eh0 (p.os4+s.is5.toNat)).y,i (rdR tV s.eh0 (p.os4+s.is5.toNat)).z])⟩) z) z) z) z) (k ⟨s.is3,W (s.is5+1),s.eh0⟩)) z) z) z) z) (e 1))
noncomputable def o2(p:y9)(s:n7):Stp n7:=G4 .next .exit .fail p s
noncomputable def da3:Lo y9 n7:=⟨En ga9,1,Wd8,[1,1,0,1,4,4,1,0,4,1,2,1,0,1,4,4],[0,3,4,5],.p,[⟨.s (.o (.sl 0 0 (some 0) none))::sUq::sUq::sIq::.s (.o (.sl 0 0 none none))::sIq::ru2 55 [],[⟨28,3,true,none⟩],λa H=>(⟨slN (slT a 0),slO (slT a 4),slN (slT a 4)⟩,⟨aIq a 3,aIq a 5,elT H 0⟩)⟩],o2,[(some 2,λp s=>upq (sa3 p s) [(29,i s.is5),(30,.sl 0 p.os4 p.ns4 0),(31,i (↑p.ns4:Int)),(32,b (decide (s.is5<(↑p.ns4:Int))))])],sa3⟩
theorem Wa7:da3.Ok:=Lo.ok [] (by kernel_rfl) .nil rfl (.cons (λa H=>by kernel_rfl) .nil) λp s=>(.of @G4 (λF _ _ _ _ _=>by unfold G4;(repeat' apply w8 (f:=F))<;>rfl) (by kernel_rfl))
structure K2 where
 ns0:Nat
 eh0:List (List a7)
structure o8 where
 is3:Int
noncomputable def sa4(p:K2)(s:o8):St:=⟨.sl 0 0 p.ns0 0::.unk::.unk::i s.is3::ra 57 [],[⟨28,3,p.eh0,true,false,0⟩]⟩
noncomputable def G5{α:Type}(k:o8->α)(e:Nat->α)(z:α)(p:K2)(s:o8):α:=let t1:=(lp (o2 (⟨p.ns0,0+s.is3.toNat,p.ns0-s.is3.toNat⟩:y9)) (⟨s.is3,1,p.eh0⟩:n7));(sl (decide (s.is3<(↑p.ns0:Int))) (sl (inB s.is3 p.ns0) (sl (ldR tV p.eh0 (0+s.is3.toNat)) (sl (inB (W (s.is3-1)) p.ns0) (sl (ldR tV p.eh0 (0+(W (s.is3-1)).toNat)) (sl (((rdR tV p.eh0 (0+s.is3.toNat)).x==(rdR tV p.eh0 (0+(W (s.is3-1)).toNat)).x)&&(((rdR tV p.eh0 (0+s.is3.toNat)).y==(rdR tV p.eh0 (0+(W (s.is3-1)).toNat)).y)&&(((rdR tV p.eh0 (0+s.is3.toNat)).z==(rdR tV p.eh0 (0+(W (s.is3-1)).toNat)).z)&&true))) (sl (inB s.is3 (p.ns0+1)) (sl (Nat.beq t1.1 1) (sl (inB t1.2.is3 (p.ns0+1)) (sl (inB t1.2.is3 (p.ns0+1)) (e 1) z) z) z) z) (k ⟨W (s.is3+1)⟩)) z) z) z) z) (e 2))
noncomputable def I5(p:K2)(s:o8):Stp o8:=G5 .next .exit .fail p s
noncomputable def da4:Lo K2 o8:=⟨En ga9,1,Wd8,[1,1,0,1,4,4],[0,3],.s .p (.s (.b (.s .p (.c (.s .p (.s (.s .p (.b (.u da3.ls))) .p)) .p))) .p),[⟨.s (.o (.sl 0 0 (some 0) none))::sUq::sUq::sIq::ru2 57 [],[⟨28,3,true,none⟩],λa H=>(⟨slN (slT a 0),elT H 0⟩,⟨aIq a 3⟩)⟩],I5,[(none,λp s=>let t1:=(lp (o2 (⟨p.ns0,0+s.is3.toNat,p.ns0-s.is3.toNat⟩:y9)) (⟨s.is3,1,p.eh0⟩:n7));⟨[.sl 0 0 (t1.2.is3.toNat-0) 0],[⟨28,3,app (D2 t1.2.eh0 (0+t1.2.is3.toNat)) (app (List.replicate (p.ns0-t1.2.is3.toNat) [i 0,i 0,i 0]) (i7 t1.2.eh0 ((0+t1.2.is3.toNat)+(p.ns0-t1.2.is3.toNat)))),true,false,0⟩]⟩),(some 0,λp s=>upq (sa4 p s) [(10,i s.is3),(11,.sl 0 0 p.ns0 0),(12,i (↑p.ns0:Int)),(13,b (decide (s.is3<(↑p.ns0:Int))))])],sa4⟩
theorem Wa8:da4.Ok:=Lo.ok [da3.pr] (by kernel_rfl) (.cons Wa7 .nil) rfl (.cons (λa H=>by kernel_rfl) .nil) λp s=>(.of @G5 (λF _ _ _ _ _=>by unfold G5;(repeat' apply w8 (f:=F))<;>rfl) (by kernel_rfl))
structure Y3 where
 (alt ns0:Nat)
 eh0:List (List a7)
noncomputable def I6{α:Type}(kk:Y3->α)(x:Y2):α:=let t1:=(lp (I5 (⟨x.ns0,x.eh0⟩:K2)) (⟨1⟩:o8));let t2:=(lp (o2 (⟨x.ns0,0+t1.2.is3.toNat,x.ns0-t1.2.is3.toNat⟩:y9)) (⟨t1.2.is3,1,x.eh0⟩:n7));(sl (decide ((↑x.ns0:Int)<2)) (kk ⟨1,x.ns0,x.eh0⟩) (sl (Nat.beq t1.1 1) (kk ⟨1,t2.2.is3.toNat-0,app (D2 t2.2.eh0 (0+t2.2.is3.toNat)) (app (List.replicate (x.ns0-t2.2.is3.toNat) [i 0,i 0,i 0]) (i7 t2.2.eh0 ((0+t2.2.is3.toNat)+(x.ns0-t2.2.is3.toNat))))⟩) (sl (Nat.beq t1.1 2) (kk ⟨1,x.ns0,x.eh0⟩) (kk ⟨0,0,[]⟩))))
noncomputable def I7(x:Y2):Y3:=I6 (λr=>r) x
noncomputable def ha0(x:Y2)(r:Y3):DT (a7×List c7):=(.ite (Nat.beq r.alt 1) (.ret (.sl 0 0 r.ns0 0,[⟨28,3,r.eh0,true,false,0⟩])) .fail)
theorem kb6{α β:Type}(F:α->β)(kk:Y3->α)(x:Y2):F (I6 kk x)=I6 (λr=>F (kk r)) x:=by unfold I6;(repeat' apply w8 (f:=F))<;>rfl
noncomputable def ja2:Sum:=Va3 ⟨[.s (.o (.sl 0 0 (some 0) none))],[⟨28,3,true,none⟩],λa H=>(⟨slN (slT a 0),elT H 0⟩,())⟩ (λx=>ha0 x (I7 x))
theorem xa1:g9 prog G 44 ja2:=S4 (enc:=λx=>⟨[.sl 0 0 x.ns0 0],[⟨28,3,x.eh0,true,false,0⟩]⟩) (λa H=>by kernel_rfl) (bd b44 bb3) λx=>qb5 (.s .p (.s .p (.s (.s .p (.b (.u da4.ls))) .p))) [da4.pr] (by kernel_rfl) (.cons Wa8 .nil) (Qhd (b:=I6 (λr=>(ha0 x r).run) x) (by kernel_rfl) (kb6 (λr=>(ha0 x r).run) (λr=>r) x).symm)
noncomputable def Lb2:List (Nat×Sum):=[(41,ra3),(42,ga8),(44,ja2)]
theorem Eb1:n8 prog G Lb2:=⟨Fa0,va3,xa1,trivial⟩
noncomputable def ea8(x:V3×List V3):Option (a7×List c7):=let t1:=(V0 (hC tV (λk=>(tV).row (gL tV (x.1::x.2) k)),tC tV (List.length x.2) (λk=>(tV).row (gL tV (x.1::x.2) k))));let t2:=(I7 ⟨t1.ns0,app (bL tV (eb2 (slR tV t1.eh0 0 t1.ns0))) (i7 t1.eh0 t1.ns0)⟩);(sl (okL tV (List.length x.2+1) (λk=>(tV).row (gL tV (x.1::x.2) k))) (sl (Nat.beq t1.alt 1) (sl (Bool.and (Nat.ble t1.ns0 room) (Bool.and (Nat.ble t1.ns0 (len t1.eh0)) (okS tV t1.eh0 0 t1.ns0))) (sl (Nat.beq t2.alt 1) (some (.sl 0 0 t2.ns0 0,[⟨28,3,t2.eh0,true,false,0⟩])) none) none) none) none)
noncomputable def Da6(x:V3×List V3):List V3:=T8 (one (r1L tV)) (ea8 x)
noncomputable def Da7(x:V3×List V3):Bool:=okO (one (r1L tV)) (ea8 x)
noncomputable def eb3:Sum:=O8 (Ic5 tV) (λx=>.guard (Da7 x) (.ret ((one (r1L tV)).enc (Da6 x),[])))
theorem Lb3:g9 prog G 28 eb3:=Sa0 (bd b28 Eb1) (one (r1L tV)) (o:=ea8) λx=>F8 (by kernel_rfl)
noncomputable def Aa4:List (Nat×Sum):=[(29,Ga6),(28,eb3),(49,Da2),(50,Db3),(31,sb4),(32,ra8),(30,ba8)]
theorem hc5:n8 prog G Aa4:=⟨Ta2,Lb3,Wa3,oc0,gc5,Sa4,ea4,trivial⟩
structure K3 where
 (is3 is4 is9 w7 Ua6 E7 Wb8:Int)
 (c8 d9:List V3)
structure u9 where
 ph:Nat
 y7:Int
 eh4:List (List a7)
 w9:Nat
 eh5:List (List a7)
noncomputable def Wa9(p:K3)(s:u9):St:=⟨.unk::.ptr 0 0 0 0::.unk::i p.is3::i p.is4::ra 4 (i p.is9::i p.w7::ra 5 (i p.Ua6::i p.E7::ra 5 (i p.Wb8::i s.y7::ra 35 (i 0::.unk::.ptr 1 0 0 0::.v (.slice none 0 0)::i 0::.unk::.ptr 2 0 0 0::.ptr 3 0 0 0::ra 28 [])))),[⟨0,1,[[eL tV p.c8]],true,false,0⟩,⟨0,1,[[eL tV p.d9]],true,false,0⟩,⟨0,0,[[.ptr 4 0 0 0]],true,false,0⟩,⟨0,0,[[.v (.slice none 0 0)]],true,false,0⟩,⟨64,0,s.eh4,true,false,0⟩]⟩
noncomputable def Xa0(p:K3)(s:u9):St:=⟨.unk::.ptr 0 0 0 0::.unk::i p.is3::i p.is4::ra 4 (i p.is9::i p.w7::ra 5 (i p.Ua6::i p.E7::ra 5 (i p.Wb8::i s.y7::ra 35 (i 0::.unk::.ptr 1 0 0 0::.v (.slice none 0 0)::i 0::.unk::.ptr 2 0 0 0::.ptr 3 0 0 0::ra 28 [])))),[⟨0,1,[[eL tV p.c8]],true,false,0⟩,⟨0,1,[[eL tV p.d9]],true,false,0⟩,⟨0,0,[[.ptr 4 0 0 0]],true,false,0⟩,⟨0,0,[[.sl 5 0 s.w9 0]],true,false,0⟩,⟨64,0,s.eh4,true,false,0⟩,⟨50,4,s.eh5,true,false,0⟩]⟩
noncomputable def Tb3(p:K3)(s:u9):St:=(sel (Nat.beq s.ph 1) (Xa0 p s) (Wa9 p s))
noncomputable def M5{α:Type}(k:u9->α)(e:Nat->α)(z:α)(p:K3)(s:u9):α:=let t1:=(C9 (gL tV p.c8 s.y7.toNat) (gL tV p.c8 p.is4.toNat) (gL tV p.c8 p.is3.toNat));let t2:=(la5 t1.1);let t3:=(T6 (rt tV p.d9) t2);let t4:=(T6 (rt tV p.d9) t1.1);(sl (decide (s.y7<p.Wb8)) (sl (inB s.y7 (List.length p.c8)) (sl (inB p.is4 (List.length p.c8)) (sl (inB p.is3 (List.length p.c8)) (sl (X4 (gL tV p.c8 s.y7.toNat) (gL tV p.c8 p.is4.toNat) (gL tV p.c8 p.is3.toNat)) (sl t1.2 (sl t1.2 (sl (Ia9 4 [(0,.int .i64),(1,.int .i64),(2,.int .i64),(3,.int .i64)] [i t1.1.n.x,i t1.1.n.y,i t1.1.n.z,i t1.1.b] s.eh4) (sl (Ia9 4 [(0,.int .i64),(1,.int .i64),(2,.int .i64),(3,.int .i64)] [i t2.n.x,i t2.n.y,i t2.n.z,i t2.b] s.eh4) (k ⟨0,W (s.y7+1),s.eh4,0,[]⟩) (sl (okE tV p.d9) (sl (D1 (rt tV p.d9) t2) (sl (!t3) (k ⟨1,W (s.y7+1),U6 [(0,.int .i64),(1,.int .i64),(2,.int .i64),(3,.int .i64)] [i t2.n.x,i t2.n.y,i t2.n.z,i t2.b] [i t2.n.x,i t2.n.y,i t2.n.z,i t2.b,b true] s.eh4,1,[[i t2.n.x,i t2.n.y,i t2.n.z,i t2.b]]⟩) (k ⟨0,W (s.y7+1),U6 [(0,.int .i64),(1,.int .i64),(2,.int .i64),(3,.int .i64)] [i t2.n.x,i t2.n.y,i t2.n.z,i t2.b] [i t2.n.x,i t2.n.y,i t2.n.z,i t2.b,b true] s.eh4,0,[]⟩)) z) z)) (sl (okE tV p.d9) (sl (D1 (rt tV p.d9) t1.1) (sl (!t4) (sl (Ia9 4 [(0,.int .i64),(1,.int .i64),(2,.int .i64),(3,.int .i64)] [i t2.n.x,i t2.n.y,i t2.n.z,i t2.b] (U6 [(0,.int .i64),(1,.int .i64),(2,.int .i64),(3,.int .i64)] [i t1.1.n.x,i t1.1.n.y,i t1.1.n.z,i t1.1.b] [i t1.1.n.x,i t1.1.n.y,i t1.1.n.z,i t1.1.b,b true] s.eh4)) (k ⟨1,W (s.y7+1),U6 [(0,.int .i64),(1,.int .i64),(2,.int .i64),(3,.int .i64)] [i t1.1.n.x,i t1.1.n.y,i t1.1.n.z,i t1.1.b] [i t1.1.n.x,i t1.1.n.y,i t1.1.n.z,i t1.1.b,b true] s.eh4,1,[[i t1.1.n.x,i t1.1.n.y,i t1.1.n.z,i t1.1.b]]⟩) (sl (okE tV p.d9) (sl (D1 (rt tV p.d9) t2) (sl (!t3) (k ⟨1,W (s.y7+1),U6 [(0,.int .i64),(1,.int .i64),(2,.int .i64),(3,.int .i64)] [i t2.n.x,i t2.n.y,i t2.n.z,i t2.b] [i t2.n.x,i t2.n.y,i t2.n.z,i t2.b,b true] (U6 [(0,.int .i64),(1,.int .i64),(2,.int .i64),(3,.int .i64)] [i t1.1.n.x,i t1.1.n.y,i t1.1.n.z,i t1.1.b] [i t1.1.n.x,i t1.1.n.y,i t1.1.n.z,i t1.1.b,b true] s.eh4),2,[[i t1.1.n.x,i t1.1.n.y,i t1.1.n.z,i t1.1.b],[i t2.n.x,i t2.n.y,i t2.n.z,i t2.b]]⟩) (k ⟨1,W (s.y7+1),U6 [(0,.int .i64),(1,.int .i64),(2,.int .i64),(3,.int .i64)] [i t2.n.x,i t2.n.y,i t2.n.z,i t2.b] [i t2.n.x,i t2.n.y,i t2.n.z,i t2.b,b true] (U6 [(0,.int .i64),(1,.int .i64),(2,.int .i64),(3,.int .i64)] [i t1.1.n.x,i t1.1.n.y,i t1.1.n.z,i t1.1.b] [i t1.1.n.x,i t1.1.n.y,i t1.1.n.z,i t1.1.b,b true] s.eh4),1,[[i t1.1.n.x,i t1.1.n.y,i t1.1.n.z,i t1.1.b]]⟩)) z) z)) (sl (Ia9 4 [(0,.int .i64),(1,.int .i64),(2,.int .i64),(3,.int .i64)] [i t2.n.x,i t2.n.y,i t2.n.z,i t2.b] (U6 [(0,.int .i64),(1,.int .i64),(2,.int .i64),(3,.int .i64)] [i t1.1.n.x,i t1.1.n.y,i t1.1.n.z,i t1.1.b] [i t1.1.n.x,i t1.1.n.y,i t1.1.n.z,i t1.1.b,b true] s.eh4)) (k ⟨0,W (s.y7+1),U6 [(0,.int .i64),(1,.int .i64),(2,.int .i64),(3,.int .i64)] [i t1.1.n.x,i t1.1.n.y,i t1.1.n.z,i t1.1.b] [i t1.1.n.x,i t1.1.n.y,i t1.1.n.z,i t1.1.b,b true] s.eh4,0,[]⟩) (sl (okE tV p.d9) (sl (D1 (rt tV p.d9) t2) (sl (!t3) (k ⟨1,W (s.y7+1),U6 [(0,.int .i64),(1,.int .i64),(2,.int .i64),(3,.int .i64)] [i t2.n.x,i t2.n.y,i t2.n.z,i t2.b] [i t2.n.x,i t2.n.y,i t2.n.z,i t2.b,b true] (U6 [(0,.int .i64),(1,.int .i64),(2,.int .i64),(3,.int .i64)] [i t1.1.n.x,i t1.1.n.y,i t1.1.n.z,i t1.1.b] [i t1.1.n.x,i t1.1.n.y,i t1.1.n.z,i t1.1.b,b true] s.eh4),1,[[i t2.n.x,i t2.n.y,i t2.n.z,i t2.b]]⟩) (k ⟨0,W (s.y7+1),U6 [(0,.int .i64),(1,.int .i64),(2,.int .i64),(3,.int .i64)] [i t2.n.x,i t2.n.y,i t2.n.z,i t2.b] [i t2.n.x,i t2.n.y,i t2.n.z,i t2.b,b true] (U6 [(0,.int .i64),(1,.int .i64),(2,.int .i64),(3,.int .i64)] [i t1.1.n.x,i t1.1.n.y,i t1.1.n.z,i t1.1.b] [i t1.1.n.x,i t1.1.n.y,i t1.1.n.z,i t1.1.b,b true] s.eh4),0,[]⟩)) z) z))) z) z)) (k ⟨0,W (s.y7+1),s.eh4,0,[]⟩)) (sl t1.2 z (k ⟨0,W (s.y7+1),s.eh4,0,[]⟩))) z) z) z) z) (e 1))
noncomputable def M6{α:Type}(k:u9->α)(e:Nat->α)(z:α)(p:K3)(s:u9):α:=let t1:=(C9 (gL tV p.c8 s.y7.toNat) (gL tV p.c8 p.is4.toNat) (gL tV p.c8 p.is3.toNat));let t2:=(la5 t1.1);let t3:=(T6 (rt tV p.d9) t2);let t4:=(T6 (rt tV p.d9) t1.1);let a0:=(Nat.beq s.w9 (len s.eh5)&&Nat.ble ((s.w9+1)*32) room);(sl (decide (s.y7<p.Wb8)) (sl (inB s.y7 (List.length p.c8)) (sl (inB p.is4 (List.length p.c8)) (sl (inB p.is3 (List.length p.c8)) (sl (X4 (gL tV p.c8 s.y7.toNat) (gL tV p.c8 p.is4.toNat) (gL tV p.c8 p.is3.toNat)) (sl t1.2 (sl t1.2 (sl (Ia9 4 [(0,.int .i64),(1,.int .i64),(2,.int .i64),(3,.int .i64)] [i t1.1.n.x,i t1.1.n.y,i t1.1.n.z,i t1.1.b] s.eh4) (sl (Ia9 4 [(0,.int .i64),(1,.int .i64),(2,.int .i64),(3,.int .i64)] [i t2.n.x,i t2.n.y,i t2.n.z,i t2.b] s.eh4) (k ⟨1,W (s.y7+1),s.eh4,s.w9,s.eh5⟩) (sl (okE tV p.d9) (sl (D1 (rt tV p.d9) t2) (sl (!t3) (sl a0 (k ⟨1,W (s.y7+1),U6 [(0,.int .i64),(1,.int .i64),(2,.int .i64),(3,.int .i64)] [i t2.n.x,i t2.n.y,i t2.n.z,i t2.b] [i t2.n.x,i t2.n.y,i t2.n.z,i t2.b,b true] s.eh4,s.w9+1,app s.eh5 [[i t2.n.x,i t2.n.y,i t2.n.z,i t2.b]]⟩) z) (k ⟨1,W (s.y7+1),U6 [(0,.int .i64),(1,.int .i64),(2,.int .i64),(3,.int .i64)] [i t2.n.x,i t2.n.y,i t2.n.z,i t2.b] [i t2.n.x,i t2.n.y,i t2.n.z,i t2.b,b true] s.eh4,s.w9,s.eh5⟩)) z) z)) (sl (okE tV p.d9) (sl (D1 (rt tV p.d9) t1.1) (sl (!t4) (sl a0 (sl (Ia9 4 [(0,.int .i64),(1,.int .i64),(2,.int .i64),(3,.int .i64)] [i t2.n.x,i t2.n.y,i t2.n.z,i t2.b] (U6 [(0,.int .i64),(1,.int .i64),(2,.int .i64),(3,.int .i64)] [i t1.1.n.x,i t1.1.n.y,i t1.1.n.z,i t1.1.b] [i t1.1.n.x,i t1.1.n.y,i t1.1.n.z,i t1.1.b,b true] s.eh4)) (k ⟨1,W (s.y7+1),U6 [(0,.int .i64),(1,.int .i64),(2,.int .i64),(3,.int .i64)] [i t1.1.n.x,i t1.1.n.y,i t1.1.n.z,i t1.1.b] [i t1.1.n.x,i t1.1.n.y,i t1.1.n.z,i t1.1.b,b true] s.eh4,s.w9+1,app s.eh5 [[i t1.1.n.x,i t1.1.n.y,i t1.1.n.z,i t1.1.b]]⟩) (sl (okE tV p.d9) (sl (D1 (rt tV p.d9) t2) (sl (!t3) (sl (Nat.beq (s.w9+1) (len (app s.eh5 [[i t1.1.n.x,i t1.1.n.y,i t1.1.n.z,i t1.1.b]]))&&Nat.ble (((s.w9+1)+1)*32) room) (k ⟨1,W (s.y7+1),U6 [(0,.int .i64),(1,.int .i64),(2,.int .i64),(3,.int .i64)] [i t2.n.x,i t2.n.y,i t2.n.z,i t2.b] [i t2.n.x,i t2.n.y,i t2.n.z,i t2.b,b true] (U6 [(0,.int .i64),(1,.int .i64),(2,.int .i64),(3,.int .i64)] [i t1.1.n.x,i t1.1.n.y,i t1.1.n.z,i t1.1.b] [i t1.1.n.x,i t1.1.n.y,i t1.1.n.z,i t1.1.b,b true] s.eh4),(s.w9+1)+1,app (app s.eh5 [[i t1.1.n.x,i t1.1.n.y,i t1.1.n.z,i t1.1.b]]) [[i t2.n.x,i t2.n.y,i t2.n.z,i t2.b]]⟩) z) (k ⟨1,W (s.y7+1),U6 [(0,.int .i64),(1,.int .i64),(2,.int .i64),(3,.int .i64)] [i t2.n.x,i t2.n.y,i t2.n.z,i t2.b] [i t2.n.x,i t2.n.y,i t2.n.z,i t2.b,b true] (U6 [(0,.int .i64),(1,.int .i64),(2,.int .i64),(3,.int .i64)] [i t1.1.n.x,i t1.1.n.y,i t1.1.n.z,i t1.1.b] [i t1.1.n.x,i t1.1.n.y,i t1.1.n.z,i t1.1.b,b true] s.eh4),s.w9+1,app s.eh5 [[i t1.1.n.x,i t1.1.n.y,i t1.1.n.z,i t1.1.b]]⟩)) z) z)) z) (sl (Ia9 4 [(0,.int .i64),(1,.int .i64),(2,.int .i64),(3,.int .i64)] [i t2.n.x,i t2.n.y,i t2.n.z,i t2.b] (U6 [(0,.int .i64),(1,.int .i64),(2,.int .i64),(3,.int .i64)] [i t1.1.n.x,i t1.1.n.y,i t1.1.n.z,i t1.1.b] [i t1.1.n.x,i t1.1.n.y,i t1.1.n.z,i t1.1.b,b true] s.eh4)) (k ⟨1,W (s.y7+1),U6 [(0,.int .i64),(1,.int .i64),(2,.int .i64),(3,.int .i64)] [i t1.1.n.x,i t1.1.n.y,i t1.1.n.z,i t1.1.b] [i t1.1.n.x,i t1.1.n.y,i t1.1.n.z,i t1.1.b,b true] s.eh4,s.w9,s.eh5⟩) (sl (okE tV p.d9) (sl (D1 (rt tV p.d9) t2) (sl (!t3) (sl a0 (k ⟨1,W (s.y7+1),U6 [(0,.int .i64),(1,.int .i64),(2,.int .i64),(3,.int .i64)] [i t2.n.x,i t2.n.y,i t2.n.z,i t2.b] [i t2.n.x,i t2.n.y,i t2.n.z,i t2.b,b true] (U6 [(0,.int .i64),(1,.int .i64),(2,.int .i64),(3,.int .i64)] [i t1.1.n.x,i t1.1.n.y,i t1.1.n.z,i t1.1.b] [i t1.1.n.x,i t1.1.n.y,i t1.1.n.z,i t1.1.b,b true] s.eh4),s.w9+1,app s.eh5 [[i t2.n.x,i t2.n.y,i t2.n.z,i t2.b]]⟩) z) (k ⟨1,W (s.y7+1),U6 [(0,.int .i64),(1,.int .i64),(2,.int .i64),(3,.int .i64)] [i t2.n.x,i t2.n.y,i t2.n.z,i t2.b] [i t2.n.x,i t2.n.y,i t2.n.z,i t2.b,b true] (U6 [(0,.int .i64),(1,.int .i64),(2,.int .i64),(3,.int .i64)] [i t1.1.n.x,i t1.1.n.y,i t1.1.n.z,i t1.1.b] [i t1.1.n.x,i t1.1.n.y,i t1.1.n.z,i t1.1.b,b true] s.eh4),s.w9,s.eh5⟩)) z) z))) z) z)) (k ⟨1,W (s.y7+1),s.eh4,s.w9,s.eh5⟩)) (sl t1.2 z (k ⟨1,W (s.y7+1),s.eh4,s.w9,s.eh5⟩))) z) z) z) z) (e 2))
noncomputable def L3(p:K3)(s:u9):Stp u9:=(sel (Nat.beq s.ph 1) (M6 .next .exit .fail p s) (M5 .next .exit .fail p s))
noncomputable def Ma5:Lo K3 u9:=⟨En Aa4,0,Jd8,[1,1,1,1,1,0,1,4,4,1,4,4,1,1,0,4,1,1,4,4,1,1,0,4,1,1,4,4],[1,3,4,9,10,16,17,23,24,60,62,63,64,66,67],.p,[⟨sUq::sPq 0::sUq::sIq::sIq::ru2 4 (sIq::sIq::ru2 5 (sIq::sIq::ru2 5 (sIq::sIq::ru2 35 (.s (.o (.lit .i64 0))::sUq::sPq 1::.s (.o .nil)::.s (.o (.lit .i64 0))::sUq::sPq 2::sPq 3::ru2 28 [])))),[⟨0,1,true,some [[.c 3 (nL tV)]]⟩,⟨0,1,true,some [[.c 3 (nL tV)]]⟩,⟨0,0,true,some [[.o (.ptr 4 0 0 0)]]⟩,⟨0,0,true,some [[.o .nil]]⟩,⟨64,0,true,none⟩],λa H=>(⟨aIq a 3,aIq a 4,aIq a 9,aIq a 10,aIq a 16,aIq a 17,aIq a 23,hLq tV H 0 0 0,hLq tV H 1 0 0⟩,⟨0,aIq a 24,elT H 4,0,[]⟩)⟩,⟨sUq::sPq 0::sUq::sIq::sIq::ru2 4 (sIq::sIq::ru2 5 (sIq::sIq::ru2 5 (sIq::sIq::ru2 35 (.s (.o (.lit .i64 0))::sUq::sPq 1::.s (.o .nil)::.s (.o (.lit .i64 0))::sUq::sPq 2::sPq 3::ru2 28 [])))),[⟨0,1,true,some [[.c 3 (nL tV)]]⟩,⟨0,1,true,some [[.c 3 (nL tV)]]⟩,⟨0,0,true,some [[.o (.ptr 4 0 0 0)]]⟩,⟨0,0,true,some [[.o (.sl 5 0 (some 0) none)]]⟩,⟨64,0,true,none⟩,⟨50,4,true,none⟩],λa H=>(⟨aIq a 3,aIq a 4,aIq a 9,aIq a 10,aIq a 16,aIq a 17,aIq a 23,hLq tV H 0 0 0,hLq tV H 1 0 0⟩,⟨1,aIq a 24,elT H 4,slN (slT (rwT (elT H 3) 0) 0),elT H 5⟩)⟩],L3,[(some 4,λp s=>upq (Wa9 p s) [(25,b (decide (s.y7<p.Wb8)))]),(some 4,λp s=>upq (Xa0 p s) [(25,b (decide (s.y7<p.Wb8)))])],Tb3⟩
theorem Tb4:Ma5.OkM:=Lo.okM [] (by kernel_rfl) .nil rfl (.cons (λa H=>by kernel_rfl) (.cons (λa H=>by kernel_rfl) .nil)) λp s=>(.sel (Nat.beq s.ph 1) (.of @M6 (λF _ _ _ _ _=>by unfold M6;(repeat' apply w8 (f:=F))<;>rfl) (by kernel_rfl)) (.of @M5 (λF _ _ _ _ _=>by unfold M5;(repeat' apply w8 (f:=F))<;>rfl) (by kernel_rfl)))
structure K4 where
 (is3 is9 w7 Ua6:Int)
structure r8 where
 ph:Nat
 E7:Int
 (c8 d9:List V3)
 eh4:List (List a7)
 w9:Nat
 eh5:List (List a7)
noncomputable def Xa1(p:K4)(s:r8):St:=⟨.unk::.ptr 0 0 0 0::.unk::i p.is3::ra 5 (i p.is9::i p.w7::ra 5 (i p.Ua6::i s.E7::ra 42 (i 0::.unk::.ptr 1 0 0 0::.v (.slice none 0 0)::i 0::.unk::.ptr 2 0 0 0::.ptr 3 0 0 0::ra 28 []))),[⟨0,1,[[eL tV s.c8]],true,false,0⟩,⟨0,1,[[eL tV s.d9]],true,false,0⟩,⟨0,0,[[.ptr 4 0 0 0]],true,false,0⟩,⟨0,0,[[.v (.slice none 0 0)]],true,false,0⟩,⟨64,0,s.eh4,true,false,0⟩]⟩
noncomputable def Xa2(p:K4)(s:r8):St:=⟨.unk::.ptr 0 0 0 0::.unk::i p.is3::ra 5 (i p.is9::i p.w7::ra 5 (i p.Ua6::i s.E7::ra 42 (i 0::.unk::.ptr 1 0 0 0::.v (.slice none 0 0)::i 0::.unk::.ptr 2 0 0 0::.ptr 3 0 0 0::ra 28 []))),[⟨0,1,[[eL tV s.c8]],true,false,0⟩,⟨0,1,[[eL tV s.d9]],true,false,0⟩,⟨0,0,[[.ptr 4 0 0 0]],true,false,0⟩,⟨0,0,[[.sl 5 0 s.w9 0]],true,false,0⟩,⟨64,0,s.eh4,true,false,0⟩,⟨50,4,s.eh5,true,false,0⟩]⟩
noncomputable def Tb5(p:K4)(s:r8):St:=(sel (Nat.beq s.ph 1) (Xa2 p s) (Xa1 p s))
noncomputable def M7{α:Type}(k:r8->α)(e:Nat->α)(z:α)(p:K4)(s:r8):α:=let t1:=(lp (L3 (⟨p.is3,s.E7,p.is9,p.w7,p.Ua6,s.E7,(↑(s.E7.toNat-0):Int),rt tV s.c8,rt tV s.d9⟩:K3)) (⟨0,0,s.eh4,0,[]⟩:u9));(sl (decide (s.E7<p.Ua6)) (sl (inB s.E7 ((List.length s.c8)+1)) (sl ((cnE tV s.c8)&&((cnE tV s.d9)&&true)) (sl (Nat.beq t1.1 1) (k ⟨0,W (s.E7+1),rt tV s.c8,rt tV s.d9,t1.2.eh4,0,[]⟩) (sl (Nat.beq t1.1 2) (k ⟨1,W (s.E7+1),rt tV s.c8,rt tV s.d9,t1.2.eh4,t1.2.w9,t1.2.eh5⟩) z)) z) z) (e 1))
noncomputable def M8{α:Type}(k:r8->α)(e:Nat->α)(z:α)(p:K4)(s:r8):α:=let t1:=(lp (L3 (⟨p.is3,s.E7,p.is9,p.w7,p.Ua6,s.E7,(↑(s.E7.toNat-0):Int),rt tV s.c8,rt tV s.d9⟩:K3)) (⟨1,0,s.eh4,s.w9,s.eh5⟩:u9));(sl (decide (s.E7<p.Ua6)) (sl (inB s.E7 ((List.length s.c8)+1)) (sl ((cnE tV s.c8)&&((cnE tV s.d9)&&true)) (sl (Nat.beq t1.1 1) (k ⟨0,W (s.E7+1),rt tV s.c8,rt tV s.d9,t1.2.eh4,0,[]⟩) (sl (Nat.beq t1.1 2) (k ⟨1,W (s.E7+1),rt tV s.c8,rt tV s.d9,t1.2.eh4,t1.2.w9,t1.2.eh5⟩) z)) z) z) (e 2))
noncomputable def R6(p:K4)(s:r8):Stp r8:=(sel (Nat.beq s.ph 1) (M8 .next .exit .fail p s) (M7 .next .exit .fail p s))
noncomputable def Ma6:Lo K4 r8:=⟨En Aa4,0,Jd8,[1,1,1,1,1,0,1,4,4,1,4,4,1,1,0,4,1,1,4,4],[1,3,9,10,16,17,60,62,63,64,66,67],.s .p (.s .p (.s (.b (.s .p (.s .p (.b (.u Ma5.lsM))))) .p)),[⟨sUq::sPq 0::sUq::sIq::ru2 5 (sIq::sIq::ru2 5 (sIq::sIq::ru2 42 (.s (.o (.lit .i64 0))::sUq::sPq 1::.s (.o .nil)::.s (.o (.lit .i64 0))::sUq::sPq 2::sPq 3::ru2 28 []))),[⟨0,1,true,some [[.c 3 (nL tV)]]⟩,⟨0,1,true,some [[.c 3 (nL tV)]]⟩,⟨0,0,true,some [[.o (.ptr 4 0 0 0)]]⟩,⟨0,0,true,some [[.o .nil]]⟩,⟨64,0,true,none⟩],λa H=>(⟨aIq a 3,aIq a 9,aIq a 10,aIq a 16⟩,⟨0,aIq a 17,hLq tV H 0 0 0,hLq tV H 1 0 0,elT H 4,0,[]⟩)⟩,⟨sUq::sPq 0::sUq::sIq::ru2 5 (sIq::sIq::ru2 5 (sIq::sIq::ru2 42 (.s (.o (.lit .i64 0))::sUq::sPq 1::.s (.o .nil)::.s (.o (.lit .i64 0))::sUq::sPq 2::sPq 3::ru2 28 []))),[⟨0,1,true,some [[.c 3 (nL tV)]]⟩,⟨0,1,true,some [[.c 3 (nL tV)]]⟩,⟨0,0,true,some [[.o (.ptr 4 0 0 0)]]⟩,⟨0,0,true,some [[.o (.sl 5 0 (some 0) none)]]⟩,⟨64,0,true,none⟩,⟨50,4,true,none⟩],λa H=>(⟨aIq a 3,aIq a 9,aIq a 10,aIq a 16⟩,⟨1,aIq a 17,hLq tV H 0 0 0,hLq tV H 1 0 0,elT H 4,slN (slT (rwT (elT H 3) 0) 0),elT H 5⟩)⟩],R6,[(some 2,λp s=>upq (Xa1 p s) [(18,b (decide (s.E7<p.Ua6)))]),(some 2,λp s=>upq (Xa2 p s) [(18,b (decide (s.E7<p.Ua6)))])],Tb5⟩
theorem Tb6:Ma6.OkM:=Lo.okM [Ma5.prM] (by kernel_rfl) (.cons Tb4 .nil) rfl (.cons (λa H=>by kernel_rfl) (.cons (λa H=>by kernel_rfl) .nil)) λp s=>(.sel (Nat.beq s.ph 1) (.of @M8 (λF _ _ _ _ _=>by unfold M8;(repeat' apply w8 (f:=F))<;>rfl) (by kernel_rfl)) (.of @M7 (λF _ _ _ _ _=>by unfold M7;(repeat' apply w8 (f:=F))<;>rfl) (by kernel_rfl)))
structure O3 where
 is9:Int
structure v7 where
 ph:Nat
 w7:Int
 (c8 d9:List V3)
 eh4:List (List a7)
 w9:Nat
 eh5:List (List a7)
noncomputable def Xa3(p:O3)(s:v7):St:=⟨.unk::.ptr 0 0 0 0::ra 7 (i p.is9::i s.w7::ra 49 (i 0::.unk::.ptr 1 0 0 0::.v (.slice none 0 0)::i 0::.unk::.ptr 2 0 0 0::.ptr 3 0 0 0::ra 28 [])),[⟨0,1,[[eL tV s.c8]],true,false,0⟩,⟨0,1,[[eL tV s.d9]],true,false,0⟩,⟨0,0,[[.ptr 4 0 0 0]],true,false,0⟩,⟨0,0,[[.v (.slice none 0 0)]],true,false,0⟩,⟨64,0,s.eh4,true,false,0⟩]⟩
noncomputable def Xa4(p:O3)(s:v7):St:=⟨.unk::.ptr 0 0 0 0::ra 7 (i p.is9::i s.w7::ra 49 (i 0::.unk::.ptr 1 0 0 0::.v (.slice none 0 0)::i 0::.unk::.ptr 2 0 0 0::.ptr 3 0 0 0::ra 28 [])),[⟨0,1,[[eL tV s.c8]],true,false,0⟩,⟨0,1,[[eL tV s.d9]],true,false,0⟩,⟨0,0,[[.ptr 4 0 0 0]],true,false,0⟩,⟨0,0,[[.sl 5 0 s.w9 0]],true,false,0⟩,⟨64,0,s.eh4,true,false,0⟩,⟨50,4,s.eh5,true,false,0⟩]⟩
noncomputable def Tb7(p:O3)(s:v7):St:=(sel (Nat.beq s.ph 1) (Xa4 p s) (Xa3 p s))
noncomputable def M9{α:Type}(k:v7->α)(e:Nat->α)(z:α)(p:O3)(s:v7):α:=let t1:=(lp (R6 (⟨s.w7,p.is9,s.w7,(↑(s.w7.toNat-0):Int)⟩:K4)) (⟨0,0,rt tV s.c8,rt tV s.d9,s.eh4,0,[]⟩:r8));(sl (decide (s.w7<p.is9)) (sl (inB s.w7 ((List.length s.c8)+1)) (sl ((cnE tV s.c8)&&((cnE tV s.d9)&&true)) (sl (Nat.beq t1.1 1) (k ⟨0,W (s.w7+1),t1.2.c8,t1.2.d9,t1.2.eh4,0,[]⟩) (sl (Nat.beq t1.1 2) (k ⟨1,W (s.w7+1),t1.2.c8,t1.2.d9,t1.2.eh4,t1.2.w9,t1.2.eh5⟩) z)) z) z) (e 1))
noncomputable def N0{α:Type}(k:v7->α)(e:Nat->α)(z:α)(p:O3)(s:v7):α:=let t1:=(lp (R6 (⟨s.w7,p.is9,s.w7,(↑(s.w7.toNat-0):Int)⟩:K4)) (⟨1,0,rt tV s.c8,rt tV s.d9,s.eh4,s.w9,s.eh5⟩:r8));(sl (decide (s.w7<p.is9)) (sl (inB s.w7 ((List.length s.c8)+1)) (sl ((cnE tV s.c8)&&((cnE tV s.d9)&&true)) (sl (Nat.beq t1.1 1) (k ⟨0,W (s.w7+1),t1.2.c8,t1.2.d9,t1.2.eh4,0,[]⟩) (sl (Nat.beq t1.1 2) (k ⟨1,W (s.w7+1),t1.2.c8,t1.2.d9,t1.2.eh4,t1.2.w9,t1.2.eh5⟩) z)) z) z) (e 2))
noncomputable def qa1(p:O3)(s:v7):Stp v7:=(sel (Nat.beq s.ph 1) (N0 .next .exit .fail p s) (M9 .next .exit .fail p s))
noncomputable def Ma7:Lo O3 v7:=⟨En Aa4,0,Jd8,[1,1,1,1,1,0,1,4,4,1,4,4],[1,9,10,60,62,63,64,66,67],.s .p (.s .p (.s (.b (.s .p (.s .p (.b (.u Ma6.lsM))))) .p)),[⟨sUq::sPq 0::ru2 7 (sIq::sIq::ru2 49 (.s (.o (.lit .i64 0))::sUq::sPq 1::.s (.o .nil)::.s (.o (.lit .i64 0))::sUq::sPq 2::sPq 3::ru2 28 [])),[⟨0,1,true,some [[.c 3 (nL tV)]]⟩,⟨0,1,true,some [[.c 3 (nL tV)]]⟩,⟨0,0,true,some [[.o (.ptr 4 0 0 0)]]⟩,⟨0,0,true,some [[.o .nil]]⟩,⟨64,0,true,none⟩],λa H=>(⟨aIq a 9⟩,⟨0,aIq a 10,hLq tV H 0 0 0,hLq tV H 1 0 0,elT H 4,0,[]⟩)⟩,⟨sUq::sPq 0::ru2 7 (sIq::sIq::ru2 49 (.s (.o (.lit .i64 0))::sUq::sPq 1::.s (.o .nil)::.s (.o (.lit .i64 0))::sUq::sPq 2::sPq 3::ru2 28 [])),[⟨0,1,true,some [[.c 3 (nL tV)]]⟩,⟨0,1,true,some [[.c 3 (nL tV)]]⟩,⟨0,0,true,some [[.o (.ptr 4 0 0 0)]]⟩,⟨0,0,true,some [[.o (.sl 5 0 (some 0) none)]]⟩,⟨64,0,true,none⟩,⟨50,4,true,none⟩],λa H=>(⟨aIq a 9⟩,⟨1,aIq a 10,hLq tV H 0 0 0,hLq tV H 1 0 0,elT H 4,slN (slT (rwT (elT H 3) 0) 0),elT H 5⟩)⟩],qa1,[(some 0,λp s=>upq (Xa3 p s) [(11,b (decide (s.w7<p.is9)))]),(some 0,λp s=>upq (Xa4 p s) [(11,b (decide (s.w7<p.is9)))])],Tb7⟩
theorem Tb8:Ma7.OkM:=Lo.okM [Ma6.prM] (by kernel_rfl) (.cons Tb6 .nil) rfl (.cons (λa H=>by kernel_rfl) (.cons (λa H=>by kernel_rfl) .nil)) λp s=>(.sel (Nat.beq s.ph 1) (.of @N0 (λF _ _ _ _ _=>by unfold N0;(repeat' apply w8 (f:=F))<;>rfl) (by kernel_rfl)) (.of @M9 (λF _ _ _ _ _=>by unfold M9;(repeat' apply w8 (f:=F))<;>rfl) (by kernel_rfl)))
noncomputable def da5(x:V3×List V3):Option (a7×List c7):=let t1:=(la7 (rt tV (x.1::x.2)));let t2:=(Da6 (hC tV (λk=>(tV).row (gL tV (x.1::x.2) k)),tC tV (List.length x.2) (λk=>(tV).row (gL tV (x.1::x.2) k))));let t3:=(lp (qa1 (⟨(↑(List.length t2):Int)⟩:O3)) (⟨0,0,rt tV t2,rt tV t2,[],0,[]⟩:v7));(sl (okE tV (x.1::x.2)) (sl (la8 (rt tV (x.1::x.2))) (sl (t1 != 0) (some (.tup [.v (.slice none 0 0),i t1],[])) (sl (okL tV (List.length x.2+1) (λk=>(tV).row (gL tV (x.1::x.2) k))) (sl (Da7 (hC tV (λk=>(tV).row (gL tV (x.1::x.2) k)),tC tV (List.length x.2) (λk=>(tV).row (gL tV (x.1::x.2) k)))) (sl ((cnE tV t2)&&((cnE tV t2)&&true)) (sl (Nat.beq t3.1 1) none (sl (Nat.beq t3.1 2) (sl (Bool.and (Nat.ble t3.2.w9 room) (Bool.and (Nat.ble t3.2.w9 (len t3.2.eh5)) (okS tP t3.2.eh5 0 t3.2.w9))) (some (.tup [.sl 0 0 t3.2.w9 0,i 0],[⟨50,4,app (bL tP (sb2 (slR tP t3.2.eh5 0 t3.2.w9))) (i7 t3.2.eh5 t3.2.w9),true,false,0⟩])) none) none)) none) none) none)) none) none)
noncomputable def Ga9(x:V3×List V3):List Pln×Int:=T8 (two (r1L tP) r1I) (da5 x)
noncomputable def Ha0(x:V3×List V3):Bool:=okO (two (r1L tP) r1I) (da5 x)
noncomputable def Eb2:Sum:=O8 (Ic5 tV) (λx=>.guard (Ha0 x) (.ret ((two (r1L tP) r1I).enc (Ga9 x),[])))
theorem sb6:g9 prog G 18 Eb2:=Sa0 (bd b18 hc5) (two (r1L tP) r1I) (o:=da5) λx=>tc9 (.s .p (.s .p (.s .p (.s .p (.s .p (.s (.s .p (.b (.i (.s .p (.b (.u Ma7.lsM)))))) .p)))))) [Ma7.prM] (by kernel_rfl) (.cons Tb8 .nil) (by kernel_rfl)
end Go.Ev.Ce
