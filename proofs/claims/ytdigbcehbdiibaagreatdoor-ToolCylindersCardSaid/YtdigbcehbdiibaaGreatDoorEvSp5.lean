/- Own work. -/
import Derived.Test.YtdigbcehbdiibaaGreatDoorEvDraw4
import Derived.Shelf.SlSortCmp.WholeK
import Derived.CallsIn
import Derived.RangeFuncIn
import Derived.RangeFuncRecord
import Derived.RangeFuncLeaves
import Derived.ControlIn
import Derived.LoopNIn
import Derived.TacticsIn
set_option linter.all false
noncomputable section
def Qda:=@List.getD_eq_getElem?_getD
def Qdb:=@Array.getElem?_append_left
def Qdc:=@List.length_append
def Qdd:=@Array.all_eq_true_iff_forall_mem
def Qde:=@Array.getElem?_modify
namespace Go.Ev
open Go
section
variable{W:Nat->Prop}{ρ ρ':Rho}{H H':List b7}{F F':Fz}{w w':World}
def rd6(ρ:Rho)(H:List b7)(ρ':Rho)(H':List b7):Prop:=∀(id:Nat) b,H[id]?=some b->b.dead=false->∃b',H'[id]?=some b'/\b'.dead=false/\b.g<=b'.g/\(b'.g=b.g->ρ' id=ρ id/\b'.es=b.es/\b.elems.length<=b'.elems.length)
section
variable(hk:rd6 ρ H ρ' H')(hm:∀b o,F b o->F' b o)(hc:∀b o,F b o->w'.cell? ⟨b,o,none⟩=w.cell? ⟨b,o,none⟩)
include hk hm hc
theorem U2.carry{x:a7}{x':Value}(h:U2 ρ H F w x x'):U2 ρ' H' F' w' x x':=by
 cases h with
 |mem h=>exact .mem (h.adv hm hc)
 |v=>exact .v _
 |ptr id i c g a b hb hd hg h =>
  obtain⟨b',hb',hd',hg',e⟩:=hk id b hb hd;refine .ptr id i c g a b' hb' hd' (Qai hg hg') λhge=>?_
  grind
 |sl id off n g a cap b hb hd hg hn hs hm h =>
  obtain⟨b',hb',hd',hg',e⟩:=hk id b hb hd;refine .sl id off n g a cap b' hb' hd' (Qai hg hg') hn hs hm λhge=>?_
  grind
 |tptr cs a vs hs hF hw hr=>exact .tptr cs a vs hs (λc hlt=>hm _ _ (hF c hlt)) (λc hlt=>(hc _ _ (hF c hlt)).trans (hw c hlt)) (λc hlt=>(hr c hlt).adv hm hc)
 |unk x'=>exact .unk x'
theorem da6.carry{x:a7}{x':Value}(h:da6 ρ H F w x x'):da6 ρ' H' F' w' x x':=by
 cases h with
 |cell h=>exact .cell (h.carry hk hm hc)
 |agg cs vs hl h=>exact .agg cs vs hl λi x x' hx hx'=>(h i x x' hx hx').carry hk hm hc
 |fn f caps vs hl h=>exact .fn f caps vs hl λi x x' hx hx'=>(h i x x' hx hx').carry hk hm hc
theorem C9.carry{x:a7}{x':Value}(h:C9 ρ H F w x x'):C9 ρ' H' F' w' x x':=by
 cases h with
 |val h=>exact .val (h.carry hk hm hc)
 |tup xs vs hl h=>exact .tup xs vs hl λi x x' hx hx'=>(h i x x' hx hx').carry hk hm hc
theorem va8.carry{a:List a7}{vs:Array Value}(h:va8 ρ H F w a vs):va8 ρ' H' F' w' a vs :=
 ⟨h.1,λi x x' hx hx'=>(h.2 i x x' hx hx').carry hk hm hc⟩
end
end
section
variable{W:Nat->Prop}{ρ0:Rho}{H0:List b7}{F0:Fz}{w0 w:World}
variable{tr:Nat}{E:Env}{ops:Array Oper}{M:List Nat}{ks:List (Nat×PI)}{s:St}{U T:Nat->St}
def C3(listed:Array Bool)(j:Nat):Prop:=listed.getD j true=true
def N2(tr:Nat)(P:Program)(ops:Array Oper)(U:Nat->St)(listed:Array Bool)(id:Nat):Prop:=∃b,b<ops.size/\J1 tr P ops b=0/\¬ C3 listed b/\id=(U b).H.length
def T9(ops:Array Oper)(listed:Array Bool)(t:Nat):Prop:=∃i,i<ops.size/\da9 ops i=some t/\¬ C3 listed i
theorem N8{listed:Array Bool}{i j:Nat}(hi:i<listed.size):C3 (listed.setIfInBounds i true) j↔C3 listed j\/j=i:=by
 unfold C3;by_cases e:i=j
 ·simp_all
 ·have:j≠i:=λh=>e h.symm
  simp_all
theorem Nb9{listed:Array Bool}{i:Nat}(h:i∈Region.ready .any ops listed):i<ops.size/\¬ C3 listed i/\(listed.size=ops.size->∀e∈D1 (Ca1 ops i),e<ops.size->C3 listed e):=by
 unfold Region.ready at h;rw[List.mem_filter] at h;obtain⟨h1,h2⟩:=h;have hi:=Qca.1 h1;rw[na4 hi] at h2;simp only[Option.map_some,Option.getD_some,Qas,Qcc] at h2;refine⟨hi,λh=>?_,λhsz e he hlt=>?_⟩
 ·unfold C3 at h;rw[h] at h2;cases h2.1
 ·obtain⟨ed,h3,h4,h5⟩:=Qa6.1 he;have h6:(Ca1 ops i).after.all (λe=>!Region.binds .any e||listed.getD e.on false)=true:=h2.2
  rw[Qdd] at h6;have h7:=h6 ed h3;rw[h4,h5] at h7;simp only[Bool.not_true,Bool.false_or] at h7;unfold C3
  simp_all
variable(hD:DC tr E.P ops M ks)(hT:cd1 E ops ks s U T)(hin:∀j,j<ops.size->J1 tr E.P ops j=0->∀d,da9 ops j=some d->d<s.a.length)
include hD
theorem ke7{listed:Array Bool}(hsz:listed.size=ops.size){i:Nat}(hi:i<ops.size){x:a7}(hx:∀d,da9 ops i=some d->d<(T ops.size).a.length->(T ops.size).a[d]?=some x) :
  Ya4 (T ops.size).a s.a (T9 ops (listed.setIfInBounds i true))=putA (Ya4 (T ops.size).a s.a (T9 ops listed)) (da9 ops i) x:=by
 refine Qbp λt=>?_
 have hopen:∀t,da9 ops i≠some t->(T9 ops (listed.setIfInBounds i true) t↔T9 ops listed t):=λt hne=>by
  constructor
  ·rintro⟨j,h1,h2,h3⟩;exact⟨j,h1,h2,λh=>h3 ((N8 (hsz ▸ hi)).2 (.inl h))⟩
  ·rintro⟨j,h1,h2,h3⟩;refine⟨j,h1,h2,λh=>?_⟩
   rcases (N8 (hsz ▸ hi)).1 h with h|h
   ·exact h3 h
   ·subst h;exact hne h2
 by_cases hd:da9 ops i=some t
 ·have hno : ¬ T9 ops (listed.setIfInBounds i true) t := by
   rintro⟨j,h1,h2,h3⟩
   rcases (hD.slots hi h1 hd).2 with h|h
   ·exact h3 ((N8 (hsz ▸ hi)).2 (.inr h.symm))
   ·exact h h2
  rw[Za4 hno,hd]
  rcases Qaq t (T ops.size).a.length with hlt|hge
  ·rw[Vc4 (by rw[Za3];exact hlt)]
   exact hx t hd hlt
  ·rw[Qat hge,Qat (by rw[tc6,Za3];exact hge)]
 ·rw[tc7 hd];by_cases ho:T9 ops listed t
  ·rcases Qaq t (T ops.size).a.length with hlt|hge
   ·rw[tc3 ho hlt,tc3 ((hopen t hd).2 ho) hlt]
   ·rw[Qat (by rw[Za3];exact hge),Qat (by rw[Za3];exact hge)]
  ·rw[Za4 ho,Za4 λh=>ho ((hopen t hd).1 h)]
include hT
end
section
variable{W:Nat->Prop}{ρ0:Rho}{H0:List b7}{F0:Fz}{w0 w:World}
variable{tr:Nat}{E:Env}{ops:Array Oper}{M:List Nat}{ks:List (Nat×PI)}{s:St}{U T:Nat->St}
variable(hD:DC tr E.P ops M ks)(hT:cd1 E ops ks s U T)(hin:∀j,j<ops.size->J1 tr E.P ops j=0->∀d,da9 ops j=some d->d<s.a.length)
variable(hpairs:Ha1 E (T ops.size).a (Aa5 ops.size M ks)=true)
variable(hG0:GOk E F0 w0)(hcalls:∀f,d9 E.P E.G f (E.call f))
theorem rd7{listed:Array Bool}(hsz:listed.size=ops.size){i:Nat}(hi:i<ops.size)(hk:J1 tr E.P ops i≠0):N2 tr E.P ops U (listed.setIfInBounds i true)=N2 tr E.P ops U listed:=by
 funext id;refine propext ⟨λ⟨b,h1,h2,h3,h4⟩=>⟨b,h1,h2,λh=>h3 ((N8 (hsz ▸ hi)).2 (.inl h)),h4⟩,λ⟨b,h1,h2,h3,h4⟩=>⟨b,h1,h2,λh=>?_,h4⟩⟩
 rcases (N8 (hsz ▸ hi)).1 h with h|h
 ·exact h3 h
 ·subst h;exact hk h2
include hD
include hT hin hpairs hG0 hcalls
end
section
variable{W:Nat->Prop}{ρ0:Rho}{H0:List b7}{F0:Fz}{w0 w:World}
variable{tr:Nat}{E:Env}{ops:Array Oper}{M:List Nat}{ks:List (Nat×PI)}{s:St}{U T:Nat->St}
variable(hD:DC tr E.P ops M ks)(hT:cd1 E ops ks s U T)(hin:∀j,j<ops.size->J1 tr E.P ops j=0->∀d,da9 ops j=some d->d<s.a.length)(hlen:H0.length<=s.H.length)
include hD hT hin hlen
omit hT hin hlen in
theorem rd8{listed:Array Bool}(hsz:listed.size=ops.size)(h:Region.ready .any ops listed=[]):∀j,j<ops.size->C3 listed j:=by
 intro j
 induction j using Nat.strongRecOn with
 |_ j ih =>
  intro hj;apply Classical.byContradiction;intro hn;have hmem:j∈Region.ready .any ops listed:=by
   unfold Region.ready;rw[List.mem_filter];refine⟨Qca.2 hj,?_⟩;rw[na4 hj];simp only[Option.map_some,Option.getD_some,Qas,Qcc];refine⟨by unfold C3 at hn;simpa using hn,?_⟩
   rw[Qdd];intro e he;cases hb:Region.binds .any e with
   |false=>rfl
   |true =>
    have hd:e.on∈D1 (Ca1 ops j):=Qa6.2 ⟨e,he,hb,rfl⟩;have hlt:=fc6 hD.rows (na4 hj) hd
    have:=ih e.on hlt (by omega)
    unfold C3 at this
    grind
  rw[h] at hmem;cases hmem
def F7(listed:Array Bool):Nat:=(listed.toList.filter λb=>!b).length
omit hD hT hin hlen in
theorem Ka7:∀(l:List Bool) (i:Nat),l[i]?=some false->((l.set i true).filter λb=>!b).length+1=(l.filter λb=>!b).length
 |[],i,h=>by simp at h
 |b::l,0,h=>by
  simp at h
  subst h;simp
 |b::l,i+1,h=>by
  have ih:=Ka7 l i (by simpa using h)
  grind
omit hD hT hin hlen in
theorem Ua5{listed:Array Bool}(h:F7 listed=0)(j:Nat):C3 listed j:=by
 unfold F7 at h;unfold C3;rw[List.length_eq_zero_iff,List.filter_eq_nil_iff] at h
 rcases Qaq j listed.size with hj|hj
 ·have:=h listed[j] (by simp)
  simp_all
 simp_all
variable(hpairs:Ha1 E (T ops.size).a (Aa5 ops.size M ks)=true)(hG0:GOk E F0 w0)(hcalls:∀f,d9 E.P E.G f (E.call f))
include hpairs hG0 hcalls
end
abbrev Sum:=List a7->List b7->DT (a7×List b7)
def ALe(x y:a7):Prop:=∀ρ H F w v,C9 ρ H F w x v->C9 ρ H F w y v
theorem ALe.refl(x:a7):ALe x x:=λ_ _ _ _ _ h=>h
inductive cd4:List a7->List a7->Prop
 |nil:cd4 [] []
 |cons {x y l r} (h:ALe x y) (t:cd4 l r):cd4 (x::l) (y::r)
theorem cd4.refl:∀l,cd4 l l
 |[]=>.nil
 |x::l=>.cons (.refl x) (cd4.refl l)
theorem cd4.length{l r}(h:cd4 l r):l.length=r.length:=by induction h<;>simp_all
theorem cd4.get{l r}(h:cd4 l r):∀(i:Nat) y,r[i]?=some y->∃x,l[i]?=some x/\ALe x y:=by
 induction h with
 |nil=>intro i y hy;simp at hy
 |cons h t ih =>
  grind
theorem d9.refine{P:Program}{G:Nat->List Value}{f:FuncId}{S S':Sum}(h:d9 P G f S)
  (hr:∀args blks r,(S' args blks).run=some r->∃Rb6,cd4 args Rb6/\(S Rb6 blks).run=some r):d9 P G f S':=by
 intro args blks r out he W ρ F w args' hH hlen hargs hG;obtain⟨Rb6,ha,he2⟩:=hr args blks _ he;refine h Rb6 blks r out he2 W ρ F w args' hH (ha.length ▸ hlen) (λi y x' hy hx'=>?_) hG
 obtain⟨x,hx,hle⟩:=ha.get i y hy;exact hle _ _ _ _ _ (hargs i x x' hx hx')
def bf5(l:List (Nat×Sum)):FuncId->Sum :=
 List.rec (motive:=λ_=>FuncId->Sum) (λ_ _ _=>.fail) (λp _ ih f=>Bool.rec (motive:=λ_=>Sum) (ih f) p.2 (Nat.beq p.1 f)) l
def l6(P:Program)(G:Nat->List Value):List (Nat×Sum)->Prop
 |[]=>True
 |p::l=>d9 P G p.1 p.2/\l6 P G l
theorem be6{P:Program}{G:Nat->List Value}:∀{l:List (Nat×Sum)},l6 P G l->∀f,d9 P G f (bf5 l f)
 |[],_,f=>λargs blks r out h=>by cases h
 |(n,S)::l,h,f=>by
  show d9 P G f (Bool.rec (motive:=λ_=>Sum) (bf5 l f) S (Nat.beq n f))
  cases hb:Nat.beq n f with
  |false=>exact be6 h.2 f
  |true=>rw[<- Qad hb];exact h.1
inductive PS where
 |pc (c:PC)
 |seq (a b:PS)
 |cond (c:Arg) (x y:PS)
 |block (id:Nat) (c:PS)
 |loop (keep:List Nat) (c:PS)
 |sum (S:St->DT (d8×St))
def lf8(E:Env)(k:Nat)(c:PS):St->DT (d8×St) :=
 PS.rec (motive:=λ_=>St->DT (d8×St))
  (λc=>E2 E k c)
  (λ_ _ x y s=>(x s).bind λr=>d8.rec (motive:=λ_=>DT (d8×St)) (y r.2) (λid=>.ret (.exit id,r.2)) (.ret (.ret,r.2)) r.1)
  (λc _ _ x y s=>match b8 E s.a c with
   |.v (.bool b)=>.ite b (x s) (y s)
   |_=>.fail)
  (λid _ x s=>(x s).bind λr=>d8.rec (motive:=λ_=>DT (d8×St)) (.ret (.normal,r.2))
   (λid'=>Bool.rec (.ret (.exit id',r.2)) (.ret (.normal,r.2)) (Nat.beq id' id)) (.ret (.ret,r.2)) r.1)
  (λkeep _ x=>Ub2 (λs=>tidy k ⟨N7 keep s.a 0,s.H⟩) x E.N)
  (λS=>S) c
def U3{α:Type}(x y:DT α):Prop:=∀r,x.run=some r->y.run=some r
theorem U3.refl{α:Type}(x:DT α):U3 x x:=λ_ h=>h
theorem U3.bind{α β:Type}{x y:DT α}{f g:α->DT β}(h:U3 x y)(hf:∀a,U3 (f a) (g a)):U3 (x.bind f) (y.bind g):=λr hr=>by
 obtain⟨a,h1,h2⟩:=DT.run_bind_some hr;rw[DT.run_bind,h a h1];exact hf a r h2
theorem U3.ite{α:Type}{b:Bool}{x y x' y':DT α}(h:U3 x x')(h':U3 y y'):U3 (.ite b x y) (.ite b x' y'):=λr hr=>by
 rw[DT.run_ite] at hr ⊢
 split at hr
 ·next hb=>simpa [hb] using h r hr
 ·next hb=>simpa [hb] using h' r hr
theorem U3.fail{α:Type}(y:DT α):U3 .fail y:=λ_ h=>by cases h
theorem Ob0{head:St->DT St}{body body':St->DT (d8×St)}(h:∀s,U3 (body s) (body' s)):∀n s,U3 (Ub2 head body n s) (Ub2 head body' n s)
 |0,s=>.refl _
 |n+1,s=>by
  show U3 ((head s).bind λs=>(body s).bind _) ((head s).bind λs=>(body' s).bind _)
  refine U3.bind (.refl _) λs=>(h s).bind λr=>?_
  rcases r with⟨x,s'⟩
  cases x with
  |normal=>exact Ob0 h n s'
  |exit id=>exact .refl _
  |ret=>exact .refl _
inductive Ua6 (E:Env) (k:Nat):PS->PC->Prop
 |pc (c:PC):Ua6 E k (.pc c) c
 |seq {a b:PS} {a' b':PC} (h:Ua6 E k a a') (h':Ua6 E k b b'):Ua6 E k (.seq a b) (.seq a' b')
 |cond (c:Arg) {a b:PS} {a' b':PC} (h:Ua6 E k a a') (h':Ua6 E k b b'):Ua6 E k (.cond c a b) (.cond c a' b')
 |block (id:Nat) {a:PS} {a':PC} (h:Ua6 E k a a'):Ua6 E k (.block id a) (.block id a')
 |loop (keep:List Nat) {a:PS} {a':PC} (h:Ua6 E k a a'):Ua6 E k (.loop keep a) (.loop keep a')
 |sum {S:St->DT (d8×St)} {c:PC} (h:∀s,U3 (S s) (E2 E k c s)):Ua6 E k (.sum S) c
theorem Ua6.le{E:Env}{k:Nat}{a:PS}{c:PC}(h:Ua6 E k a c):∀s,U3 (lf8 E k a s) (E2 E k c s):=by
 induction h with
 |pc c=>exact λs=>.refl _
 |seq h h' ih ih' =>
  intro s;refine (ih s).bind λr=>?_
  rcases r with⟨x,s'⟩
  cases x with
  |normal=>exact ih' s'
  |exit id=>exact .refl _
  |ret=>exact .refl _
 |cond c h h' ih ih' =>
  intro s;show U3 (match b8 E s.a c with | .v (.bool b)=>_ | _=>_) (match b8 E s.a c with | .v (.bool b)=>_ | _=>_)
  split
  ·exact .ite (ih s) (ih' s)
  ·exact .fail _
 |block id h ih=>exact λs=>(ih s).bind λr=>.refl _
 |loop keep h ih=>exact λs=>Ob0 ih _ s
 |sum h=>exact h
def zb7(head:St->DT St)(body:St->DT (d8×St))(s:St):DT (d8×St) :=
 (body s).bind λr=>d8.rec (motive:=λ_=>DT (d8×St)) ((head r.2).bind λs=>.ret (.normal,s)) (λid=>.ret (.exit id,r.2)) (.ret (.ret,r.2)) r.1
def pc4(head:St->DT St)(body:St->DT (d8×St))(n:Nat)(s:St):DT (d8×St) :=
 (body s).bind λr=>d8.rec (motive:=λ_=>DT (d8×St)) (Ub2 head body n r.2) (λid=>.ret (.exit id,r.2)) (.ret (.ret,r.2)) r.1
theorem fc7{head:St->DT St}{body:St->DT (d8×St)}{n:Nat}{s t:St}{r:d8×St}(h:(head s).run=some t)(h2:(pc4 head body n t).run=some r):(Ub2 head body (n+1) s).run=some r:=by
 show ((head s).bind λs=>pc4 head body n s).run=some r
 rw[DT.run_bind,h];exact h2
theorem Le4{head:St->DT St}{body:St->DT (d8×St)}{n:Nat}{s t:St}{r:d8×St}(h:(zb7 head body s).run=some (.normal,t))(h2:(pc4 head body n t).run=some r):(pc4 head body (n+1) s).run=some r:=by
 obtain⟨⟨x,s1⟩,h3,h4⟩:=DT.run_bind_some h;cases x with
 |normal =>
  obtain⟨t',h5,h6⟩:=DT.run_bind_some h4;cases h6;show ((body s).bind _).run=_;rw[DT.run_bind,h3];exact fc7 h5 h2
 |exit id=>cases h4
 |ret=>cases h4
theorem Le5{head:St->DT St}{body:St->DT (d8×St)}{n:Nat}{s t:St}{x:d8}(h:(zb7 head body s).run=some (x,t))(hx:x≠.normal):(pc4 head body n s).run=some (x,t):=by
 obtain⟨⟨y,s1⟩,h3,h4⟩:=DT.run_bind_some h;cases y with
 |normal =>
  obtain⟨t',h5,h6⟩:=DT.run_bind_some h4
  simp_all
 |exit id =>
  show ((body s).bind _).run=_;rw[DT.run_bind,h3];exact h4
 |ret =>
  show ((body s).bind _).run=_;rw[DT.run_bind,h3];exact h4
@[reducible] def Xb2(k:Nat)(keep:List Nat)(s:St):DT St:=tidy k ⟨N7 keep s.a 0,s.H⟩
theorem rd9(E:Env)(k:Nat)(keep:List Nat)(c:PC)(s:St):E2 E k (.loop keep c) s=Ub2 (Xb2 k keep) (E2 E k c) E.N s:=rfl
inductive Sh where
 |unk
 |int
 |bool
 |tree (es:Nat)
 |ptr (id i c g:Nat)
@[reducible] def sel{α:Type}(c:Bool)(t e:α):α:=Bool.rec (motive:=λ_=>α) e t c
theorem pb3{g a:Int}(h:a>0):(Int.tmod g a).toNat<a.toNat:=by
 have:=Int.tmod_lt_of_pos g h
 omega
@[reducible] def i(n:Int):a7:=.v (.int .i64 n)
@[reducible] def b(x:Bool):a7:=.v (.bool x)
def Le6:a7->Option Int
 |.v (.int .i64 n)=>some n
 |_=>none
theorem Le7{x:a7}{n:Int}(h:Le6 x=some n):x=i n:=by
 unfold Le6 at h
 grind
abbrev W(n:Int):Int:=IntKind.wrap .i64 n
structure Cod(α:Type) where
 enc:α->a7
 dec:a7->Option α
 grd:a7->Bool
 ok:∀x a,dec x=some a->grd x=true->ALe x (enc a)
theorem ALe.of{x y:a7}(h:x=y):ALe x y:=h ▸ .refl x
def cI:Cod Int:=⟨i,Le6,λ_=>true,λ_ _ h _=>.of (Le7 h)⟩
theorem Y7.get{F:Fz}{w:World}{es n:Nat}{get get':Nat->List a7}{v:Value}(h:Y7 F w (.tree es n get) v)(he:∀k,k<n->get' k=get k):Y7 F w (.tree es n get') v:=by
 cases h with
 |tree _ _ _ a cap cs hs hcap hes hF hw hr =>
  refine .tree es n get' a cap cs hs hcap (λi hi=>by rw[he i hi];exact hes i hi) hF hw (λi c hi hc=>?_)
  grind
 |nil=>exact .nil _ _
theorem ALe.tree{es n:Nat}{get get':Nat->List a7}(he:∀k,k<n->get' k=get k):ALe (.tree es n get) (.tree es n get'):=λρ H F w v h=>.val (.cell (.mem ((ra1 h).get he)))
def g3(x y z:Int):Nat->List a7
 |0=>[i x]
 |1=>[i y]
 |_=>[i z]
def Le8:List a7->Option Int
 |[x]=>Le6 x
 |_=>none
def d3(x:a7):Option (Int×Int×Int):=match x with
 |.tree 1 3 get=>Option.rec (motive:=λ_=>Option (Int×Int×Int)) none (λa=>Option.rec (motive:=λ_=>Option (Int×Int×Int)) none (λb=>Option.rec (motive:=λ_=>Option (Int×Int×Int)) none (λc=>some (a,b,c)) (Le8 (get 2))) (Le8 (get 1))) (Le8 (get 0))
 |_=>none
def d1(x:a7):Option Int:=match x with
 |.tree 1 1 get=>Le8 (get 0)
 |_=>none
structure IL where
 n:Nat
 g:Nat->Int
structure LL where
 a:IL
 b:IL
def ue4(t:List a7->Bool)(S S':Sum):Sum:=λargs blks=>Bool.rec (motive:=λ_=>DT (a7×List b7)) (S' args blks) (S args blks) (t args)
theorem yd5{P:Program}{G:Nat->List Value}{f:FuncId}{S S':Sum}{t:List a7->Bool}(h:d9 P G f S)(h':d9 P G f S'):d9 P G f (ue4 t S S'):=by
 intro args blks r out he;unfold ue4 at he;cases ht:t args with
 |true=>rw[ht] at he;exact h args blks r out he
 |false=>rw[ht] at he;exact h' args blks r out he
def onO{α:Type}(x:Option α)(k:α->DT (a7×List b7)):DT (a7×List b7):=Option.rec (motive:=λ_=>DT (a7×List b7)) .fail k x
theorem na5{α:Type}{x:Option α}{k:α->DT (a7×List b7)}{r:a7×List b7}(h:(onO x k).run=some r):∃a,x=some a/\(k a).run=some r:=by
 cases x with
 |none=>cases h
 |some a=>exact⟨a,rfl,h⟩
section
variable{α β γ δ:Type}
def Ud0(k:DT (a7×List b7)):Sum:=λargs blks=>match args,blks with
 |[],[]=>k
 |_,_=>.fail
def L6(c:Cod α)(k:α->DT (a7×List b7)):Sum:=λargs blks=>match args,blks with
 |[x],[]=>onO (c.dec x) λa=>.guard (c.grd x) (k a)
 |_,_=>.fail
def Ha5(c:Cod α)(d:Cod β)(k:α->β->DT (a7×List b7)):Sum:=λargs blks=>match args,blks with
 |[x,y],[]=>onO (c.dec x) λa=>onO (d.dec y) λb=>.guard (c.grd x) (.guard (d.grd y) (k a b))
 |_,_=>.fail
def Ub4(c:Cod α)(d:Cod β)(e:Cod γ)(k:α->β->γ->DT (a7×List b7)):Sum:=λargs blks=>match args,blks with
 |[x,y,z],[]=>onO (c.dec x) λa=>onO (d.dec y) λb=>onO (e.dec z) λg=>.guard (c.grd x) (.guard (d.grd y) (.guard (e.grd z) (k a b g)))
 |_,_=>.fail
variable{P:Program}{G:Nat->List Value}{f:FuncId}{R:Sum}{c:Cod α}{d:Cod β}{e:Cod γ}{c4:Cod δ}
theorem d9.le{S':Sum}(h:d9 P G f R)(hr:∀args blks r,(S' args blks).run=some r->(R args blks).run=some r):d9 P G f S' :=
 h.refine λargs blks r hh=>⟨args,.refl _,hr args blks r hh⟩
theorem Le9{k}(hb:d9 P G f R)(h:∀r,k.run=some r->(R [] []).run=some r):d9 P G f (Ud0 k):=hb.le λargs blks r hr=>by
 unfold Ud0 at hr
 split at hr
 ·exact h r hr
 ·cases hr
theorem fc8{k:α->_}(hb:d9 P G f R)(h:∀a r,(k a).run=some r->(R [c.enc a] []).run=some r):d9 P G f (L6 c k):=hb.refine λargs blks r hr=>by
 unfold L6 at hr
 split at hr
 ·obtain⟨a,h1,hr⟩:=na5 hr;obtain⟨g1,hr⟩:=DT.run_guard_some hr;exact⟨_,.cons (c.ok _ a h1 g1) .nil,h a r hr⟩
 ·cases hr
theorem be7{k:α->β->_}(hb:d9 P G f R)(h:∀a b r,(k a b).run=some r->(R [c.enc a,d.enc b] []).run=some r):d9 P G f (Ha5 c d k):=hb.refine λargs blks r hr=>by
 unfold Ha5 at hr
 split at hr
 ·obtain⟨a,h1,hr⟩:=na5 hr;obtain⟨b,h2,hr⟩:=na5 hr;obtain⟨g1,hr⟩:=DT.run_guard_some hr;obtain⟨g2,hr⟩:=DT.run_guard_some hr;exact⟨_,.cons (c.ok _ a h1 g1) (.cons (d.ok _ b h2 g2) .nil),h a b r hr⟩
 ·cases hr
theorem be8{k:α->β->γ->_}(hb:d9 P G f R)(h:∀a b g r,(k a b g).run=some r->(R [c.enc a,d.enc b,e.enc g] []).run=some r):d9 P G f (Ub4 c d e k):=hb.refine λargs blks r hr=>by
 unfold Ub4 at hr
 split at hr
 ·obtain⟨a,h1,hr⟩:=na5 hr;obtain⟨b,h2,hr⟩:=na5 hr;obtain⟨g,h3,hr⟩:=na5 hr;obtain⟨g1,hr⟩:=DT.run_guard_some hr;obtain⟨g2,hr⟩:=DT.run_guard_some hr;obtain⟨g3,hr⟩:=DT.run_guard_some hr;exact⟨_,.cons (c.ok _ a h1 g1) (.cons (d.ok _ b h2 g2) (.cons (e.ok _ g h3 g3) .nil)),h a b g r hr⟩
 ·cases hr
end
inductive Stp (σ:Type) where
 |fail
 |next (s:σ)
 |exit (t:Nat)
@[reducible] def Xb3{σ α:Type}(f:σ->α)(x:Nat->α)(z:α)(r:Stp σ):α:=Stp.rec (motive:=λ_=>α) z f x r
def lp0{σ:Type}(step:σ->Stp σ)(n:Nat):σ->Nat×σ :=
 Nat.rec (motive:=λ_=>σ->Nat×σ) (λs=>Xb3 (λ_=>(0,s)) (λt=>(t,s)) (0,s) (step s))
  (λ_ ih s=>Xb3 (λs'=>ih s') (λt=>(t,s)) (0,s) (step s)) n
def lpS:{ f:(σ:Type)->(σ->Stp σ)->Nat->σ->Nat×σ // f=λ_=>lp0 }:=Classical.choice ⟨⟨_,rfl⟩⟩
def rounds:Nat:=18446744073709551615
def lp{σ:Type}(step:σ->Stp σ)(s:σ):Nat×σ:=lpS.1 σ step rounds s
theorem We8{σ:Type}(step:σ->Stp σ)(s:σ):lp step s=lp0 step rounds s:=by
 unfold lp;rw[lpS.2]
theorem Id5{σ:Type}{step:σ->Stp σ}{n:Nat}{s s':σ}(h:step s=.next s'):lp0 step (n+1) s=lp0 step n s':=by
 show Xb3 (λs'=>lp0 step n s') _ _ (step s)=_
 rw[h]
theorem Id6{σ:Type}{step:σ->Stp σ}{n t:Nat}{s:σ}(h:step s=.exit t):lp0 step n s=(t,s):=by
 cases n with
 |zero=>show Xb3 _ _ _ (step s)=_;rw[h]
 |succ n=>show Xb3 _ _ _ (step s)=_;rw[h]
inductive Sk where
 |unk
 |u
 |nil
 |bool
 |int (k:IntKind)
 |lit (k:IntKind) (n:Int)
 |blit (x:Bool)
 |tree (es:Nat)
 |ptr (id i c g:Nat)
 |sl (id g:Nat) (off n:Option Nat)
 |fn (f:Nat)
 |val
def toV:a7->Value
 |.v x=>x
 |_=>.tuple #[]
def Y8:a7->ByteArray
 |.v (.string s)=>s
 |_=>⟨#[]⟩
def slO:a7->Nat
 |.sl _ off _ _=>off
 |_=>0
def slN:a7->Nat
 |.sl _ _ n _=>n
 |_=>0
@[reducible] def oN(o:Option Nat)(x:Nat):Nat:=Option.rec (motive:=λ_=>Nat) x (λy=>y) o
@[reducible] def okN(o:Option Nat)(x:Nat):Bool:=Option.rec (motive:=λ_=>Bool) true (λy=>Nat.beq y x) o
def Me0:Sk->a7->Bool
 |.unk,.unk=>true
 |.u,.v (.tuple a)=>List.rec (motive:=λ_=>Bool) true (λ_ _ _=>false) a.toList
 |.nil,.v (.slice none 0 0)=>true
 |.bool,.v (.bool _)=>true
 |.int k,.v (.int k' _)=>decide (k=k')
 |.lit k n,.v (.int k' m)=>Bool.and (decide (k=k')) (decide (n=m))
 |.blit x,.v (.bool y)=>Bool.rec (!y) y x
 |.tree es,.tree es' _ _=>Nat.beq es es'
 |.ptr id i c g,.ptr id' i' c' g'=>Bool.and (Bool.and (Nat.beq id id') (Nat.beq i i')) (Bool.and (Nat.beq c c') (Nat.beq g g'))
 |.sl id g off n,.sl id' off' n' g'=>Bool.and (Bool.and (Nat.beq id id') (Nat.beq g g')) (Bool.and (okN off off') (okN n n'))
 |.fn f,.fn f' []=>Nat.beq f f'
 |.val,.v (.string _)=>true
 |_,_=>false
def bf6:Sk->a7->a7
 |.unk,_=>.unk
 |.u,_=>.v (.tuple #[])
 |.nil,_=>.v (.slice none 0 0)
 |.bool,x=>.v (.bool (toB x))
 |.int k,x=>.v (.int k (toI x))
 |.lit k n,_=>.v (.int k n)
 |.blit y,_=>.v (.bool y)
 |.tree es,x=>.tree es (toN x) (toG x)
 |.ptr id i c g,_=>.ptr id i c g
 |.sl id g off n,x=>.sl id (oN off (slO x)) (oN n (slN x)) g
 |.fn f,_=>.fn f []
 |.val,x=>.v (.string (Y8 x))
theorem We9{o:Option Nat}{x:Nat}(h:okN o x=true):oN o x=x:=by
 cases o with
 |none=>rfl
 |some y=>exact Qad h
theorem be9{k:Sk}{x:a7}(h:Me0 k x=true):x=bf6 k x:=by
 unfold Me0 at h
 split at h<;>first | rfl | (cases h;done) | skip
 ·rename_i a;obtain⟨l⟩:=a;cases l with
  |nil=>rfl
  |cons=>cases h
 ·rw[of_decide_eq_true h];rfl
 ·simp only[Qas,decide_eq_true_eq] at h;rw[h.1,h.2];rfl
 ·rename_i a c;cases a<;>cases c<;>first | rfl | cases h
 ·rw[Qad h];rfl
 ·simp only[Qas] at h;obtain⟨⟨h1,h2⟩,h3,h4⟩:=h;rw[Qad h1,Qad h2,Qad h3,Qad h4];rfl
 ·rename_i id g off n id' off' n' g';simp only[Qas] at h;obtain⟨⟨h1,h2⟩,h3,h4⟩:=h;rw[<- Qad h1,<- Qad h2];show a7.sl id off' n' g=.sl id (oN off off') (oN n n') g;rw[We9 h3,We9 h4]
 ·rw[Qad h];rfl
inductive Sl where
 |s (k:Sk)
 |agg (l:List Sk)
 |tup (l:List Sk)
 |fn (f:Nat) (l:List Sk)
def cellsOf:a7->List a7
 |.agg l=>l
 |.tup l=>l
 |.fn _ l=>l
 |_=>[]
@[reducible] def hdR(l:List (List a7)):List a7:=List.rec (motive:=λ_=>List a7) [] (λx _ _=>x) l
@[reducible] def tlR(l:List (List a7)):List (List a7):=List.rec (motive:=λ_=>List (List a7)) [] (λ_ r _=>r) l
structure Bk where
 et:Nat
 es:Nat
 own:Bool
 rows:Option (List (List Sk))
@[reducible] def eqB(a c:Bool):Bool:=Bool.rec (!c) c a
@[reducible] def hdB(l:List b7):List (List a7):=List.rec (motive:=λ_=>List (List a7)) [] (λx _ _=>x.elems) l
@[reducible] def tlB(l:List b7):List b7:=List.rec (motive:=λ_=>List b7) [] (λ_ r _=>r) l
inductive Ka2 {α:Type} (P:α->Prop):List α->Prop
 |nil:Ka2 P []
 |cons {x:α} {l:List α} (h:P x) (t:Ka2 P l):Ka2 P (x::l)
theorem Ka2.mem{α:Type}{P:α->Prop}{l:List α}(h:Ka2 P l):∀x,x∈l->P x:=by
 induction h with
 |nil=>intro x h;cases h
 |cons h t ih =>
  simp_all
structure Alt(π σ:Type) where
 sh:List Sl
 bl:List Bk
 rd:List a7->List b7->π×σ
def ra(n:Nat)(l:List a7):List a7:=Nat.rec (motive:=λ_=>List a7) l (λ_ ih=>.unk::ih) n
def ru(n:Nat)(l:List Sl):List Sl:=Nat.rec (motive:=λ_=>List Sl) l (λ_ ih=>.s .unk::ih) n
def bf7(k:Nat)(res:List Dc5)(s:St):DT (a7×List b7) :=
 match fb6 (gb2 s.a s.H) res with
 |some l=>Vb9 k s.H (Cb3 l)
 |none=>.fail
def cut(k:Nat)(res:List Dc5)(r:d8×St):DT (d8×St) :=
 d8.rec (motive:=λ_=>DT (d8×St)) (.ret (.normal,r.2)) (λid=>.ret (.exit id,r.2)) ((bf7 k res r.2).bind λq=>.ret (.ret,⟨[q.1],q.2⟩)) r.1
def ce0(E:Env)(k:Nat)(res:List Dc5)(c:PS):St->DT (d8×St) :=
 PS.rec (motive:=λ_=>St->DT (d8×St))
  (λc s=>(E2 E k c s).bind (cut k res))
  (λ_ _ x y s=>(x s).bind λr=>d8.rec (motive:=λ_=>DT (d8×St)) (y r.2) (λid=>.ret (.exit id,r.2)) (.ret (.ret,r.2)) r.1)
  (λc _ _ x y s=>match b8 E s.a c with
   |.v (.bool b)=>.ite b (x s) (y s)
   |_=>.fail)
  (λid _ x s=>(x s).bind λr=>d8.rec (motive:=λ_=>DT (d8×St)) (.ret (.normal,r.2))
   (λid'=>Bool.rec (.ret (.exit id',r.2)) (.ret (.normal,r.2)) (Nat.beq id' id)) (.ret (.ret,r.2)) r.1)
  (λkeep _ x=>Ub2 (λs=>tidy k ⟨N7 keep s.a 0,s.H⟩) x E.N)
  (λS=>S) c
section
variable{k:Nat}{res:List Dc5}
inductive FR (k:Nat) (res:List Dc5):d8×St->d8×St->Prop
 |same (x:d8) (s:St) (h:x≠.ret):FR k res (x,s) (x,s)
 |ret (s:St) (q:a7×List b7) (h:(bf7 k res s).run=some q):FR k res (.ret,⟨[q.1],q.2⟩) (.ret,s)
def Y9(k:Nat)(res:List Dc5)(x y:DT (d8×St)):Prop:=∀r,x.run=some r->∃r',y.run=some r'/\FR k res r r'
theorem Y9.bind{x y:DT (d8×St)}{f g:d8×St->DT (d8×St)}(h:Y9 k res x y)(hf:∀r r',FR k res r r'->Y9 k res (f r) (g r')):Y9 k res (x.bind f) (y.bind g):=λr hr=>by
 obtain⟨a,h1,h2⟩:=DT.run_bind_some hr;obtain⟨a',h3,h4⟩:=h a h1;obtain⟨r',h5,h6⟩:=hf a a' h4 r h2;exact⟨r',by rw[DT.run_bind,h3];exact h5,h6⟩
theorem Y9.ite{b:Bool}{x y x' y':DT (d8×St)}(h:Y9 k res x x')(h':Y9 k res y y'):Y9 k res (.ite b x y) (.ite b x' y'):=λr hr=>by
 rw[DT.run_ite] at hr;rw[DT.run_ite]
 split at hr
 ·next hb=>simpa [hb] using h r hr
 ·next hb=>simpa [hb] using h' r hr
theorem Y9.one{r r':d8×St}(h:FR k res r r'):Y9 k res (.ret r) (.ret r'):=λa ha=>by
 cases ha;exact⟨r',rfl,h⟩
theorem Y9.cut(x:DT (d8×St)):Y9 k res (x.bind (cut k res)) x:=λr hr=>by
 obtain⟨⟨a,s⟩,h1,h2⟩:=DT.run_bind_some hr;refine⟨(a,s),h1,?_⟩;cases a with
 |normal=>cases h2;exact .same _ _ (λh=>by cases h)
 |exit id=>cases h2;exact .same _ _ (λh=>by cases h)
 |ret =>
  obtain⟨q,h3,h4⟩:=DT.run_bind_some h2;cases h4;exact .ret s q h3
theorem Xb4{head:St->DT St}{body body':St->DT (d8×St)}(h:∀s,Y9 k res (body s) (body' s)):∀n s,Y9 k res (Ub2 head body n s) (Ub2 head body' n s)
 |0,s=>λr hr=>by cases hr
 |n+1,s=>by
  intro r hr;obtain⟨t,h1,h2⟩:=DT.run_bind_some hr
  have:Y9 k res ((body t).bind λr=>d8.rec (motive:=λ_=>DT (d8×St)) (Ub2 head body n r.2) (λid=>.ret (.exit id,r.2)) (.ret (.ret,r.2)) r.1) ((body' t).bind λr=>d8.rec (motive:=λ_=>DT (d8×St)) (Ub2 head body' n r.2) (λid=>.ret (.exit id,r.2)) (.ret (.ret,r.2)) r.1):=by
   refine (h t).bind λa a' ha=>?_
   cases ha with
   |same x s hx =>
    cases x with
    |normal=>exact Xb4 h n s
    |exit id=>exact .one (.same _ _ hx)
    |ret=>exact absurd rfl hx
   |ret s q hq=>exact .one (.ret s q hq)
  obtain⟨r',h3,h4⟩:=this r h2;refine⟨r',?_,h4⟩;show ((head s).bind λs=>(body' s).bind _).run=_
  rw[DT.run_bind,h1];exact h3
inductive na6 (E:Env) (k:Nat) (res:List Dc5):PS->PC->Prop
 |pc (c:PC):na6 E k res (.pc c) c
 |seq {a b:PS} {a' b':PC} (h:na6 E k res a a') (h':na6 E k res b b'):na6 E k res (.seq a b) (.seq a' b')
 |cond (c:Arg) {a b:PS} {a' b':PC} (h:na6 E k res a a') (h':na6 E k res b b'):na6 E k res (.cond c a b) (.cond c a' b')
 |block (id:Nat) {a:PS} {a':PC} (h:na6 E k res a a'):na6 E k res (.block id a) (.block id a')
 |loop (keep:List Nat) {a:PS} {a':PC} (h:na6 E k res a a'):na6 E k res (.loop keep a) (.loop keep a')
 |sum {S:St->DT (d8×St)} {c:PC} (h:∀s,Y9 k res (S s) (E2 E k c s)):na6 E k res (.sum S) c
theorem na6.le{E:Env}{a:PS}{c:PC}(h:na6 E k res a c):∀s,Y9 k res (ce0 E k res a s) (E2 E k c s):=by
 induction h with
 |pc c=>exact λs=>.cut _
 |seq h h' ih ih' =>
  intro s;refine (ih s).bind λr r' hr=>?_
  cases hr with
  |same x s hx =>
   cases x with
   |normal=>exact ih' s
   |exit id=>exact .one (.same _ _ hx)
   |ret=>exact absurd rfl hx
  |ret s q hq=>exact .one (.ret s q hq)
 |cond c h h' ih ih' =>
  intro s;show Y9 k res (match b8 E s.a c with | .v (.bool b)=>_ | _=>_) (match b8 E s.a c with | .v (.bool b)=>_ | _=>_)
  split
  ·exact .ite (ih s) (ih' s)
  ·exact λr hr=>by cases hr
 |block id h ih =>
  intro s;refine (ih s).bind λr r' hr=>?_
  cases hr with
  |same x s hx =>
   cases x with
   |normal=>exact .one (.same _ _ λh=>by cases h)
   |exit id' =>
    show Y9 k res (Bool.rec (.ret (.exit id',s)) (.ret (.normal,s)) (Nat.beq id' id)) (Bool.rec (.ret (.exit id',s)) (.ret (.normal,s)) (Nat.beq id' id));cases Nat.beq id' id with
    |false=>exact .one (.same _ _ hx)
    |true=>exact .one (.same _ _ λh=>by cases h)
   |ret=>exact absurd rfl hx
  |ret s q hq=>exact .one (.ret s q hq)
 |loop keep h ih=>exact λs=>Xb4 ih _ s
 |sum h=>exact h
end
def bf8(E:Env)(fn:PFn)(body:PS)(args:List a7)(blks:List b7):DT (a7×List b7) :=
 (ce0 E (len blks) fn.res body ⟨app args (List.replicate (fn.ntmps-len args) (.v (.tuple #[]))),blks⟩).bind λr =>
  d8.rec (motive:=λ_=>DT (a7×List b7)) (bf7 (len blks) fn.res r.2) (λ_=>.fail) (.ret (hdA r.2.a,r.2.H)) r.1
theorem Ud1{E:Env}{fn:PFn}{body:PS}{args:List a7}{blks:List b7}(h:na6 E (len blks) fn.res body fn.body):U3 (bf8 E fn body args blks) (Mc2 E fn args blks):=λr hr=>by
 obtain⟨a,h1,h2⟩:=DT.run_bind_some hr;obtain⟨a',h3,h4⟩:=h.le _ a h1;show ((E2 E (len blks) fn.body _).bind _).run=_;rw[DT.run_bind,h3];cases h4 with
 |same x s hx =>
  cases x with
  |normal=>exact h2
  |exit id=>cases h2
  |ret=>exact absurd rfl hx
 |ret s q hq =>
  cases h2;exact hq
theorem ALe.nilTree(es:Nat)(get:Nat->List a7):ALe (.v (.slice none 0 0)) (.tree es 0 get):=λρ H F w v h=>by
 have:=V8 h
 subst this;exact .val (.cell (.mem (.nil es get)))
theorem ALe.emptyTree(es:Nat)(get:Nat->List a7)(a:Addr)(c:Nat):ALe (.v (.slice (some a) 0 c)) (.tree es 0 get):=λρ H F w v h=>by
 have:=V8 h
 subst this;exact .val (.cell (.mem (.tree es 0 get a c (λ_ _=>.tuple #[]) (λh=>absurd h (by omega)) (Qbw _) (λi h=>absurd h (by omega)) (λi c h=>absurd h (by omega)) (λi c h=>absurd h (by omega)) (λi c h=>absurd h (by omega)))))
section
variable{α:Type}{row:α->List a7}{isr:List a7->Bool}{rd:List a7->α}{d:α}
theorem ue5{β:Type}(f:α->β)(l:List α):len (m8 f l)=l.length:=by rw[j8,j7,List.length_map]
theorem Id7(row:α->List a7)(d:α){l:List α}{k:Nat}(h:k<l.length):j9 (m8 row l) k=row (l.getD k d):=by
 unfold j9;rw[B0,j7,Qbe,Qda,Qaa h];rfl
theorem ue6(row:α->List a7)(l r:List α):app (m8 row l) (m8 row r)=m8 row (l++r):=by
 rw[J0,j7,j7,j7,List.map_append]
theorem Ud2(row:α->List a7)(l:List α)(k:Nat)(x:α):setAt (m8 row l) k (row x)=m8 row (l.set k x):=by
 rw[B1,j7,j7,List.map_set]
end
section
variable{α β γ δ ε ζ:Type}
variable{P:Program}{G:Nat->List Value}{f:FuncId}{R:Sum}{c:Cod α}{d:Cod β}{e:Cod γ}{c4:Cod δ}{c5:Cod ε}{c6:Cod ζ}
end
section
variable{W:Nat->Prop}{ρ:Rho}{H H':List b7}{F:Fz}{w:World}
def wa2(H:List b7):a7->Option (a7×List b7)
 |.agg cs=>match freezeCells H cs with
  |some (zs,H')=>some (.agg zs,H')
  |none=>none
 |x=>freezeCell H x
theorem cd5(hH:C1 W ρ H F w){y z:a7}{y':Value}(hy:da6 ρ H F w y y')(he:wa2 H y=some (z,H')) :
  ∃F',Adv W ρ H F w ρ H' F' w/\C1 W ρ H' F' w/\∀ρ2 H2 F2,(∀b o,F' b o->F2 b o)->da6 ρ2 H2 F2 w z y':=by
 have cell:∀{y:a7},U2 ρ H F w y y'->freezeCell H y=some (z,H')->∃F',Adv W ρ H F w ρ H' F' w/\C1 W ρ H' F' w/\∀ρ2 H2 F2,(∀b o,F' b o->F2 b o)->da6 ρ2 H2 F2 w z y':=λ{y} hy he=>by
  obtain⟨F',h1,h2,h3,_⟩:=jc5 hH hy he;exact⟨F',h1,h2,λρ2 H2 F2 hF=>.cell (.mem (h3.adv hF λ_ _ _=>rfl))⟩
 cases y with
 |agg cs =>
  simp only[wa2] at he;cases hf:freezeCells H cs with
  |none=>rw[hf] at he;cases he
  |some q =>
   obtain⟨zs,H1⟩:=q;rw[hf] at he;have he:some (a7.agg zs,H1)=some (z,H'):=he;injection he with he;injection he with e1 e2
   subst e1 e2;obtain⟨vs,rfl,hl,hr⟩:=qa3 (.val hy);obtain⟨F',h1,h2,h3,h4,_⟩:=qb1 hH (vs:=vs.toList) (by simpa using hl) (λi y y' h h'=>hr i y y' h (by simpa using h')) hf
   refine⟨F',h1,h2,λρ2 H2 F2 hF=>.agg _ _ (by simpa [h3] using hl) λi x x' hx hx'=>.mem ((h4 i x x' hx (by simpa using hx')).adv hF λ_ _ _=>rfl)⟩
 |v u=>cases hy with | cell h=>exact cell h he
 |tree es n get=>cases hy with | cell h=>exact cell h he
 |sl id off n g=>cases hy with | cell h=>exact cell h he
 |ptr id i c g=>cases he
 |tptr cs=>cases he
 |unk=>cases he
 |tup l=>cases he
 |fn f caps =>
  cases hy with
  |cell h=>exact cell h he
  |fn f caps vs hl h =>
   have he':freezeCell H (.fn f caps)=some (z,H'):=he;simp only[freezeCell] at he';cases hb:Ga9 rc3 caps with
   |false=>simp[hb] at he'
   |true =>
    simp only[hb] at he';injection he' with he';injection he' with e1 e2
    subst e1 e2;have hm:=be2 (f:=f) hl h hb;exact⟨F,.refl,hH,λρ2 H2 F2 hF=>.cell (.mem (hm.adv hF λ_ _ _=>rfl))⟩
def Ua7(H:List b7):List a7->Option (List a7×List b7)
 |[]=>some ([],H)
 |x::r=>match wa2 H x with
  |some (y,H1)=>match Ua7 H1 r with
   |some (l,H2)=>some (y::l,H2)
   |none=>none
  |none=>none
theorem Mc9:∀{ys zs:List a7} {vs:List Value} {H H':List b7} {F:Fz},C1 W ρ H F w->ys.length=vs.length->(∀(i:Nat) y y',ys[i]?=some y->vs[i]?=some y'->da6 ρ H F w y y')->Ua7 H ys=some (zs,H') ->
  ∃F',Adv W ρ H F w ρ H' F' w/\C1 W ρ H' F' w/\zs.length=ys.length/\∀(i:Nat) z y',zs[i]?=some z->vs[i]?=some y'->∀ρ2 H2 F2,(∀b o,F' b o->F2 b o)->da6 ρ2 H2 F2 w z y'
 |[],zs,vs,H,H',F,hH,hl,hy,he=>by
  injection he with he;injection he with e1 e2
  subst e1 e2;exact⟨F,.refl,hH,rfl,λi z y' h=>by simp at h⟩
 |y::r,zs,[],H,H',F,hH,hl,hy,he=>by simp at hl
 |y::r,zs,v::vs,H,H',F,hH,hl,hy,he=>by
  simp only[Ua7] at he;cases h1:wa2 H y with
  |none=>rw[h1] at he;cases he
  |some q =>
  obtain⟨z,H1⟩:=q;rw[h1] at he;cases h2:Ua7 H1 r with
  |none=>simp only[h2] at he;cases he
  |some q2 =>
  obtain⟨zs2,H2⟩:=q2;simp only[h2] at he;injection he with he;injection he with e1 e2
  subst e1 e2;obtain⟨F1,a1,a2,a3⟩:=cd5 hH (hy 0 y v rfl rfl) h1;obtain⟨F2,b1,b2,b3,b4⟩:=Mc9 (ys:=r) (vs:=vs) a2 (by simpa using hl) (λi y y' hy1 hy2=>(hy (i+1) y y' (by simpa using hy1) (by simpa using hy2)).adv a1) h2
  refine⟨F2,a1.trans b1,b2,by simp[b3],λi z' y' hz hy'=>?_⟩
  cases i with
  |zero =>
   simp at hz hy'
   subst hz hy';exact λρ3 H3 F3 hF=>a3 ρ3 H3 F3 λb o hb=>hF b o (b1.more b o hb)
  |succ i=>exact b4 i z' y' (by simpa using hz) (by simpa using hy')
def Xb5(H:List b7):a7->Option a7
 |.tup l=>match Ua7 H l with
  |some (zs,_)=>some (.tup zs)
  |none=>none
 |x=>match wa2 H x with
  |some (z,_)=>some z
  |none=>none
theorem C1.less(hH:C1 W ρ H F w):C1 W ρ [] F w:=⟨λid b h=>by simp at h,λid id' b b' h=>by simp at h,hH.frz,hH.new⟩
theorem Adv.less{ρ':Rho}{F':Fz}{w':World}(h:Adv W ρ [] F w ρ' H' F' w'):Adv W ρ [] F w ρ' [] F' w' :=
 ⟨h.ext,λid b hb=>by simp at hb,h.more,h.new,λid b hb=>by simp at hb⟩
theorem ke8{out:List b7}{x z:a7}{x':Value}{w':World}(hp:J6 W ρ [] F w x out x' w')(he:Xb5 out x=some z):J6 W ρ [] F w z [] x' w':=by
 obtain⟨ρ',F',h1,h2,h3⟩:=hp;have one:∀{y:a7},da6 ρ' out F' w' y x'->(match wa2 out y with | some (z,_)=>some z | none=>none)=some z->J6 W ρ [] F w z [] x' w':=λ{y} hy he=>by
  cases hf:wa2 out y with
  |none=>rw[hf] at he;cases he
  |some q =>
   obtain⟨z1,H1⟩:=q;rw[hf] at he;have he:some z1=some z:=he;injection he with he;subst he;obtain⟨F2,a1,a2,a3⟩:=cd5 h2 hy hf;exact⟨ρ',F2,(h1.trans a1).less,a2.less,.val (a3 _ _ _ λ_ _ h=>h)⟩
 cases h3 with
 |val h =>
  cases x with
  |tup l=>cases h with | cell h=>cases h with | mem h=>cases h
  |_=>exact one h he
 |tup xs vs hl h =>
  simp only[Xb5] at he;cases hf:Ua7 out xs with
  |none=>rw[hf] at he;cases he
  |some q =>
   obtain⟨zs,H1⟩:=q;rw[hf] at he;have he:some (a7.tup zs)=some z:=he;injection he with he;subst he;obtain⟨F2,a1,a2,a3,a4⟩:=Mc9 (vs:=vs.toList) h2 (by simpa using hl) (λi y y' hy hy'=>h i y y' hy (by simpa using hy')) hf
   exact⟨ρ',F2,(h1.trans a1).less,a2.less,.tup _ _ (by simpa [a3] using hl) λi x x' hx hx'=>a4 i x x' hx (by simpa using hx') _ _ _ λ_ _ h=>h⟩
theorem J6.le{out:List b7}{x y:a7}{x':Value}{w':World}(hp:J6 W ρ H F w x out x' w')(h:ALe x y):J6 W ρ H F w y out x' w':=by
 obtain⟨ρ',F',h1,h2,h3⟩:=hp;exact⟨ρ',F',h1,h2,h _ _ _ _ _ h3⟩
end
def cd6(x:a7)(out:List b7)(y:a7):Prop:=∃z,Xb5 out x=some z/\ALe z y
theorem d9.conv{P:Program}{G:Nat->List Value}{f:FuncId}{S S':Sum}(h:d9 P G f S)
  (hr:∀args blks y out,(S' args blks).run=some (y,out)->blks=[]/\out=[]/\∃x o,(S args []).run=some (x,o)/\cd6 x o y):d9 P G f S':=by
 intro args blks y out he W ρ F w args' hH hlen hargs hG;obtain⟨rfl,rfl,x,o,h1,z,h2,h3⟩:=hr args blks y out he;obtain⟨h4,h5⟩:=h args [] x o h1 W ρ F w args' hH hlen hargs hG;exact⟨h4,h5.mono λe w' ⟨r',h6,h7⟩=>⟨r',h6,(ke8 h7 h2).le h3⟩⟩
section
variable{α β γ:Type}{P:Program}{G:Nat->List Value}{f:FuncId}{c:Cod α}{d:Cod β}{e:Cod γ}
theorem ke9{k k':DT (a7×List b7)}(h:d9 P G f (Ud0 k))(hk:∀y out,k'.run=some (y,out)->out=[]/\∃x o,k.run=some (x,o)/\cd6 x o y):d9 P G f (Ud0 k'):=h.conv λargs blks y out hr=>by
 unfold Ud0 at hr
 split at hr
 ·obtain⟨e1,e2⟩:=hk y out hr;exact⟨rfl,e1,e2⟩
 ·cases hr
theorem le0{k k':α->DT (a7×List b7)}(h:d9 P G f (L6 c k))(hk:∀a y out,(k' a).run=some (y,out)->out=[]/\∃x o,(k a).run=some (x,o)/\cd6 x o y):d9 P G f (L6 c k'):=h.conv λargs blks y out hr=>by
 unfold L6 at hr
 split at hr
 ·obtain⟨a,h1,hr⟩:=na5 hr;obtain⟨g1,hr⟩:=DT.run_guard_some hr;obtain⟨e1,x,o,e2,e3⟩:=hk a y out hr;refine⟨rfl,e1,x,o,?_,e3⟩;simp only[L6,h1,onO,g1];exact e2
 ·cases hr
theorem le1{k k':α->β->DT (a7×List b7)}(h:d9 P G f (Ha5 c d k))(hk:∀a b y out,(k' a b).run=some (y,out)->out=[]/\∃x o,(k a b).run=some (x,o)/\cd6 x o y):d9 P G f (Ha5 c d k'):=h.conv λargs blks y out hr=>by
 unfold Ha5 at hr
 split at hr
 ·obtain⟨a,h1,hr⟩:=na5 hr;obtain⟨b,h2,hr⟩:=na5 hr;obtain⟨g1,hr⟩:=DT.run_guard_some hr;obtain⟨g2,hr⟩:=DT.run_guard_some hr;obtain⟨e1,x,o,e2,e3⟩:=hk a b y out hr;refine⟨rfl,e1,x,o,?_,e3⟩;simp only[Ha5,h1,h2,onO,g1,g2];exact e2
 ·cases hr
theorem le2{k k':α->β->γ->DT (a7×List b7)}(h:d9 P G f (Ub4 c d e k))(hk:∀a b g y out,(k' a b g).run=some (y,out)->out=[]/\∃x o,(k a b g).run=some (x,o)/\cd6 x o y):d9 P G f (Ub4 c d e k'):=h.conv λargs blks y out hr=>by
 unfold Ub4 at hr
 split at hr
 ·obtain⟨a,h1,hr⟩:=na5 hr;obtain⟨b,h2,hr⟩:=na5 hr;obtain⟨g,h3,hr⟩:=na5 hr;obtain⟨g1,hr⟩:=DT.run_guard_some hr;obtain⟨g2,hr⟩:=DT.run_guard_some hr;obtain⟨g3,hr⟩:=DT.run_guard_some hr;obtain⟨e1,x,o,e2,e3⟩:=hk a b g y out hr;refine⟨rfl,e1,x,o,?_,e3⟩;simp only[Ub4,h1,h2,h3,onO,g1,g2,g3];exact e2
 ·cases hr
end
theorem ALe.tup{xs ys:List a7}(hl:xs.length=ys.length)(h:∀(i:Nat) x y,xs[i]?=some x->ys[i]?=some y->∀ρ H F w v,da6 ρ H F w x v->da6 ρ H F w y v):ALe (.tup xs) (.tup ys):=λρ H F w v hv=>by
 cases hv with
 |val hv=>cases hv with | cell hv=>cases hv with | mem hv=>cases hv
 |tup _ vs hl2 hv =>
  refine .tup _ _ (hl ▸ hl2) λi y v' hy hv'=>?_
  grind
theorem da6.treeLe{es n:Nat}{get get':Nat->List a7}(he:∀k,k<n->get' k=get k){ρ:Rho}{H:List b7}{F:Fz}{w:World}{v:Value}(h:da6 ρ H F w (.tree es n get) v):da6 ρ H F w (.tree es n get') v :=
 .cell (.mem ((ra1 (.val h)).get he))
end Go.Ev
namespace Go.Ev.L
open Go Go.Ev
def cl(p:Prop):Bool:=@decide p (Classical.propDecidable p)
theorem Me1{p:Prop}(h:p):cl p=true:=@decide_eq_true _ (Classical.propDecidable p) h
theorem Xe0{p:Prop}(h:cl p=true):p:=@of_decide_eq_true _ (Classical.propDecidable p) h
def sl{α:Type}(c:Bool)(t e:α):α:=Bool.rec (motive:=λ_=>α) e t c
theorem g7{α:Type}(t e:α):sl true t e=t:=rfl
theorem Jb0{α:Type}(t e:α):sl false t e=e:=rfl
theorem pc5{α:Type}(c:Bool)(t e:α):sl c t e=if c=true then t else e:=by cases c<;>rfl
theorem ue7{α β:Type}{f:α->β}{c:Bool}{A B:α}{a b:β}(hA:f A=a)(hB:f B=b):f (sl c A B)=sl c a b:=by cases c<;>assumption
structure CLe(x y:a7):Prop where
 m:∀F w v,Y7 F w x v->Y7 F w y v
 c:∀ρ H F w v,U2 ρ H F w x v->U2 ρ H F w y v
theorem CLe.refl(x:a7):CLe x x:=⟨λ_ _ _ h=>h,λ_ _ _ _ _ h=>h⟩
theorem CLe.of{x y:a7}(h:x=y):CLe x y:=h ▸ .refl x
inductive Xb6:List a7->List a7->Prop
 |nil:Xb6 [] []
 |cons {x y l r} (h:CLe x y) (t:Xb6 l r):Xb6 (x::l) (y::r)
theorem Xb6.refl:∀l,Xb6 l l
 |[]=>.nil
 |x::l=>.cons (.refl x) (Xb6.refl l)
theorem Xb6.of{l r:List a7}(h:l=r):Xb6 l r:=h ▸ .refl l
theorem Xb6.length{l r}(h:Xb6 l r):l.length=r.length:=by induction h<;>simp_all
theorem Xb6.get{l r}(h:Xb6 l r):∀(i:Nat) y,r[i]?=some y->∃x,l[i]?=some x/\CLe x y:=by
 induction h with
 |nil=>intro i y hy;simp at hy
 |cons h t ih =>
  grind
theorem ue8{F:Fz}{w:World}{es n:Nat}{get get':Nat->List a7}{v:Value}(h:Y7 F w (.tree es n get) v)(he:∀k,k<n->Xb6 (get k) (get' k)):Y7 F w (.tree es n get') v:=by
 cases h with
 |tree _ _ _ a cap cs hs hcap hes hF hw hr =>
  refine .tree es n get' a cap cs hs hcap (λi hi=>by rw[<- (he i hi).length];exact hes i hi) hF hw (λi c hi hc=>?_)
  obtain⟨x,hx,hle⟩:=(he i hi).get c _ (Qaa hc);have hc':c<(get i).length:=(Qab.1 hx).1
  have:=hr i c hi hc'
  have e:(get i)[c]=x:=by
   grind
  rw[e] at this;exact hle.m _ _ _ this
 |nil=>exact .nil _ _
theorem CLe.tree{es n:Nat}{get get':Nat->List a7}(he:∀k,k<n->Xb6 (get k) (get' k)):CLe (.tree es n get) (.tree es n get') :=
 ⟨λ_ _ _ h=>ue8 h he,λ_ _ _ _ _ h=>by cases h with | mem h=>exact .mem (ue8 h he)⟩
theorem CLe.nilTree(es:Nat)(get:Nat->List a7):CLe (.v (.slice none 0 0)) (.tree es 0 get) :=
 ⟨λ_ _ _ h=>by cases h;exact .nil es get,λ_ _ _ _ _ h=>by cases h with
  |mem h=>cases h;exact .mem (.nil es get)
  |v=>exact .mem (.nil es get)⟩
theorem CLe.ale{x y:a7}(h:CLe x y)(hx:∀(ρ:Rho) H F w v,C9 ρ H F w x v->U2 ρ H F w x v):ALe x y:=λρ H F w v hv=>.val (.cell (h.c _ _ _ _ _ (hx ρ H F w v hv)))
theorem ALe.rows{es n:Nat}{get get':Nat->List a7}(he:∀k,k<n->Xb6 (get k) (get' k)):ALe (.tree es n get) (.tree es n get'):=λ_ _ _ _ _ h=>.val (.cell (.mem (ue8 (ra1 h) he)))
structure Ty(α:Type) where
 es:Nat
 row:α->List a7
 rd:List a7->α
 ok:List a7->Bool
 cks:List CK
 d:α
 h0:∀x,len (row x)=es
 h1:∀x,rd (row x)=x
 h2:∀x,ok (row x)=true
 h3:∀r,ok r=true->Xb6 r (row (rd r))
 h4:∀x,Ib3 cks (row x)=true
 h5:∀x,j5 (row x) 0=row x
section
variable{α:Type}(t:Ty α)
@[reducible] def gL(l:List α)(k:Nat):α:=l.getD k t.d
@[reducible] def eL(l:List α):a7:=.tree t.es l.length (λk=>t.row (gL t l k))
def lsL(n:Nat)(get:Nat->List a7):List α:=(List.range n).map λk=>t.rd (get k)
def okL(n:Nat)(get:Nat->List a7):Bool:=(List.range n).all λk=>t.ok (get k)
def rL(v:a7):List α:=lsL t (toN v) (toG v)
def nL(v:a7):a7:=eL t (rL t v)
def ue9(f:a7->a7)(x:a7):Bool:=cl (x=f x)
def rt(l:List α):List α:=rL t (eL t l)
def okE(l:List α):Bool:=okL t (toN (eL t l)) (toG (eL t l))
def cnE(l:List α):Bool:=ue9 (nL t) (eL t l)
def bL(l:List α):List (List a7):=m8 t.row l
def rdR(el:List (List a7))(j:Nat):α:=t.rd (j5 (j9 el j) 0)
def ldR(el:List (List a7))(j:Nat):Bool:=Bool.and (Bool.and (Nat.blt j (len el)) (Nat.ble (0+t.es) (len (j9 el j)))) (Ib3 t.cks (j5 (j9 el j) 0))
def slR(el:List (List a7))(off n:Nat):List α:=lsL t n λk=>j9 el (off+k)
def okS(el:List (List a7))(off n:Nat):Bool:=okL t n λk=>j9 el (off+k)
theorem ce1(n:Nat)(get:Nat->List a7):(lsL t n get).length=n:=by simp[lsL]
theorem ce2{n k:Nat}(get:Nat->List a7)(h:k<n):gL t (lsL t n get) k=t.rd (get k):=by
 simp[gL,lsL,Qda,Qbe,List.getElem?_range h]
theorem cd7{n:Nat}{get:Nat->List a7}{l:List α}(hn:n=l.length)(h:∀k,k<n->get k=t.row (gL t l k)):lsL t n get=l:=by
 apply List.ext_getElem
 ·simp[lsL,hn]
 ·intro k h1 h2;have hk:k<n:=by omega
  simp[lsL,h k hk,t.h1,gL,Qda,Qaa h2]
theorem Ob1{n:Nat}{get:Nat->List a7}{f:Nat->α}(h:∀k,k<n->get k=t.row (f k)):okL t n get=true:=by
 unfold okL;rw[Qcb];intro k hk;have hk:k<n:=by simpa using hk
 rw[h k hk];exact t.h2 _
theorem i8(l:List α):rt t l=l:=cd7 t rfl λ_ _=>rfl
theorem G3(l:List α):okE t l=true:=Ob1 t (f:=λk=>gL t l k) λ_ _=>rfl
theorem j6(l:List α):cnE t l=true:=Me1 (by unfold nL;rw[show rL t (eL t l)=l from i8 t l])
theorem Ob2(l:List α):len (bL t l)=l.length:=ue5 _ _
theorem za1{l:List α}{k:Nat}(h:k<l.length):j9 (bL t l) k=t.row (gL t l k):=Id7 t.row t.d h
theorem Ud3{l:List α}{k:Nat}(h:k<l.length):rdR t (bL t l) k=gL t l k:=by unfold rdR;rw[za1 t h,t.h5,t.h1]
theorem Ud4{l:List α}{k:Nat}(h:k<l.length):ldR t (bL t l) k=true:=by
 unfold ldR;rw[za1 t h,t.h5,t.h4,Ob2,t.h0,Qar,Bool.and_true]
 simp_all
theorem Xb7(l r:List α):app (bL t l) (bL t r)=bL t (l++r):=ue6 _ _ _
theorem yd6(l:List α):slR t (bL t l) 0 l.length=l:=cd7 t rfl λk hk=>by rw[Qar,za1 t hk]
theorem Ud5(l:List α):okS t (bL t l) 0 l.length=true:=Ob1 t (f:=λk=>gL t l k) λk hk=>by rw[Qar,za1 t hk]
theorem cd8(l:List α):m8 (λk=>t.row (gL t l k)) (List.range l.length)=bL t l:=by
 unfold bL;rw[j7,j7];apply List.ext_getElem
 ·simp
 simp_all
theorem Id8(l:List α)(k:Nat)(x:α):setAt (bL t l) k (t.row x)=bL t (l.set k x):=Ud2 _ _ _ _
theorem treeLe{n:Nat}{get:Nat->List a7}(h:okL t n get=true):CLe (.tree t.es n get) (eL t (lsL t n get)):=by
 unfold eL;rw[ce1];refine .tree λk hk=>?_
 rw[ce2 t get hk];exact t.h3 _ (Qcb.1 h k (by simpa using hk))
theorem ce3{n:Nat}{get:Nat->List a7}(h:okL t n get=true):ALe (.tree t.es n get) (eL t (lsL t n get)):=(treeLe t h).ale λ_ _ _ _ _ h=>.mem (ra1 h)
def db5:Cod (List α) where
 enc l:=eL t l
 dec x:=match x with
  |.tree e n get=>Bool.rec (motive:=λ_=>Option (List α)) none (some (lsL t n get)) (Nat.beq e t.es)
  |.v (.slice none 0 0)=>some []
  |.v (.slice (some _) 0 _)=>some []
  |_=>none
 grd x:=match x with
  |.tree _ n get=>okL t n get
  |_=>true
 ok x a hx hg:=by
  split at hx
  ·rename_i e n get;cases hb:Nat.beq e t.es with
   |false=>rw[hb] at hx;cases hx
   |true =>
    rw[hb] at hx;have hx:some (lsL t n get)=some a:=hx;injection hx with hx;subst hx
    have:=Qad hb
    subst this;exact ce3 t hg
  ·injection hx with hx;subst hx;exact .nilTree _ _
  ·injection hx with hx;subst hx;exact .emptyTree _ _ _ _
  ·cases hx
def hC(get:Nat->List a7):α:=t.rd (get 0)
def tC(n:Nat)(get:Nat->List a7):List α:=lsL t n λk=>get (k+1)
theorem ce4(a:α)(l:List α):hC t (λk=>t.row (gL t (a::l) k))=a:=t.h1 _
theorem ce5(a:α)(l:List α):tC t l.length (λk=>t.row (gL t (a::l) k))=l:=cd7 t rfl λk _=>rfl
theorem Id9(n:Nat)(get:Nat->List a7):lsL t (n+1) get=hC t get::tC t n get:=by
 unfold lsL hC tC lsL;rw[List.range_succ_eq_map];simp
def Jd0:Cod (α×List α) where
 enc x:=eL t (x.1::x.2)
 dec x:=match x with
  |.tree e (n+1) get=>Bool.rec (motive:=λ_=>Option (α×List α)) none (some (hC t get,tC t n get)) (Nat.beq e t.es)
  |_=>none
 grd x:=match x with
  |.tree _ n get=>okL t n get
  |_=>false
 ok x a hx hg:=by
  split at hx
  ·rename_i e n get;cases hb:Nat.beq e t.es with
   |false=>rw[hb] at hx;cases hx
   |true =>
    rw[hb] at hx;have hx:some (hC t get,tC t n get)=some a:=hx;injection hx with hx;subst hx
    have:=Qad hb
    subst this;show ALe _ (eL t (hC t get::tC t n get));rw[<- Id9];exact ce3 t hg
  ·cases hx
def Za5:Cod α where
 enc x:=.agg (t.row x)
 dec x:=match x with
  |.agg cs=>Bool.rec (motive:=λ_=>Option α) none (some (t.rd cs)) (t.ok cs)
  |_=>none
 grd _:=true
 ok x a hx _:=by
  split at hx
  ·rename_i cs;cases hb:t.ok cs with
   |false=>rw[hb] at hx;cases hx
   |true =>
    rw[hb] at hx;have hx:some (t.rd cs)=some a:=hx;injection hx with hx;subst hx;have h3:=t.h3 cs hb;intro ρ H F w v hv;obtain⟨vs,rfl,hl,hr⟩:=qa3 hv;refine .val (.agg _ _ (by rw[<- h3.length];exact hl) λi y v' hy hv'=>?_)
    obtain⟨x,hx,hle⟩:=h3.get i y hy;exact hle.c _ _ _ _ _ (hr i x v' hx hv')
  ·cases hx
end
def tLs{α:Type}(t:Ty α):Ty (List α) where
 es:=1
 row l:=[eL t l]
 rd r:=rL t (hdA r)
 ok r:=match r with
  |[.tree e n get]=>Bool.and (Nat.beq e t.es) (okL t n get)
  |[.v (.slice none 0 0)]=>true
  |_=>false
 cks:=[.sl t.es]
 d:=[]
 h0 _:=rfl
 h1 l:=i8 t l
 h2 l:=by
  show Bool.and (Nat.beq t.es t.es) (okL t l.length λk=>t.row (gL t l k))=true
  rw[Nat.beq_refl,Bool.true_and];exact Ob1 t (f:=λk=>gL t l k) λ_ _=>rfl
 h3 r h:=by
  split at h
  ·rename_i e n get;rw[Qas] at h
   have:=Qad h.1
   subst this;exact .cons (treeLe t h.2) .nil
  ·exact .cons (CLe.nilTree _ _) .nil
  ·cases h
 h4 l:=by
  show Bool.and (Nat.beq t.es t.es) true=true;rw[Nat.beq_refl];rfl
 h5 _:=rfl
def tI:Ty Int where
 es:=1
 row n:=[i n]
 rd r:=toI (hdA r)
 ok r:=match r with
  |[.v (.int .i64 _)]=>true
  |_=>false
 cks:=[.int .i64]
 d:=0
 h0 _:=rfl
 h1 _:=rfl
 h2 _:=rfl
 h3 r h:=by
  split at h
  ·exact .refl _
  ·cases h
 h4 _:=rfl
 h5 _:=rfl
def Za6(n:Nat)(l:List a7):Bool:=Nat.rec (motive:=λ_=>List a7->Bool)
 (λl=>List.rec (motive:=λ_=>Bool) true (λ_ _ _=>false) l)
 (λ_ ih l=>List.rec (motive:=λ_=>Bool) false (λx r _=>Bool.and (ic2 (.int .i64) x) (ih r)) l) n l
def ve0(n:Nat)(l:List a7):List a7:=Nat.rec (motive:=λ_=>List a7->List a7) (λ_=>[]) (λ_ ih l=>i (toI (hdA l))::ih (tlA l)) n l
theorem pb4:∀{n:Nat} {l:List a7},Za6 n l=true->l=ve0 n l
 |0,[],_=>rfl
 |0,x::r,h=>by cases h
 |n+1,[],h=>by cases h
 |n+1,x::r,h=>by
  have h:Bool.and (ic2 (.int .i64) x) (Za6 n r)=true:=h;rw[Qas] at h;show x::r=i (toI x)::ve0 n r;rw[<- pb4 h.2];have h1:=h.1;cases x with
  |v y=>cases y with
   |int k m =>
    have h1:decide (IntKind.i64=k)=true:=h1;rw[<- of_decide_eq_true h1];rfl
   |_=>cases h1
  |_=>cases h1
inductive Dis (H:List b7):List b7->Prop
 |refl:Dis H H
 |step {H'} (id:Nat) (h:Dis H H'):Dis H (disown H' id)
theorem uc1(H:List b7)(id j g:Nat):blkAt (disown H id) j g=(blkAt H j g).map λb=>if j=id then { b with own:=false } else b:=by
 unfold blkAt disown modAt;cases hb:nth H id with
 |none =>
  grind
 |some c =>
  simp only[B0,B1];by_cases h:j=id
  ·subst h;have hb':H[j]?=some c:=by rw[<- B0];exact hb
   grind
  grind
structure R1(ρ:Type) where
 enc:ρ->a7
 rd:List b7->a7->Option ρ
 d:ρ
 le:∀H x r,rd H x=some r->∃z H',wa2 H x=some (z,H')/\Dis H H'/\∀ρ' H2 F w v,da6 ρ' H2 F w z v->da6 ρ' H2 F w (enc r) v
 dis:∀H id x,rd (disown H id) x=rd H x
theorem R1.diss{ρ:Type}(R:R1 ρ){H H':List b7}(h:Dis H H')(x:a7):R.rd H' x=R.rd H x:=by
 induction h with
 |refl=>rfl
 |step id h ih=>rw[R.dis,ih]
theorem CLe.v{x y:a7}(h:CLe x y)(hx:∀(ρ:Rho) H F w v,da6 ρ H F w x v->U2 ρ H F w x v):∀ρ' H2 F w v,da6 ρ' H2 F w x v->da6 ρ' H2 F w y v:=λ_ _ _ _ _ hv=>.cell (h.c _ _ _ _ _ (hx _ _ _ _ _ hv))
def r1K(k:IntKind):R1 Int where
 enc n:=.v (.int k n)
 rd _ x:=match x with
  |.v (.int k' n)=>Bool.rec (motive:=λ_=>Option Int) none (some n) (decide (k=k'))
  |_=>none
 d:=0
 le H x r h:=by
  split at h
  ·rename_i k' n;cases hb:decide (k=k') with
   |false=>rw[hb] at h;cases h
   |true =>
    rw[hb] at h;have h:some n=some r:=h;injection h with h;subst h
    have:=of_decide_eq_true hb
    subst this;exact⟨_,H,rfl,.refl,λ_ _ _ _ _ h=>h⟩
  ·cases h
 dis _ _ _:=rfl
def r1I:R1 Int:=r1K .i64
def r1B:R1 Bool where
 enc n:=b n
 rd _ x:=match x with
  |.v (.bool n)=>some n
  |_=>none
 d:=false
 le H x r h:=by
  split at h
  ·injection h with h;subst h;exact⟨_,H,rfl,.refl,λ_ _ _ _ _ h=>h⟩
  ·cases h
 dis _ _ _:=rfl
theorem cd9(H:List b7):∀(n:Nat) (l:List a7),Za6 n l=true->freezeCells H l=some (l,H)
 |0,[],_=>rfl
 |0,x::r,h=>by cases h
 |n+1,[],h=>by cases h
 |n+1,x::r,h=>by
  have e:=pb4 h;have h:Bool.and (ic2 (.int .i64) x) (Za6 n r)=true:=h;rw[Qas] at h;have e1:x=i (toI x):=(List.cons.inj e).1;simp only[freezeCells];rw[e1];simp only[freezeCell,Pc2,cd9 H n r h.2]
section
variable{α:Type}(t:Ty α)
def r1A(n:Nat)(ht:∀r,Za6 n r=true->t.ok r=true):R1 α where
 enc x:=.agg (t.row x)
 rd _ x:=match x with
  |.agg cs=>Bool.rec (motive:=λ_=>Option α) none (some (t.rd cs)) (Za6 n cs)
  |_=>none
 d:=t.d
 le H x r h:=by
  split at h
  ·rename_i cs;cases hb:Za6 n cs with
   |false=>rw[hb] at h;cases h
   |true =>
    rw[hb] at h;have h:some (t.rd cs)=some r:=h;injection h with h;subst h;have h3:=t.h3 cs (ht cs hb);refine⟨.agg cs,H,?_,.refl,λρ' H2 F w v hv=>?_⟩
    ·simp only[wa2,cd9 H n cs hb]
    ·obtain⟨vs,rfl,hl,hr⟩:=qa3 (.val hv);refine .agg _ _ (by rw[<- h3.length];exact hl) λi y v' hy hv'=>?_
     obtain⟨x,hx,hle⟩:=h3.get i y hy;exact hle.c _ _ _ _ _ (hr i x v' hx hv')
  ·cases h
 dis _ _ _:=rfl
def r1L:R1 (List α) where
 enc l:=eL t l
 rd H x:=match x with
  |.v (.slice none 0 0)=>some []
  |.tree e n get=>Bool.rec (motive:=λ_=>Option (List α)) none (some (lsL t n get)) (Bool.and (Nat.beq e t.es) (okL t n get))
  |.sl id off n g=>match blkAt H id g with
   |some b=>Bool.rec (motive:=λ_=>Option (List α)) none (some (slR t b.elems off n)) (Bool.and (Nat.beq b.es t.es) (okS t b.elems off n))
   |none=>none
  |_=>none
 d:=[]
 le H x r h:=by
  split at h
  ·injection h with h;subst h;exact⟨_,H,rfl,.refl,(CLe.nilTree _ _).v λ_ _ _ _ _ h=>by cases h with | cell h=>exact h⟩
  ·rename_i e n get;cases hb:Bool.and (Nat.beq e t.es) (okL t n get) with
   |false=>rw[hb] at h;cases h
   |true =>
    rw[hb] at h;have h:some (lsL t n get)=some r:=h;injection h with h;subst h;rw[Qas] at hb
    have:=Qad hb.1
    subst this;exact⟨_,H,rfl,.refl,(treeLe t hb.2).v λ_ _ _ _ _ h=>by cases h with | cell h=>exact h⟩
  ·rename_i id off n g;cases hk:blkAt H id g with
   |none=>simp only[hk] at h;cases h
   |some b =>
    simp only[hk] at h;cases hb:Bool.and (Nat.beq b.es t.es) (okS t b.elems off n) with
    |false=>rw[hb] at h;cases h
    |true =>
     rw[hb] at h;have h:some (slR t b.elems off n)=some r:=h;injection h with h;subst h;rw[Qas] at hb
     have:=Qad hb.1
     refine⟨Nb1 b off n,disown H id,?_,.step id .refl,?_⟩
     ·simp only[wa2,freezeCell,hk]
     ·unfold Nb1;rw[this];exact (treeLe t hb.2).v λ_ _ _ _ _ h=>by cases h with | cell h=>exact h
  ·cases h
 dis H id x:=by
  cases x with
  |sl id' off n g =>
   simp only[uc1];cases blkAt H id' g with
   |none=>rfl
   |some b =>
    simp only[Option.map]
    split<;>rfl
  |v y=>cases y with
   |slice a n c=>cases a<;>cases n<;>cases c<;>rfl
   |_=>rfl
  |_=>rfl
end
structure RR(ρ:Type) where
 enc:ρ->a7
 rd:a7×List b7->Option ρ
 d:ρ
 le:∀x o r,rd (x,o)=some r->cd6 x o (enc r)
theorem Jd1{H:List b7}{l:List a7}{z:a7×List b7}(h:wa2 H (.tup l)=some z):False:=by cases h
theorem Jd2{H:List b7}{x z:a7}{H':List b7}(h:wa2 H x=some (z,H')):Xb5 H x=some z:=by
 cases x with
 |tup l=>exact (Jd1 h).elim
 |_=>simp only[Xb5,h]
theorem bf9{x y:a7}(h:∀ρ' H2 F w v,da6 ρ' H2 F w x v->da6 ρ' H2 F w y v)(hx:∀l,x≠.tup l):ALe x y:=λρ H F w v hv=>by
 cases hv with
 |val hv=>exact .val (h _ _ _ _ _ hv)
 |tup xs=>exact absurd rfl (hx xs)
theorem yd7{H H':List b7}{x z:a7}(h:wa2 H x=some (z,H')):∀l,z≠.tup l:=λl e=>by
 subst e;unfold wa2 at h
 split at h
 ·split at h<;>cases h
 ·unfold freezeCell at h
  split at h
  ·split at h<;>cases h
  ·cases h
  ·split at h<;>cases h
  ·split at h
   ·simp only[Nb1] at h;cases h
   ·cases h
  ·cases h
def one{ρ:Type}(a:R1 ρ):RR ρ where
 enc:=a.enc
 rd r:=a.rd r.2 r.1
 d:=a.d
 le x o r h:=by
  obtain⟨z,H',h1,_,h2⟩:=a.le o x r h;exact⟨z,Jd2 h1,bf9 h2 (yd7 h1)⟩
def two{ρ σ:Type}(a:R1 ρ)(c:R1 σ):RR (ρ×σ) where
 enc r:=.tup [a.enc r.1,c.enc r.2]
 rd r:=match r.1 with
  |.tup [x,y]=>Option.rec (motive:=λ_=>Option (ρ×σ)) none (λu=>Option.rec (motive:=λ_=>Option (ρ×σ)) none (λv=>some (u,v)) (c.rd r.2 y)) (a.rd r.2 x)
  |_=>none
 d:=(a.d,c.d)
 le q o r h:=by
  split at h
  ·rename_i x y e
   simp only at e
   subst e;cases hu:a.rd o x with
   |none=>rw[hu] at h;cases h
   |some u =>
   cases hv:c.rd o y with
   |none=>rw[hu,hv] at h;cases h
   |some v =>
   rw[hu,hv] at h;have h:some (u,v)=some r:=h;injection h with h;subst h;obtain⟨z1,H1,h1,d1,l1⟩:=a.le o x u hu;obtain⟨z2,H2,h2,d2,l2⟩:=c.le H1 y v (by rw[c.diss d1];exact hv)
   refine⟨.tup [z1,z2],by simp only[Xb5,Ua7,h1,h2],ALe.tup rfl λk p q hp hq=>?_⟩
   match k,hp,hq with
   |0,hp,hq=>cases hp;cases hq;exact l1
   |1,hp,hq=>cases hp;cases hq;exact l2
  ·cases h
def lf9{ρ σ τ:Type}(a:R1 ρ)(c:R1 σ)(e:R1 τ):RR (ρ×σ×τ) where
 enc r:=.tup [a.enc r.1,c.enc r.2.1,e.enc r.2.2]
 rd r:=match r.1 with
  |.tup [x,y,z]=>Option.rec (motive:=λ_=>Option (ρ×σ×τ)) none (λu=>Option.rec (motive:=λ_=>Option (ρ×σ×τ)) none (λv=>Option.rec (motive:=λ_=>Option (ρ×σ×τ)) none (λw=>some (u,v,w)) (e.rd r.2 z)) (c.rd r.2 y)) (a.rd r.2 x)
  |_=>none
 d:=(a.d,c.d,e.d)
 le q o r h:=by
  split at h
  ·rename_i x y z e0
   simp only at e0
   subst e0;cases hu:a.rd o x with
   |none=>rw[hu] at h;cases h
   |some u =>
   cases hv:c.rd o y with
   |none=>rw[hu,hv] at h;cases h
   |some v =>
   cases hw:e.rd o z with
   |none=>rw[hu,hv,hw] at h;cases h
   |some w =>
   rw[hu,hv,hw] at h;have h:some (u,v,w)=some r:=h;injection h with h;subst h;obtain⟨z1,H1,h1,d1,l1⟩:=a.le o x u hu;obtain⟨z2,H2,h2,d2,l2⟩:=c.le H1 y v (by rw[c.diss d1];exact hv)
   obtain⟨z3,H3,h3,d3,l3⟩:=e.le H2 z w (by rw[e.diss d2,e.diss d1];exact hw)
   refine⟨.tup [z1,z2,z3],by simp only[Xb5,Ua7,h1,h2,h3],ALe.tup rfl λk p q hp hq=>?_⟩
   match k,hp,hq with
   |0,hp,hq=>cases hp;cases hq;exact l1
   |1,hp,hq=>cases hp;cases hq;exact l2
   |2,hp,hq=>cases hp;cases hq;exact l3
  ·cases h
def okO{ρ:Type}(R:RR ρ)(o:Option (a7×List b7)):Bool:=Option.rec (motive:=λ_=>Bool) false (λr=>Option.rec (motive:=λ_=>Bool) false (λ_=>true) (R.rd r)) o
def O8{ρ:Type}(R:RR ρ)(o:Option (a7×List b7)):ρ:=Option.rec (motive:=λ_=>ρ) R.d (λr=>Option.rec (motive:=λ_=>ρ) R.d (λx=>x) (R.rd r)) o
@[reducible] def rdO{ρ:Type}(R:RR ρ)(o:Option (a7×List b7)):DT (a7×List b7):=.guard (okO R o) (.ret (R.enc (O8 R o),[]))
theorem yd8{ρ:Type}{R:RR ρ}{o:Option (a7×List b7)}{y:a7}{out:List b7}(h:(rdO R o).run=some (y,out)):out=[]/\∃x o',o=some (x,o')/\cd6 x o' y:=by
 obtain⟨h1,h2⟩:=DT.run_guard_some h;have h2:some (R.enc (O8 R o),([]:List b7))=some (y,out):=h2;injection h2 with h2;injection h2 with e1 e2;subst e1 e2
 refine⟨rfl,?_⟩;cases o with
 |none=>cases h1
 |some r =>
  obtain⟨x,o'⟩:=r;refine⟨x,o',rfl,?_⟩;cases hr:R.rd (x,o') with
  |none=>simp only[okO,hr] at h1;cases h1
  |some q =>
   simp only[O8,hr];exact R.le x o' q hr
theorem zb8{α:Type}(o:Option α):(DT.ofOption o).run=o:=by cases o<;>rfl
section
variable{α β γ δ ε ζ:Type}{P:Program}{G:Nat->List Value}{f:FuncId}{R0:Sum}{c:Cod α}{d:Cod β}{e:Cod γ}{c4:Cod δ}{c5:Cod ε}{c6:Cod ζ}{ρ:Type}
theorem uf2(hb:d9 P G f R0)(R:RR ρ){o:Option (a7×List b7)}(h:∀r,o=some r->(R0 [] []).run=some r):d9 P G f (Ud0 (rdO R o)) :=
 ke9 (Le9 hb (k:=DT.ofOption o) λr hr=>h r (by rw[zb8] at hr;exact hr)) λy out hr=>by
  obtain⟨e,x,o',h1,h2⟩:=yd8 hr;exact⟨e,x,o',by rw[zb8,h1],h2⟩
theorem Ec5(hb:d9 P G f R0)(R:RR ρ){o:α->Option (a7×List b7)}(h:∀a r,o a=some r->(R0 [c.enc a] []).run=some r):d9 P G f (L6 c λa=>rdO R (o a)) :=
 le0 (fc8 hb (k:=λa=>DT.ofOption (o a)) λa r hr=>h a r (by rw[zb8] at hr;exact hr)) λa y out hr=>by
  obtain⟨e,x,o',h1,h2⟩:=yd8 hr;exact⟨e,x,o',by rw[zb8,h1],h2⟩
theorem ve1(hb:d9 P G f R0)(R:RR ρ){o:α->β->Option (a7×List b7)}(h:∀a b r,o a b=some r->(R0 [c.enc a,d.enc b] []).run=some r):d9 P G f (Ha5 c d λa b=>rdO R (o a b)) :=
 le1 (be7 hb (k:=λa b=>DT.ofOption (o a b)) λa b r hr=>h a b r (by rw[zb8] at hr;exact hr)) λa b y out hr=>by
  obtain⟨e,x,o',h1,h2⟩:=yd8 hr;exact⟨e,x,o',by rw[zb8,h1],h2⟩
theorem mf0(hb:d9 P G f R0)(R:RR ρ){o:α->β->γ->Option (a7×List b7)}(h:∀a b g r,o a b g=some r->(R0 [c.enc a,d.enc b,e.enc g] []).run=some r):d9 P G f (Ub4 c d e λa b g=>rdO R (o a b g)) :=
 le2 (be8 hb (k:=λa b g=>DT.ofOption (o a b g)) λa b g r hr=>h a b g r (by rw[zb8] at hr;exact hr)) λa b g y out hr=>by
  obtain⟨e,x,o',h1,h2⟩:=yd8 hr;exact⟨e,x,o',by rw[zb8,h1],h2⟩
end
inductive Kc where
 |o (k:Sk)
 |c (es:Nat) (f:a7->a7)
def cf0:Kc->a7->Bool
 |.o k,x=>Me0 k x
 |.c es _,.tree es' _ _=>Nat.beq es es'
 |.c _ _,_=>false
def cf1:Kc->a7->a7
 |.o k,x=>bf6 k x
 |.c _ f,x=>f x
def cf2(k:Kc)(x:a7)(z:Bool):Bool:=match k with
 |.o _=>z
 |.c _ f=>Bool.and (ue9 f x) z
theorem Me2{k:Kc}{x:a7}{z:Bool}(h:cf0 k x=true)(hc:cf2 k x z=true):x=cf1 k x/\z=true:=by
 cases k with
 |o k=>exact⟨be9 h,hc⟩
 |c es f =>
  have hc:Bool.and (ue9 f x) z=true:=hc;rw[Qas] at hc;exact⟨Xe0 hc.1,hc.2⟩
def ve2(ks:List Kc):List a7->Bool :=
 List.rec (motive:=λ_=>List a7->Bool) (λl=>List.rec (motive:=λ_=>Bool) true (λ_ _ _=>false) l)
  (λk _ ih l=>List.rec (motive:=λ_=>Bool) false (λx r _=>Bool.and (cf0 k x) (ih r)) l) ks
def ce6(ks:List Kc):List a7->List a7 :=
 List.rec (motive:=λ_=>List a7->List a7) (λ_=>[]) (λk _ ih l=>cf1 k (hdA l)::ih (tlA l)) ks
def ve3(z:Bool)(ks:List Kc):List a7->Bool :=
 List.rec (motive:=λ_=>List a7->Bool) (λ_=>z) (λk _ ih l=>cf2 k (hdA l) (ih (tlA l))) ks
theorem Jd3{z:Bool}:∀{ks:List Kc} {l:List a7},ve2 ks l=true->ve3 z ks l=true->l=ce6 ks l/\z=true
 |[],[],_,hc=>⟨rfl,hc⟩
 |[],x::r,h,_=>by cases h
 |k::ks,[],h,_=>by cases h
 |k::ks,x::r,h,hc=>by
  have h:Bool.and (cf0 k x) (ve2 ks r)=true:=h;rw[Qas] at h;have hc:cf2 k x (ve3 z ks r)=true:=hc;obtain⟨e1,h2⟩:=Me2 h.1 hc;obtain⟨e2,h3⟩:=Jd3 h.2 h2;refine⟨?_,h3⟩;show x::r=cf1 k x::ce6 ks r;rw[<- e1,<- e2]
inductive K where
 |o (k:Sk)
 |c (es:Nat) (f:a7->a7)
 |fn (f:Nat) (l:List Kc)
def isK:K->a7->Bool
 |.o k,x=>Me0 k x
 |.c es _,.tree es' _ _=>Nat.beq es es'
 |.fn f l,.fn f' r=>Bool.and (Nat.beq f f') (ve2 l r)
 |.c _ _,_=>false
 |.fn _ _,_=>false
def asK:K->a7->a7
 |.o k,x=>bf6 k x
 |.c _ f,x=>f x
 |.fn f l,x=>.fn f (ce6 l (cellsOf x))
def cnK(k:K)(x:a7)(z:Bool):Bool:=match k with
 |.o _=>z
 |.c _ f=>Bool.and (ue9 f x) z
 |.fn _ l=>ve3 z l (cellsOf x)
theorem ve4{k:K}{x:a7}{z:Bool}(h:isK k x=true)(hc:cnK k x z=true):x=asK k x/\z=true:=by
 unfold isK at h
 split at h
 ·exact⟨be9 h,hc⟩
 ·have hc:Bool.and (ue9 _ _) z=true:=hc;rw[Qas] at hc;exact⟨Xe0 hc.1,hc.2⟩
 ·rename_i f l f' r;rw[Qas] at h;obtain⟨e,hz⟩:=Jd3 h.2 hc;refine⟨?_,hz⟩;show a7.fn f' r=.fn f (ce6 l r);rw[<- e,Qad h.1]
 ·cases h
 ·cases h
def Ud6(ks:List K):List a7->Bool :=
 List.rec (motive:=λ_=>List a7->Bool) (λl=>List.rec (motive:=λ_=>Bool) true (λ_ _ _=>false) l)
  (λk _ ih l=>List.rec (motive:=λ_=>Bool) false (λx r _=>Bool.and (isK k x) (ih r)) l) ks
def Jd4(ks:List K):List a7->List a7 :=
 List.rec (motive:=λ_=>List a7->List a7) (λ_=>[]) (λk _ ih l=>asK k (hdA l)::ih (tlA l)) ks
def Ud7(z:Bool)(ks:List K):List a7->Bool :=
 List.rec (motive:=λ_=>List a7->Bool) (λ_=>z) (λk _ ih l=>cnK k (hdA l) (ih (tlA l))) ks
theorem uc2{z:Bool}:∀{ks:List K} {l:List a7},Ud6 ks l=true->Ud7 z ks l=true->l=Jd4 ks l/\z=true
 |[],[],_,hc=>⟨rfl,hc⟩
 |[],x::r,h,_=>by cases h
 |k::ks,[],h,_=>by cases h
 |k::ks,x::r,h,hc=>by
  have h:Bool.and (isK k x) (Ud6 ks r)=true:=h;rw[Qas] at h;have hc:cnK k x (Ud7 z ks r)=true:=hc;obtain⟨e1,h2⟩:=ve4 h.1 hc;obtain⟨e2,h3⟩:=uc2 h.2 h2;refine⟨?_,h3⟩;show x::r=asK k x::Jd4 ks r;rw[<- e1,<- e2]
inductive S2 where
 |s (k:K)
 |agg (l:List K)
 |tup (l:List K)
 |fn (f:Nat) (l:List K)
def isS:S2->a7->Bool
 |.s k,x=>isK k x
 |.agg l,.agg r=>Ud6 l r
 |.tup l,.tup r=>Ud6 l r
 |.fn f l,.fn f' r=>Bool.and (Nat.beq f f') (Ud6 l r)
 |_,_=>false
def asS:S2->a7->a7
 |.s k,x=>asK k x
 |.agg l,x=>.agg (Jd4 l (cellsOf x))
 |.tup l,x=>.tup (Jd4 l (cellsOf x))
 |.fn f l,x=>.fn f (Jd4 l (cellsOf x))
def cnS(k:S2)(x:a7)(z:Bool):Bool:=match k with
 |.s k=>cnK k x z
 |.agg l=>Ud7 z l (cellsOf x)
 |.tup l=>Ud7 z l (cellsOf x)
 |.fn _ l=>Ud7 z l (cellsOf x)
theorem cf3{k:S2}{x:a7}{z:Bool}(h:isS k x=true)(hc:cnS k x z=true):x=asS k x/\z=true:=by
 unfold isS at h
 split at h
 ·exact ve4 h hc
 ·rename_i l r;obtain⟨e,hz⟩:=uc2 h hc;exact⟨congrArg a7.agg e,hz⟩
 ·rename_i l r;obtain⟨e,hz⟩:=uc2 h hc;exact⟨congrArg a7.tup e,hz⟩
 ·rename_i f l f' r;rw[Qas] at h;obtain⟨e,hz⟩:=uc2 h.2 hc;refine⟨?_,hz⟩;show a7.fn f' r=.fn f (Jd4 l r);rw[<- e,Qad h.1]
 ·cases h
def ve5(ks:List S2):List a7->Bool :=
 List.rec (motive:=λ_=>List a7->Bool) (λl=>List.rec (motive:=λ_=>Bool) true (λ_ _ _=>false) l)
  (λk _ ih l=>List.rec (motive:=λ_=>Bool) false (λx r _=>Bool.and (isS k x) (ih r)) l) ks
def le3(ks:List S2):List a7->List a7 :=
 List.rec (motive:=λ_=>List a7->List a7) (λ_=>[]) (λk _ ih l=>asS k (hdA l)::ih (tlA l)) ks
def Me3(z:Bool)(ks:List S2):List a7->Bool :=
 List.rec (motive:=λ_=>List a7->Bool) (λ_=>z) (λk _ ih l=>cnS k (hdA l) (ih (tlA l))) ks
theorem ce7{z:Bool}:∀{ks:List S2} {l:List a7},ve5 ks l=true->Me3 z ks l=true->l=le3 ks l/\z=true
 |[],[],_,hc=>⟨rfl,hc⟩
 |[],x::r,h,_=>by cases h
 |k::ks,[],h,_=>by cases h
 |k::ks,x::r,h,hc=>by
  have h:Bool.and (isS k x) (ve5 ks r)=true:=h;rw[Qas] at h;have hc:cnS k x (Me3 z ks r)=true:=hc;obtain⟨e1,h2⟩:=cf3 h.1 hc;obtain⟨e2,h3⟩:=ce7 h.2 h2;refine⟨?_,h3⟩;show x::r=asS k x::le3 ks r;rw[<- e1,<- e2]
def cf4(ks:List (List K)):List (List a7)->Bool :=
 List.rec (motive:=λ_=>List (List a7)->Bool) (λl=>List.rec (motive:=λ_=>Bool) true (λ_ _ _=>false) l)
  (λk _ ih l=>List.rec (motive:=λ_=>Bool) false (λx r _=>Bool.and (Ud6 k x) (ih r)) l) ks
def cf5(ks:List (List K)):List (List a7)->List (List a7) :=
 List.rec (motive:=λ_=>List (List a7)->List (List a7)) (λ_=>[]) (λk _ ih l=>Jd4 k (hdR l)::ih (tlR l)) ks
def cf6(z:Bool)(ks:List (List K)):List (List a7)->Bool :=
 List.rec (motive:=λ_=>List (List a7)->Bool) (λ_=>z) (λk _ ih l=>Ud7 (ih (tlR l)) k (hdR l)) ks
theorem ce8{z:Bool}:∀{ks:List (List K)} {l:List (List a7)},cf4 ks l=true->cf6 z ks l=true->l=cf5 ks l/\z=true
 |[],[],_,hc=>⟨rfl,hc⟩
 |[],x::r,h,_=>by cases h
 |k::ks,[],h,_=>by cases h
 |k::ks,x::r,h,hc=>by
  have h:Bool.and (Ud6 k x) (cf4 ks r)=true:=h;rw[Qas] at h;have hc:Ud7 (cf6 z ks r) k x=true:=hc;obtain⟨e1,h2⟩:=uc2 h.1 hc;obtain⟨e2,h3⟩:=ce8 h.2 h2;refine⟨?_,h3⟩;show x::r=Jd4 k x::cf5 ks r;rw[<- e1,<- e2]
def ru2(n:Nat)(l:List S2):List S2:=Nat.rec (motive:=λ_=>List S2) l (λ_ ih=>.s (.o .unk)::ih) n
structure B2 where
 et:Nat
 es:Nat
 own:Bool
 rows:Option (List (List K))
@[reducible] def isE(o:Option (List (List K)))(l:List (List a7)):Bool:=Option.rec (motive:=λ_=>Bool) true (λks=>cf4 ks l) o
@[reducible] def asE(o:Option (List (List K)))(l:List (List a7)):List (List a7):=Option.rec (motive:=λ_=>List (List a7)) l (λks=>cf5 ks l) o
@[reducible] def cnO(o:Option (List (List K)))(l:List (List a7))(z:Bool):Bool:=Option.rec (motive:=λ_=>Bool) z (λks=>cf6 z ks l) o
def isB(k:B2)(x:b7):Bool :=
 Bool.and (Bool.and (Nat.beq k.et x.et) (Nat.beq k.es x.es)) (Bool.and (eqB k.own x.own) (Bool.and (!x.dead) (Bool.and (Nat.beq x.g 0) (isE k.rows x.elems))))
theorem cf7{k:B2}{x:b7}{z:Bool}(h:isB k x=true)(hc:cnO k.rows x.elems z=true):x=⟨k.et,k.es,asE k.rows x.elems,k.own,false,0⟩/\z=true:=by
 unfold isB at h;simp only[Qas] at h;obtain⟨⟨h1,h2⟩,h3,h4,h5,h6⟩:=h;have h1:=Qad h1;have h2:=Qad h2;have h5:=Qad h5;have h4:x.dead=false:=by simpa using h4
 obtain⟨et,es,el,ow,de,g⟩:=x;obtain⟨et',es',ow',rows⟩:=k
 simp only at *
 subst h1 h2 h4 h5;have h3:ow'=ow:=by cases ow'<;>cases ow<;>first | rfl | cases h3
 subst h3;cases rows with
 |none=>exact⟨rfl,hc⟩
 |some ks =>
  obtain⟨e,hz⟩:=ce8 h6 hc
  grind
def ve6(ks:List B2):List b7->Bool :=
 List.rec (motive:=λ_=>List b7->Bool) (λl=>List.rec (motive:=λ_=>Bool) true (λ_ _ _=>false) l)
  (λk _ ih l=>List.rec (motive:=λ_=>Bool) false (λx r _=>Bool.and (isB k x) (ih r)) l) ks
def le4(ks:List B2):List b7->List b7 :=
 List.rec (motive:=λ_=>List b7->List b7) (λ_=>[]) (λk _ ih l=>⟨k.et,k.es,asE k.rows (hdB l),k.own,false,0⟩::ih (tlB l)) ks
def Me4(z:Bool)(ks:List B2):List b7->Bool :=
 List.rec (motive:=λ_=>List b7->Bool) (λ_=>z) (λk _ ih l=>cnO k.rows (hdB l) (ih (tlB l))) ks
theorem ce9{z:Bool}:∀{ks:List B2} {l:List b7},ve6 ks l=true->Me4 z ks l=true->l=le4 ks l/\z=true
 |[],[],_,hc=>⟨rfl,hc⟩
 |[],x::r,h,_=>by cases h
 |k::ks,[],h,_=>by cases h
 |k::ks,x::r,h,hc=>by
  have h:Bool.and (isB k x) (ve6 ks r)=true:=h;rw[Qas] at h;have hc:cnO k.rows x.elems (Me4 z ks r)=true:=hc;obtain⟨e1,h2⟩:=cf7 h.1 hc;obtain⟨e2,h3⟩:=ce9 h.2 h2;refine⟨?_,h3⟩;show x::r=⟨k.et,k.es,asE k.rows x.elems,k.own,false,0⟩::le4 ks r;rw[<- e1,<- e2]
structure Al2(π σ:Type) where
 sh:List S2
 bl:List B2
 rd:List a7->List b7->π×σ
def Me5{π σ:Type}(l:List (Al2 π σ))(t:St):DT (π×σ) :=
 List.rec (motive:=λ_=>DT (π×σ)) .fail
  (λx _ ih=>Bool.rec (motive:=λ_=>DT (π×σ)) ih (.guard (Me3 (Me4 true x.bl t.H) x.sh t.a) (.ret (x.rd t.a t.H))) (Bool.and (ve5 x.sh t.a) (ve6 x.bl t.H))) l
theorem yd9{π σ:Type}{enc:π->σ->St}{t:St}{q:π×σ}:∀{l:List (Al2 π σ)},(∀x,x∈l->∀a H,(⟨le3 x.sh a,le4 x.bl H⟩:St)=enc (x.rd a H).1 (x.rd a H).2) ->
  (Me5 l t).run=some q->t=enc q.1 q.2
 |[],_,h=>by cases h
 |x::l,hl,h=>by
  have h:(Bool.rec (motive:=λ_=>DT (π×σ)) (Me5 l t) (.guard (Me3 (Me4 true x.bl t.H) x.sh t.a) (.ret (x.rd t.a t.H))) (Bool.and (ve5 x.sh t.a) (ve6 x.bl t.H))).run=some q:=h
  cases hb:Bool.and (ve5 x.sh t.a) (ve6 x.bl t.H) with
  |false=>rw[hb] at h;exact yd9 (λy hy=>hl y (.tail _ hy)) h
  |true =>
   rw[hb] at h;obtain⟨h1,h2⟩:=DT.run_guard_some h;cases h2;rw[Qas] at hb;obtain⟨e1,h3⟩:=ce7 hb.1 h1;obtain⟨e2,_⟩:=ce9 hb.2 h3;rw[<- hl x (.head _) t.a t.H,<- e1,<- e2]
def va9{π:Type}(x:Al2 π Unit)(k:π->DT (a7×List b7)):Sum:=λargs blks=>(Me5 [x] ⟨args,blks⟩).bind λq=>k q.1
theorem r5{P:Program}{G:Nat->List Value}{f:FuncId}{R:Sum}{π:Type}{x:Al2 π Unit}{enc:π->St}{k:π->DT (a7×List b7)}
  (hx:∀a H,(⟨le3 x.sh a,le4 x.bl H⟩:St)=enc (x.rd a H).1) (hb:d9 P G f R)
  (h:∀p r,(k p).run=some r->(R (enc p).a (enc p).H).run=some r):d9 P G f (va9 x k):=hb.le λargs blks r hr=>by
 obtain⟨q,h1,h2⟩:=DT.run_bind_some hr;have e:=yd9 (enc:=λp _=>enc p) (Ka2.mem (.cons hx .nil)) h1
 grind
@[reducible] def slT(l:List a7)(n:Nat):a7:=hdA (Nat.rec (motive:=λ_=>List a7->List a7) (λl=>l) (λ_ ih l=>ih (tlA l)) n l)
@[reducible] def rwT(l:List (List a7))(n:Nat):List a7:=hdR (Nat.rec (motive:=λ_=>List (List a7)->List (List a7)) (λl=>l) (λ_ ih l=>ih (tlR l)) n l)
@[reducible] def elT(l:List b7)(n:Nat):List (List a7):=hdB (Nat.rec (motive:=λ_=>List b7->List b7) (λl=>l) (λ_ ih l=>ih (tlB l)) n l)
@[reducible] def xit(o:Option Nat):d8:=Option.rec (motive:=λ_=>d8) .ret (λid=>.exit id) o
theorem cf8(o:Option Nat):xit o≠.normal:=by cases o<;>exact λh=>by cases h
abbrev Xs(π σ:Type):=List (Option Nat×(π->σ->St))
def xOf{π σ:Type}(xs:Xs π σ)(p:π)(s:σ)(t:Nat):Nat->Option (d8×St) :=
 List.rec (motive:=λ_=>Nat->Option (d8×St)) (λ_=>none) (λx _ ih k=>sel (Nat.beq t k) (some (xit x.1,x.2 p s)) (ih (k+1))) xs
def cf9{π σ:Type}(xs:Xs π σ)(p:π)(r:Nat×σ):Nat->DT (d8×St) :=
 List.rec (motive:=λ_=>Nat->DT (d8×St)) (λ_=>.fail) (λx _ ih k=>.ite (Nat.beq r.1 k) (.ret (xit x.1,x.2 p r.2)) (ih (k+1))) xs
theorem Jd5{π σ:Type}(p:π)(r:Nat×σ):∀(xs:Xs π σ) (k:Nat),(cf9 xs p r k).run=xOf xs p r.2 r.1 k
 |[],k=>rfl
 |x::xs,k=>by
  show (DT.ite (Nat.beq r.1 k) (.ret (xit x.1,x.2 p r.2)) (cf9 xs p r (k+1))).run=sel (Nat.beq r.1 k) (some (xit x.1,x.2 p r.2)) (xOf xs p r.2 r.1 (k+1));rw[DT.run_ite,Jd5 p r xs (k+1)];cases Nat.beq r.1 k<;>rfl
theorem dd0{π σ:Type}(p:π)(s:σ):∀(xs:Xs π σ) (k:Nat),xOf xs p s 0 (k+1)=none
 |[],_=>rfl
 |_::xs,k=>dd0 p s xs (k+1)
theorem de0{π σ:Type}{p:π}{s:σ}{t:Nat}{e:d8×St}:∀{xs:Xs π σ} {k:Nat},xOf xs p s t k=some e->e.1≠.normal
 |[],_,h=>by cases h
 |x::xs,k,h=>by
  have h:sel (Nat.beq t k) (some (xit x.1,x.2 p s)) (xOf xs p s t (k+1))=some e:=h;cases hb:Nat.beq t k with
  |true=>rw[hb] at h;cases h;exact cf8 _
  |false=>rw[hb] at h;exact de0 h
theorem Jd6{π σ:Type}{head:St->DT St}{body:St->DT (d8×St)}{enc:σ->St}{step:σ->Stp σ}{xs:Xs π σ}{p:π}
  (h:∀s,(zb7 head body (enc s)).run=Xb3 (λs'=>some (.normal,enc s')) (λt=>xOf xs p s t 1) none (step s)) :
  ∀(n:Nat) (s:σ) (e:d8×St),xOf xs p (lp0 step n s).2 (lp0 step n s).1 1=some e->(pc4 head body n (enc s)).run=some e
 |n,s,e,he=>by
  have hr:=h s;cases hs:step s with
  |fail =>
   have h0:lp0 step n s=(0,s):=by
    cases n with
    |zero=>show Xb3 _ _ _ (step s)=_;rw[hs]
    |succ n=>show Xb3 _ _ _ (step s)=_;rw[hs]
   rw[h0] at he;rw[show xOf xs p s 0 1=none from dd0 p s xs 0] at he
   cases he
  |exit t =>
   rw[Id6 hs] at he;rw[hs] at hr;have hr:(zb7 head body (enc s)).run=xOf xs p s t 1:=hr;have he:xOf xs p s t 1=some e:=he;rw[he] at hr;obtain⟨x,t'⟩:=e;exact Le5 hr (de0 he)
  |next s' =>
   cases n with
   |zero =>
    have h0:lp0 step 0 s=(0,s):=by show Xb3 _ _ _ (step s)=_;rw[hs]
    rw[h0] at he;rw[show xOf xs p s 0 1=none from dd0 p s xs 0] at he
    cases he
   |succ n =>
    rw[Id5 hs] at he;rw[hs] at hr;exact Le4 hr (Jd6 h n s' e he)
section
variable{π σ:Type}
def sd0(head:Nat->List Nat->St->DT St)(k:Nat)(keep:List Nat)(alts:List (Al2 π σ))(step:π->σ->Stp σ)(xs:Xs π σ)(s:St):DT (d8×St) :=
 (head k keep s).bind λt=>(Me5 alts t).bind λq=>cf9 xs q.1 (lp (step q.1) q.2) 1
structure Xb8(head:Nat->List Nat->St->DT St)(k:Nat)(keep:List Nat)(body:St->DT (d8×St))(alts:List (Al2 π σ))(step:π->σ->Stp σ)(xs:Xs π σ)(enc:π->σ->St):Prop where
 ha:Ka2 (λx=>∀a H,(⟨le3 x.sh a,le4 x.bl H⟩:St)=enc (x.rd a H).1 (x.rd a H).2) alts
 h:∀p s,(zb7 (head k keep) body (enc p s)).run=Xb3 (λs'=>some (.normal,enc p s')) (λt=>xOf xs p s t 1) none (step p s)
variable{E:Env}{k:Nat}{res:List Dc5}{keep:List Nat}{alts:List (Al2 π σ)}{enc:π->σ->St}{step:π->σ->Stp σ}{xs:Xs π σ}{body:PS}{c:PC}{head:Nat->List Nat->St->DT St}{bd:St->DT (d8×St)}
theorem Xb8.go(w:Xb8 head k keep bd alts step xs enc){s:St}{r:d8×St}(hr:(sd0 head k keep alts step xs s).run=some r):∃t,(head k keep s).run=some t/\(pc4 (head k keep) bd rounds t).run=some r:=by
 obtain⟨t,h1,h2⟩:=DT.run_bind_some hr;obtain⟨q,h3,h4⟩:=DT.run_bind_some h2;rw[Jd5,We8] at h4;have e:=yd9 w.ha.mem h3;refine⟨t,h1,?_⟩;rw[e];exact Jd6 (w.h q.1) rounds q.2 r h4
theorem Xb8.belowC(hb:na6 E k res body c)(hN:E.N=rounds+1)(w:Xb8 Xb2 k keep (ce0 E k res body) alts step xs enc)(s:St):Y9 k res (sd0 Xb2 k keep alts step xs s) (E2 E k (.loop keep c) s):=λr hr=>by
 obtain⟨t,h1,h2⟩:=w.go hr;rw[rd9,hN];exact Xb4 hb.le _ _ r (fc7 h1 h2)
end
inductive RT where
 |p
 |s (a c:RT)
 |c (x y:RT)
 |b (c:RT)
 |l (c:RT)
 |i (c:RT)
 |u (S:St->DT (d8×St))
def dd1:RT->PC->PS
 |.s a b,.seq x y=>.seq (dd1 a x) (dd1 b y)
 |.c a b,.cond g x y=>.cond g (dd1 a x) (dd1 b y)
 |.b a,.block id x=>.block id (dd1 a x)
 |.l a,.loop keep x=>.loop keep (dd1 a x)
 |.u S,_=>.sum S
 |_,c=>.pc c
def Jb1:RT->PC->List ((St->DT (d8×St))×PC)
 |.s a b,.seq x y=>app (Jb1 a x) (Jb1 b y)
 |.c a b,.cond _ x y=>app (Jb1 a x) (Jb1 b y)
 |.b a,.block _ x=>Jb1 a x
 |.l a,.loop _ x=>Jb1 a x
 |.i a,.inner _ _ _ x=>Jb1 a x
 |.u S,c=>[(S,c)]
 |_,_=>[]
theorem Ka2.app{α:Type}{Q:α->Prop}:∀{l r:List α},Ka2 Q (Go.Ev.app l r)->Ka2 Q l/\Ka2 Q r
 |[],_,h=>⟨.nil,h⟩
 |_::l,_,.cons h t=>⟨.cons h (Ka2.app t).1,(Ka2.app t).2⟩
theorem de1{E:Env}{k:Nat}{res:List Dc5}(rt:RT)(c:PC):Ka2 (λx=>∀s,Y9 k res (x.1 s) (E2 E k x.2 s)) (Jb1 rt c)->na6 E k res (dd1 rt c) c:=by
 induction rt generalizing c with
 |p=>intro h;cases c<;>exact .pc _
 |s a b iha ihb =>
  intro h;cases c with
  |seq x y=>exact .seq (iha x (Ka2.app h).1) (ihb y (Ka2.app h).2)
  |_=>exact .pc _
 |c a b iha ihb =>
  intro h;cases c with
  |cond g x y=>exact .cond g (iha x (Ka2.app h).1) (ihb y (Ka2.app h).2)
  |_=>exact .pc _
 |b a iha =>
  intro h;cases c with
  |block id x=>exact .block id (iha x h)
  |_=>exact .pc _
 |l a iha =>
  intro h;cases c with
  |loop keep x=>exact .loop keep (iha x h)
  |_=>exact .pc _
 |i a iha=>intro h;cases c<;>exact .pc _
 |u S =>
  intro h
  have:Jb1 (.u S) c=[(S,c)]:=by cases c<;>rfl
  rw[this] at h;cases h with
  |cons h t =>
   have e:dd1 (.u S) c=.sum S:=by cases c<;>rfl
   rw[e];exact .sum h
def uf3(l:List Nat)(c:PC):PC :=
 List.rec (motive:=λ_=>PC->PC) (λc=>c) (λn _ ih c=>match c with
  |.seq x y=>ih (match n with | 0=>x | _=>y)
  |.cond _ x y=>ih (match n with | 2=>x | _=>y)
  |.block _ x=>ih x
  |.loop _ x=>ih x
  |.loopM _ x=>ih x
  |.inner _ _ _ x=>ih x
  |c=>c) l c
end Go.Ev.L
namespace Go.Ev.L
open Go Go.Ev Go.Sort Go.Proofs
section
variable{α:Type}[Inhabited α]{P:Program}{G:Nat->List Value}{g:FuncId}{S:Sum}{t:Ty α}{enc:α->List Value}{cf:α->α->Int}
theorem de2(hc:d9 P G g S)(hS:∀x y,(S [.agg (t.row x),.agg (t.row y)] []).run=some (i (cf x y),[]))(hG:∀n,G n=[])(he:∀x,t.row x=(enc x).map .v)(k blk off size:Nat)(w:World) :
  CmpLays P g #[] enc k cf blk off size w:=by
 intro m os dk _ x y;generalize sortWorldK enc k w blk off m dk os=w0;have hrow:∀(z:α),da6 (λ_=>⟨0,0,0⟩) [] (λ_ _=>False) w0 (.agg (t.row z)) (.agg (enc z).toArray):=λz=>by
  refine .agg _ _ (by rw[he];simp) λi u u' hu hu'=>?_
  rw[he,Qbe] at hu;have hu':(enc z)[i]?=some u':=by simpa using hu'
  rw[hu'] at hu;injection hu with hu;subst hu;exact .v _
 obtain⟨_,h⟩:=hc _ _ _ _ (hS x y) (λk=>w0.heap.size<=k) (λ_=>⟨0,0,0⟩) (λ_ _=>False) w0 [.agg (enc x).toArray,.agg (enc y).toArray]
  ⟨λid b hb=>by simp at hb,λid id' b b' hb=>by simp at hb,λb o hf=>hf.elim,λk hk=>hk⟩ rfl
  (λi u u' hu hu'=>by
   match i,hu,hu' with
   |0,hu,hu'=>cases hu;cases hu';exact .val (hrow x)
   |1,hu,hu'=>cases hu;cases hu';exact .val (hrow y))
  (λn c v hv=>by rw[hG] at hv;simp at hv)
 refine h.mono λe w' ⟨r',h1,ρ',F',h2,h3,h4⟩=>?_
 have h5:=V8 h4;subst h5;refine⟨h1,w'.drawn-w0.drawn,w'.heap.extract w0.heap.size w'.heap.size,?_⟩;have hd:=h2.ext.drawn;have hs:=h2.ext.size;have hheap:w'.heap=w0.heap++w'.heap.extract w0.heap.size w'.heap.size:=by
  apply Array.ext_getElem?;intro j
  rcases Qaq j w0.heap.size with hj|hj
  ·rw[Qdb hj,h2.ext.block j hj (by omega)]
  grind
 obtain⟨hp,tp,dr,os',out⟩:=w';have e1:=h2.ext.os;have e2:=h2.ext.tape;have e3:=h2.ext.output
 simp only at e1 e2 e3 hd hheap
 subst e1 e2 e3;unfold grow World.drewN
 simp only
 congr 1;omega
def de3(t:Ty α)(g:Nat)(et:Nat)(srt:List α->List α):Sum:=λargs blks=>match args,blks with
 |[.sl 0 0 n 0,.fn g' []],[⟨et',es',el,true,false,0⟩] =>
  Bool.rec (motive:=λ_=>DT (a7×List b7)) .fail (.guard (Bool.and (Nat.ble n room) (Bool.and (Nat.ble n (len el)) (okS t el 0 n))) (.ret (.v (.tuple #[]),[⟨et',es',app (bL t (srt (slR t el 0 n))) (j5 el n),true,false,0⟩])))
   (Bool.and (Nat.beq g' g) (Bool.and (Nat.beq et' et) (Nat.beq es' t.es)))
 |_,_=>.fail
theorem uc3(l:List α)(j:Nat)(h:j<l.length):l.toArray[j]! = l[j]:=by
 simp_all
theorem de4{f:FuncId}{et:Nat}{srt:List α->List α}(hcall:qb4 P f)(hes:0<t.es)(he:∀x,t.row x=(enc x).map .v)(hx:∀r,t.ok r=true->r=t.row (t.rd r))(h1:∀x,∀v∈enc x,v.oneCell'=true)
  (hlen:∀l,(srt l).length=l.length) (hcl:∀blk off size w,CmpLays P g #[] enc t.es cf blk off size w)
  (hcon:∀(blk cap:Nat) (d:Array α) (w:World),(∀off size,CmpLays P g #[] enc t.es cf blk off size w)->HoldsK enc t.es w blk 0 d->blk<w.heap.size->d.size<4611686018427387904 ->
   Calls P f #[.slice (some ⟨blk,0,none⟩) d.size cap,.func (.func g) #[] #[]] w λe w'=>e=.returned (.tuple #[])/\∃n os,w'=sortWorldK enc t.es w blk 0 n (srt d.toList).toArray os) :
  d9 P G f (de3 t g et srt):=by
 intro args blks r out hr W ρ F w args' hH hl hargs hG;refine⟨hcall,?_⟩;unfold de3 at hr
 split at hr
 case h_2=>cases hr
 rename_i n g' et' es' el;cases hb0:Bool.and (Nat.beq g' g) (Bool.and (Nat.beq et' et) (Nat.beq es' t.es)) with
 |false=>rw[hb0] at hr;cases hr
 |true =>
 rw[hb0] at hr;rw[Qas,Qas] at hb0;have q1:=Qad hb0.1;have q2:=Qad hb0.2.1;have q3:=Qad hb0.2.2;subst q1 q2 q3;obtain⟨hg0,hr⟩:=DT.run_guard_some hr;rw[Qas,Qas] at hg0;have hroom:n<=room:=Qae hg0.1;have hn:=Qae hg0.2.1;rw[j8] at hn;have hok:=hg0.2.2;injection hr with hr;injection hr with p1 p2;subst p1 p2
 match args',hl with
 |[v0,v1],_ =>
 obtain⟨a,cap,b,rfl,hb,hd,_,hncap,hspot,hcap,hq⟩:=Ka1 (hargs 0 _ _ rfl rfl);obtain⟨vs1,rfl,hvs1,_⟩:=Cb4 (hargs 1 _ _ rfl rfl);have hvs1:vs1=#[]:=Array.eq_empty_of_size_eq_zero (by simpa using hvs1.symm)
 subst hvs1;rw[pb0] at *
 have hb:b=⟨et',t.es,el,true,false,0⟩:=by simpa using hb.symm
 subst hb;obtain⟨ha,hsz,hne⟩:=hq rfl;have ha:a=⟨(ρ 0).blk,(ρ 0).off+0*t.es,none⟩:=ha.resolve_left λh=>by omega
 obtain⟨cc,tt,fr,hB⟩:=hH.blk 0 _ rfl rfl;obtain⟨hfr,hW,hoff,hsize,hnF,het⟩:=hB.own rfl;subst hfr;rw[hoff,Nat.zero_mul,Nat.add_zero] at ha;subst ha;generalize hbk:(ρ 0).blk=blk at *
 -- the rows asq data
 have hrow:∀j,j<n->j9 el j=(enc (gL t (slR t el 0 n) j)).map .v:=λj hj=>by
  have h2:t.ok (j9 el (0+j))=true:=Qcb.1 hok j (by simpa using hj)
  rw[Qar] at h2;rw[<- he,slR,ce2 t _ hj,Qar];exact hx _ h2
 have hld:(slR t el 0 n).length=n:=ce1 ..;have hk:∀x,(enc x).length=t.es:=λx=>by have:=t.h0 x;rw[j8,he] at this;simpa using this
 have hlt:blk<w.heap.size:=by
  have:=hB.obj
  grind
 have hobj:w.heap[blk]?=some (.cells cc tt (0,0)):=by rw[<- hbk];exact hB.obj
 have hgd:∀(l:List α) (j:Nat) (h:j<l.length),gL t l j=l[j]:=λl j h=>by simp[gL,Qda,Qaa h]
 have hdm:∀q,q<n*t.es->q / t.es<n/\q % t.es<t.es/\(q / t.es)*t.es+q % t.es=q:=λq hq=>⟨Nat.div_lt_of_lt_mul (by rw[Qbn];exact hq),Nat.mod_lt _ hes,Nat.div_add_mod' q t.es⟩
 have hrowAt:∀j,j<el.length->el[j]?=some (j9 el j):=λj hj=>by
  unfold j9;rw[B0,Qaa hj]
 have hH0:HoldsK enc t.es w blk 0 (slR t el 0 n).toArray:=by
  intro q hq;have hq:q<n*t.es:=by rw[size_flatK] at hq;simpa [hld] using hq
  obtain⟨e1,e2,e3⟩:=hdm q hq;rw[get_flatK _ _ _ _ (by simpa [hld] using hq),uc3 _ _ (by rw[hld];exact e1),<- hgd _ _ (by rw[hld];exact e1)]
  have hcx:(j9 el (q / t.es))[q % t.es]?=some (.v ((enc (gL t (slR t el 0 n) (q / t.es)))[q % t.es]!)):=by
   grind
  obtain⟨x',h5,h6⟩:=hB.cell (q / t.es) _ (q % t.es) _ (hrowAt _ (by omega)) hcx
  have h6:x'=(enc (gL t (slR t el 0 n) (q / t.es)))[q % t.es]! :=by cases h6;rfl
  subst h6;rw[hoff] at h5;simp only[e3,Qar] at h5;constructor
  ·simp only[World.cell?,hobj,Qar];simpa using h5
  ·simp[World.frozen?,hobj]
 have hds:(slR t el 0 n).toArray.size=n:=by simpa using hld
 have hmax:n<4611686018427387904:=by unfold room at hroom;omega
 have hcalls:=hcon blk cap (slR t el 0 n).toArray w (λoff size=>hcl blk off size w) hH0 hlt (by rw[hds];exact hmax)
 rw[hds] at hcalls;refine hcalls.mono λe w' ⟨h5,m,os,h6⟩=>⟨_,h5,ρ,F,?_⟩
 generalize hsd:srt (slR t el 0 n)=sd at *
 have hsl:sd.length=n:=by rw[<- hsd,hlen,hld]
 have h6:w'=grow (mapBlock (Sort.ahead w m) blk (putCells id 0 (flatK enc t.es sd.toArray))) os:=h6;have hw'size:w'.heap.size=w.heap.size+os.size:=by rw[h6];simp[mapBlock]
 have hold:∀k,k<w.heap.size->k≠blk->w'.heap[k]?=w.heap[k]?:=λk h7 h8=>by
  rw[h6];simp only[grow,mapBlock];rw[Qdb (by simpa using h7),Qde]
  simp[Ne.symm h8]
 have hnew:w'.heap[blk]?=some (.cells (putCells id 0 (flatK enc t.es sd.toArray) cc) tt (0,0)):=by
  rw[h6];simp only[grow,mapBlock];rw[Qdb (by simpa using hlt),Qde]
  simp[hobj,onCells]
 have hcells:∀b o,F b o->w'.cell? ⟨b,o,none⟩=w.cell? ⟨b,o,none⟩:=λb o hf=>by
  have h7:b≠blk:=λh8=>hnF o (h8 ▸ hf)
  have:=zb0 (hH.frz b o hf)
  simp only[World.cell?,hold b this h7]
 have hpc:∀q,q<cc.size->(putCells id 0 (flatK enc t.es sd.toArray) cc)[q]?=if q<n*t.es then some ((enc sd.toArray[q / t.es]!)[q % t.es]!) else cc[q]?:=λq hq=>by
  simp only[putCells,Array.getElem?_mapIdx,Qac hq,Option.map_some,size_flatK,Qbw,true_and,Qar,Nat.sub_zero,id]
  have:sd.toArray.size=n:=by simpa using hsl
  rw[this];split
  ·next h7=>rw[get_flatK _ _ _ _ (by rw[this];exact h7)]
  ·rfl
 have hel:(app (bL t sd) (j5 el n)).length=el.length:=by
  rw[J0,Qdc,<- j8 (bL t sd),Ob2,hsl,C7,List.length_drop];omega
 have hnrow:∀(j:Nat) r,(app (bL t sd) (j5 el n))[j]?=some r->(j<n/\r=t.row (gL t sd j))\/(n<=j/\el[j]?=some r):=λj r hr=>by
  have hlb:(bL t sd).length=n:=by rw[<- j8,Ob2,hsl]
  rw[J0] at hr
  rcases Qaq j n with h7|h7
  ·rw[Qbb (by omega)] at hr
   left;refine⟨h7,?_⟩;unfold bL at hr;rw[j7,Qbe,Qaa (by omega)] at hr
   injection hr with hr;rw[<- hr,hgd sd j (by omega)]
  ·rw[Qba (by omega),hlb,C7,Qbf] at hr
   right;exact⟨h7,by rw[<- hr];congr 1;omega⟩
 have hcs:el.length*t.es<=cc.size:=by have:=hB.len;rw[hsize] at this;exact this
 refine⟨⟨⟨?_,?_,?_,by omega,λk h7 h8=>hold k h7 λh9=>h8 (h9 ▸ hW),hcells,?_⟩,λid b hb=>?_,λ_ _ h=>h,λ_ _ h=>.inl h,λid b' hb' hn'=>?_⟩,⟨λid b hb hd'=>?_,λid id' b b' hb hb' h7 h8 h9 h10=>?_,λb o hf=>by rw[hcells b o hf];exact hH.frz b o hf,λk hk'=>hH.new k (by omega)⟩,.ofv _⟩
 ·rw[h6];rfl
 ·rw[h6];rfl
 ·rw[h6];rfl
 ·rw[h6];exact Nat.le_add_right _ _
 ·match id,hb with
  |0,hb =>
   cases hb;exact⟨_,rfl,rfl,Qaf _,λ_=>⟨rfl,rfl,by simp only[hel];exact Qaf _⟩⟩
 ·match id,hb' with
  |0,hb'=>cases hb';exact absurd rfl (hn' ⟨et',t.es,el,true,false,0⟩ rfl)
 ·match id,hb with
  |0,hb =>
   cases hb;refine⟨_,tt,(0,0),by rw[hbk];exact hnew,?_,?_,?_,?_,λ_=>⟨rfl,by rw[hbk];exact hW,hoff,?_,by rw[hbk];exact hnF,het⟩,λh=>by cases h⟩
   ·rw[hoff,hsize];simp[putCells]
   ·simp only[hel];exact hB.len
   ·intro j r hr
    rcases hnrow j r hr with⟨_,h8⟩|⟨_,h8⟩
    ·rw[h8,<- j8];exact t.h0 _
    ·exact hB.rows j r h8
   ·intro j r c x hr hc;rw[hoff,Qar]
    rcases hnrow j r hr with⟨h7,h8⟩|⟨h7,h8⟩
    ·subst h8;have hclt:c<t.es:=by
      have:=(Qab.1 hc).1
      rw[<- j8,t.h0] at this;exact this
     have hq:j*t.es+c<n*t.es:=by
      have:=Qaj t.es (show j+1<=n from h7)
      rw[Qao,Qbg] at this;omega
     have hqn:n*t.es<=el.length*t.es:=Qaj _ hn;have e1:(j*t.es+c) / t.es=j:=by rw[Qbn,Nat.mul_add_div hes,Nat.div_eq_of_lt hclt,Nat.add_zero]
     have e2:(j*t.es+c) % t.es=c:=by rw[Qbn,Nat.mul_add_mod,Qbs hclt]
     rw[he,Qbe,Qaa (by rw[hk];exact hclt)] at hc
     injection hc with hc;subst hc;refine⟨(enc (gL t sd j))[c]'(by rw[hk];exact hclt),?_,.v _ (h1 _ _ (List.getElem_mem _))⟩
     rw[hpc _ (Qam hq (Qai hqn hcs)),if_pos hq,e1,e2,uc3 _ _ (by omega),hgd sd j (by omega),getElem!_pos _ _ (by rw[hk];exact hclt)]
    ·obtain⟨x',h9,h10⟩:=hB.cell j r c x h8 hc;rw[hoff,Qar] at h9;have hq:¬ j*t.es+c<n*t.es:=by
      have:=Qaj t.es h7
      omega
     have hlt':j*t.es+c<cc.size:=(Qak.1 h9).1;exact⟨x',by rw[hpc _ hlt',if_neg hq];exact h9,h10.adv (λ_ _ h=>h) hcells⟩
   ·rw[hsize];simp[putCells]
 ·match id,hb,id',hb' with
  |0,hb,0,hb'=>exact absurd rfl h10
end
end Go.Ev.L
namespace Go.Ev
open Go
def FW(F:Fence):Prop:=∃r,F={ Fence.wide with round:=r }
theorem FW.wide:FW Fence.wide:=⟨none,rfl⟩
theorem FW.inRound(l:Nat):FW (Fence.wide.inRound l):=⟨some l,rfl⟩
section
variable{F:Fence}{n:Nat}{P:Program}
theorem FW.fn(h:FW F)(f:FuncId):F.fn f:=by obtain⟨r,rfl⟩:=h;trivial
theorem FW.dep(h:FW F):F.depth=none:=by obtain⟨r,rfl⟩:=h;rfl
theorem FW.depS(h:FW F){p:Prop}:F.depth.isSome=true->p:=λhd=>by rw[h.dep] at hd;cases hd
theorem FW.fenced(h:FW F):Machine.fenced P F=Machine.fenced P Fence.wide:=by obtain⟨r,rfl⟩:=h;rfl
theorem FW.room(h:FW F)(k:Nat):F.room k:=λd hd=>by rw[h.dep] at hd;cases hd
theorem FW.calls(h:FW F){f:FuncId}{args:Array Value}{w:World}{R:Ending->World->Prop}:CallsIn F n P f args w R↔Calls P f args w R:=by
 refine Iff.trans ?_ (callsIn_wide (n:=n));obtain⟨r,rfl⟩:=h;exact⟨λh=>h,λh=>h⟩
theorem FW.rows(h:FW F){row:String}{args:Array Value}{w:World}{R:Value->World->Prop}(hr:Rows P row args w R):RowsIn F n P row args w R:=λc cs _=>by
 obtain⟨v,w',h1,h2⟩:=hr c cs;refine⟨v,w',h1,?_⟩;rw[h.fenced];exact stepsIn_wide.2 h2
end
section
variable{P:Program}{o:Oper}{ac:Act}{w:World}{post:Value->World->Prop}
theorem f7.inAny(h:f7 P o { ac with defers:=[] } w post){F:Fence}(hF:FW F)(n:Nat)(next:Act->World->Prop)(Q:Exit->Act->World->Prop)(hp:∀x' w',post x' w'->next (ac.put o.dst x') w'):o.wpIn F n P ac w next Q:=by
 have hput:∀v,({ ac with defers:=[] }:Act).put o.dst v={ ac.put o.dst v with defers:=[] }:=λv=>by cases o.dst<;>rfl
 have hinj:∀v x',({ ac with defers:=[] }:Act).put o.dst v=({ ac with defers:=[] }:Act).put o.dst x'->ac.put o.dst v=ac.put o.dst x':=λv x' e=>by
  rw[hput,hput] at e;have e1:=congrArg Act.tmps e
  revert e1
  cases o.dst with
  |none=>intro _;rfl
  |some d=>intro e1;show ({ ac with tmps:=_ }:Act)={ ac with tmps:=_ };congr 1
 have hnd:∀c,o.op≠.defer c:=λc hc=>by
  have h0:=h (λa' _=>a'.defers=[]) (λ_ _ _=>False) (λx' w' _=>by rw[hput])
  unfold Oper.wp at h0;have e:execOp ({ ac with defers:=[] }:Act).eval o=(do return .defer (<- resolve ({ ac with defers:=[] }:Act).eval c o.type)):=by unfold execOp;simp[hc]
  rw[e] at h0;simp only[Sem.run_bind] at h0;cases hr:(resolve ({ ac with defers:=[] }:Act).eval c o.type).run P w with
  |ok d w1 =>
   rw[hr] at h0;have h0:({ ({ ac with defers:=[] }:Act) with defers:=d::[] }.put o.dst undef).defers=[]:=h0
   revert h0
   cases o.dst<;>intro h0<;>cases h0
  |halt x w1 =>
   rw[hr] at h0;cases x<;>exact h0
 have h0:=h (λa' w'=>∃x',post x' w'/\a'=({ ac with defers:=[] }:Act).put o.dst x') (λ_ _ _=>False) (λx' w' hx=>⟨x',hx,rfl⟩)
 unfold Oper.wp at h0;refine⟨λf _=>hF.fn f,?_⟩
 rw[Oper.semAt_eq _ _ _ hnd];have hev:(execOp ac.eval o)=execOp ({ ac with defers:=[] }:Act).eval o:=rfl
 rw[hev]
 revert h0
 generalize (execOp ({ ac with defers:=[] }:Act).eval o).run P w=r
 intro h0;have hnext:∀v w',(∃x',post x' w'/\({ ac with defers:=[] }:Act).put o.dst v=({ ac with defers:=[] }:Act).put o.dst x')->next (ac.put o.dst v) w':=λv w' ⟨x',h1,h2⟩=>by
  rw[hinj v x' h2];exact hp x' w' h1
 cases r with
 |ok q w' =>
  cases q with
  |value v=>exact hnext v w' h0
  |skip=>exact hnext undef w' h0
  |defer d =>
   obtain⟨x',_,h2⟩:=h0;rw[hput] at h2
   have:=congrArg Act.defers h2
   revert this
   cases o.dst<;>intro h<;>cases h
  |enter f args =>
   refine⟨λhd=>hF.depS hd,hF.calls.2 ?_⟩
   have h0:Calls P f args w' _:=h0;refine h0.mono λe w'' he=>?_
   cases e with
   |returned v=>exact hnext v w'' he
   |panicked ch=>exact he.elim
   |outgrown=>obtain⟨a0,w0,hq⟩:=he;exact hq.elim
  |row row args =>
   refine⟨λhd=>hF.depS hd,hF.rows ?_⟩
   have h0:Rows P row args w' _:=h0;exact λc cs=>by
    obtain⟨v,w'',h1,h2⟩:=h0 c cs;exact⟨v,w'',hnext v w'' h1,h2⟩
  |round l f tmps asq body=>exact h0.elim
  |_=>exact h0.elim
 |halt x w' =>
  cases x with
  |panic v=>exact h0.elim
  |_=>exact h0.elim
end
section
variable{W W' WB:Nat->Prop}{ρ ρ0 ρ':Rho}{H H0 H1:List b7}{F F0 F':Fz}{w w0 w':World}{P:Program}
theorem qb8(H:List b7):i6 H=H.map λb=>Bool.rec (motive:=λ_=>b7) b { b with dead:=true } (A9 b):=by unfold i6;rw[j7]
theorem le5:(i6 H).length=H.length:=by rw[qb8];simp
theorem W9{id:Nat}{b:b7}(hb:H[id]?=some b)(hs:A9 b=false):(i6 H)[id]?=some b:=by
 rw[qb8,Qbe,hb];simp[hs]
theorem dd2{id:Nat}{b:b7}(hb:H[id]?=some b)(hs:A9 b=true):(i6 H)[id]?=some { b with dead:=true }:=by
 rw[qb8,Qbe,hb];simp[hs]
theorem ca3{id:Nat}{b:b7}(hb:(i6 H)[id]?=some b)(hd:b.dead=false):H[id]?=some b/\A9 b=false:=by
 rw[qb8,Qbe] at hb;cases h:H[id]? with
 |none=>rw[h] at hb;cases hb
 |some c =>
  rw[h] at hb;cases hs:A9 c with
  |false=>simp[hs] at hb;subst hb;exact⟨rfl,hs⟩
  |true=>simp[hs] at hb;subst hb;cases hd
def uc4(H:List b7)(id:Nat):Prop:=∃b,H[id]?=some b/\A9 b=true
def ρsp(H:List b7)(ρ ρ':Rho):Rho:=λid=>@ite _ (uc4 H id) (Classical.propDecidable _) (ρ id) (ρ' id)
theorem ρsp_on{id:Nat}(h:uc4 H id):ρsp H ρ ρ' id=ρ id:=by unfold ρsp;rw[if_pos h]
theorem ρsp_off{id:Nat}(h:¬ uc4 H id):ρsp H ρ ρ' id=ρ' id:=by unfold ρsp;rw[if_neg h]
theorem Jd7:∀(H1:List b7),Ub3 [] H1=true->∀(id:Nat) c,H1[id]?=some c->A9 c=false
 |[],_,id,c,hc=>by simp at hc
 |d::r,ho,id,c,hc=>by
  have ho:Bool.and (Bool.rec (motive:=λ_=>Bool) true false (A9 d)) (Ub3 [] r)=true:=ho
  simp only[Qas] at ho;cases id with
  |zero =>
   simp at hc;subst hc
   have:=ho.1
   cases h:A9 d with
   |false=>rfl
   |true=>rw[h] at this;cases this
  |succ id=>exact Jd7 r ho.2 id c (by simpa using hc)
theorem dd3:∀(H H1:List b7),H.length<=H1.length->Ub3 H H1=true->(p7 H H1).length=H1.length /\
  (∀(id:Nat) b,H[id]?=some b->A9 b=true->(p7 H H1)[id]?=some b) /\
  (∀(id:Nat),¬ uc4 H id->(p7 H H1)[id]?=H1[id]?/\∀c,H1[id]?=some c->A9 c=false)
 |[],H1,_,ho=>by
  refine⟨rfl,λid b hb=>by simp at hb,λid _=>⟨rfl,λc hc=>?_⟩⟩
  exact Jd7 H1 ho id c hc
 |b::H,[],hl,_=>by simp at hl
 |b::H,c::H1,hl,ho=>by
  have ho:Bool.and (Bool.rec (motive:=λ_=>Bool) (Bool.rec true false (A9 c)) true (A9 b)) (Ub3 H H1)=true:=ho
  simp only[Qas] at ho;obtain⟨h1,h2,h3⟩:=dd3 H H1 (by simpa using hl) ho.2
  have e:p7 (b::H) (c::H1)=Bool.rec (motive:=λ_=>b7) c b (A9 b)::p7 H H1:=rfl
  rw[e];refine⟨by simp[h1],λid d hd hs=>?_,λid hn=>?_⟩
  ·cases id with
   |zero=>simp at hd;subst hd;simp[hs]
   |succ id=>simpa using h2 id d (by simpa using hd) hs
  ·cases id with
   |zero =>
    have hb:A9 b=false:=by
     cases h:A9 b with
     |false=>rfl
     |true=>exact absurd ⟨b,rfl,h⟩ hn
    rw[hb] at ho ⊢;refine⟨rfl,λd hd=>?_⟩
    simp at hd;subst hd
    have:=ho.1
    cases h:A9 c with
    |false=>rfl
    |true=>rw[h] at this;cases this
   |succ id =>
    obtain⟨k1,k2⟩:=h3 id λ⟨d,hd,hs⟩=>hn ⟨d,by simpa using hd,hs⟩
    simp_all
def sd1(b:b7):Prop:=b.es=0/\b.et=0
def Jd8(t:Nat)(b:b7):Prop:=b.es=0/\b.et=t+1
inductive XC (ρ:Rho) (H:List b7) (F:Fz) (w:World):a7->Value->Prop
 |n {x:a7} {x':Value} (h:U2 ρ (i6 H) F w x x'):XC ρ H F w x x'
 |box (id c g:Nat) (b:b7) (hb:H[id]?=some b) (hd:b.dead=false) (he:sd1 b):XC ρ H F w (.ptr id 0 c g) (.pointer (some ⟨(ρ id).blk,c,none⟩))
 |map (id c g:Nat) (b:b7) (t:Nat) (hb:H[id]?=some b) (hd:b.dead=false) (he:Jd8 t b):XC ρ H F w (.ptr id 0 c g) (.map (some (ρ id).blk))
inductive XW (ρ:Rho) (H:List b7) (F:Fz) (w:World):a7->Value->Prop
 |w {x:a7} {x':Value} (h:C9 ρ (i6 H) F w x x'):XW ρ H F w x x'
 |c {x:a7} {x':Value} (h:XC ρ H F w x x'):XW ρ H F w x x'
theorem Ua8{b:b7}(h:sd1 b):A9 b=true:=by unfold A9;rw[h.1];rfl
theorem Za7{b:b7}{t:Nat}(h:Jd8 t b):A9 b=true:=by unfold A9;rw[h.1];rfl
theorem XC.one{x:a7}{x':Value}(h:XC ρ H F w x x')(hb:Qd9 x=true):x'.oneCell'=true:=by
 cases h with
 |n h =>
  cases h with
  |mem h=>exact h.one
  |v=>exact (by rw[<- ec5];exact hb)
  |ptr=>rfl
  |sl=>rfl
  |tptr=>cases hb
  |unk=>cases hb
 |box=>rfl
 |map=>rfl
structure df0(ρ:Rho)(H:List b7)(F:Fz)(w:World)(b:b7)(blk:Nat):Prop where
 et:sd1 b
 has:∃row vs t,b.elems=[row]/\w.heap[blk]?=some (.cells vs t (0,0))/\row.length<=vs.size/\∀(c:Nat) x x',row[c]?=some x->vs[c]?=some x'->x'.oneCell'=true/\XC ρ H F w x x'
def dd4(fl:List (Nat×CK))(kl:Nat)(r:List a7)(e:MapEntry):Prop:=∃(ks:Array Value) (v:Bool),r=ks.toList.map .v++[.v (.bool v)]/\ks.size=kl/\e.key=.agg ks/\e.val=.bool v/\∀p∈fl,Ha3 ks p
structure df1(P:Program)(w:World)(b:b7)(blk:Nat):Prop where
 has:∃t K El fl es clk,Jd8 t b/\P.underlying t=some (.map K El)/\da7 P 9 K=some fl/\w.heap[blk]?=some (.map es clk)/\b.elems.length=es.size /\
  ∀(i:Nat) r e,b.elems[i]?=some r->es[i]?=some e->dd4 fl (szT P K) r e
structure ve7(P:Program)(WB W':Nat->Prop)(ρ:Rho)(H:List b7)(F:Fz)(w:World):Prop where
 has:∀(id:Nat) b,H[id]?=some b->A9 b=true->b.dead=false->WB (ρ id).blk/\¬ W' (ρ id).blk/\(∀o,¬ F (ρ id).blk o)/\(ρ id).blk<w.heap.size/\(df0 ρ H F w b (ρ id).blk\/df1 P w b (ρ id).blk)
 apart:∀(id id':Nat) b b',H[id]?=some b->H[id']?=some b'->A9 b=true->A9 b'=true->b.dead=false->b'.dead=false->id≠id'->(ρ id).blk≠(ρ id').blk
theorem Adv.mono(h:Adv W ρ H F w ρ' H1 F' w')(hW:∀k,W k->WB k):Adv WB ρ H F w ρ' H1 F' w' :=
 ⟨⟨h.ext.os,h.ext.tape,h.ext.output,h.ext.size,λk hk hn=>h.ext.block k hk λhw=>hn (hW k hw),h.ext.cells,h.ext.drawn⟩,h.heap,h.more,λb o hf=>(h.new b o hf).imp id (hW b),λid b' hb' hn=>hW _ (h.fresh id b' hb' hn)⟩
section
variable(hA:Adv W' ρ (i6 H) F w ρ' H1 F' w')(ho:Ub3 H H1=true)
include hA ho
theorem ve8:H.length<=H1.length:=by
 rcases Qav H.length with h|h
 ·omega
 ·have hlt:H.length-1<(i6 H).length:=by rw[le5];omega
  obtain⟨b',hb',_⟩:=hA.heap (H.length-1) _ (Qaa hlt)
  grind
theorem fc9:(p7 H H1).length=H1.length /\
  (∀(id:Nat) b,H[id]?=some b->A9 b=true->(p7 H H1)[id]?=some b) /\
  (∀(id:Nat),¬ uc4 H id->(p7 H H1)[id]?=H1[id]?/\∀c,H1[id]?=some c->A9 c=false):=dd3 H H1 (ve8 hA ho) ho
theorem le6{id:Nat}{b:b7}(hb:(i6 (p7 H H1))[id]?=some b)(hd:b.dead=false):H1[id]?=some b/\¬ uc4 H id:=by
 obtain⟨h1,h2,h3⟩:=fc9 hA ho;obtain⟨k1,k2⟩:=ca3 hb hd;by_cases hs:uc4 H id
 ·obtain⟨c,hc,hcs⟩:=hs
  simp_all
 simp_all
theorem le7{id:Nat}{b:b7}(hb:H1[id]?=some b)(hd:b.dead=false):(i6 (p7 H H1))[id]?=some b/\ρsp H ρ ρ' id=ρ' id:=by
 obtain⟨h1,h2,h3⟩:=fc9 hA ho;by_cases hs:uc4 H id
 ·obtain⟨c,hc,hcs⟩:=hs;obtain⟨b',hb',hd',_⟩:=hA.heap id _ (dd2 hc hcs)
  simp_all
 ·obtain⟨k1,k2⟩:=h3 id hs;exact⟨W9 (k1.trans hb) (k2 b hb),ρsp_off hs⟩
theorem dd5:rd6 ρ' H1 (ρsp H ρ ρ') (i6 (p7 H H1)):=λid b hb hd=>by
 obtain⟨h1,h2⟩:=le7 hA ho hb hd
 simp_all
theorem Ud8{x:a7}{x':Value}(h:C9 ρ' H1 F' w' x x'):C9 (ρsp H ρ ρ') (i6 (p7 H H1)) F' w' x x':=h.carry (dd5 hA ho) (λ_ _ h=>h) (λ_ _ _=>rfl)
theorem le8(hH:C1 W' ρ' H1 F' w'):C1 W' (ρsp H ρ ρ') (i6 (p7 H H1)) F' w' :=
 hH.pull (λi=>i) (λi b hb hd=>by
  obtain⟨h1,h2⟩:=le6 hA ho hb hd;exact⟨h1,ρsp_off h2⟩) (λ_ _ _ _ _ _ _ _ e=>e)
theorem de5{x:a7}{x':Value}(h:XC ρ H F w x x'):XC (ρsp H ρ ρ') (p7 H H1) F' w' x x':=by
 obtain⟨h1,h2,h3⟩:=fc9 hA ho;cases h with
 |n h=>exact .n ((h.adv hA).carry (dd5 hA ho) (λ_ _ h=>h) (λ_ _ _=>rfl))
 |box id c g b hb hd he =>
  have e:ρsp H ρ ρ' id=ρ id:=ρsp_on ⟨b,hb,Ua8 he⟩;rw[<- e];exact .box id c g b (h2 id b hb (Ua8 he)) hd he
 |map id c g b t hb hd he =>
  have e:ρsp H ρ ρ' id=ρ id:=ρsp_on ⟨b,hb,Za7 he⟩;rw[<- e];exact .map id c g b t (h2 id b hb (Za7 he)) hd he
theorem Me6{x:a7}{x':Value}(h:XW ρ H F w x x'):XW (ρsp H ρ ρ') (p7 H H1) F' w' x x':=by
 cases h with
 |w h=>exact .w (Ud8 hA ho (h.adv hA))
 |c h=>exact .c (de5 hA ho h)
theorem le9(hS:ve7 P WB W' ρ H F w):ve7 P WB W' (ρsp H ρ ρ') (p7 H H1) F' w':=by
 obtain⟨h1,h2,h3⟩:=fc9 hA ho;have hold:∀(id:Nat) b,(p7 H H1)[id]?=some b->A9 b=true->H[id]?=some b/\uc4 H id:=λid b hb hs=>by
  by_cases hsp:uc4 H id
  ·obtain⟨c,hc,hcs⟩:=hsp;rw[h2 id c hc hcs] at hb;obtain rfl:c=b:=Qag hb;exact⟨hc,c,hc,hcs⟩
  ·obtain⟨k1,k2⟩:=h3 id hsp;rw[k1] at hb;rw[k2 b hb] at hs;cases hs
 refine⟨λid b hb hs hd=>?_,λid id' b b' hb hb' hs hs' hd hd' hne=>?_⟩
 ·obtain⟨hb0,hsp⟩:=hold id b hb hs;obtain⟨k1,k2,k3,k4,k5⟩:=hS.has id b hb0 hs hd;have hblk:w'.heap[(ρ id).blk]?=w.heap[(ρ id).blk]?:=hA.ext.block _ k4 k2;rw[ρsp_on hsp];refine⟨k1,k2,λo hf=>?_,Qam k4 hA.ext.size,?_⟩
  ·rcases hA.new _ _ hf with h|h
   ·exact k3 o h
   ·exact k2 h
  ·rcases k5 with⟨e,row,vs,t,m1,m2,m3,m4⟩|⟨t,K,El,fl,es,clk,m1,m2,m3,m4,m5,m6⟩
   ·exact .inl ⟨e,row,vs,t,m1,hblk.trans m2,m3,λc x x' hx hx'=>⟨(m4 c x x' hx hx').1,de5 hA ho (m4 c x x' hx hx').2⟩⟩
   ·exact .inr ⟨t,K,El,fl,es,clk,m1,m2,m3,hblk.trans m4,m5,m6⟩
 ·obtain⟨hb0,hsp⟩:=hold id b hb hs;obtain⟨hb0',hsp'⟩:=hold id' b' hb' hs';rw[ρsp_on hsp,ρsp_on hsp'];exact hS.apart id id' b b' hb0 hb0' hs hs' hd hd' hne
theorem ve9{id:Nat}{b:b7}(hb:(p7 H H1)[id]?=some b)(hs:A9 b=true):H[id]?=some b/\uc4 H id:=by
 obtain⟨h1,h2,h3⟩:=fc9 hA ho;by_cases hsp:uc4 H id
 ·obtain⟨c,hc,hcs⟩:=hsp
  grind
 grind
theorem we0{K:Nat->Prop}(h:∀(id:Nat) b,H[id]?=some b->A9 b=true->b.dead=false->¬ K (ρ id).blk):∀(id:Nat) b,(p7 H H1)[id]?=some b->A9 b=true->b.dead=false->¬ K (ρsp H ρ ρ' id).blk:=λid b hb hs hd=>by
 obtain⟨k1,k2⟩:=ve9 hA ho hb hs;rw[ρsp_on k2];exact h id b k1 hs hd
theorem we1(hW:∀k,W' k->WB k):Adv WB ρ H F w (ρsp H ρ ρ') (p7 H H1) F' w':=by
 obtain⟨h1,h2,h3⟩:=fc9 hA ho;have hm:=hA.mono hW;refine⟨hm.ext,λid b hb=>?_,hm.more,hm.new,λid b' hb' hn=>?_⟩
 ·cases hs:A9 b with
  |true=>exact⟨b,h2 id b hb hs,rfl,Qaf _,λ_=>⟨ρsp_on ⟨b,hb,hs⟩,rfl,Qaf _⟩⟩
  |false =>
   have hnsp:¬ uc4 H id:=λ⟨c,hc,hcs⟩=>by
    rw[hb] at hc;cases hc;rw[hs] at hcs;cases hcs
   obtain⟨b',k1,k2,k3,k4⟩:=hm.heap id b (W9 hb hs);exact⟨b',(h3 id hnsp).1.trans k1,k2,k3,λhg=>by rw[ρsp_off hnsp];exact k4 hg⟩
 ·by_cases hsp:uc4 H id
  ·obtain⟨c,hc,hcs⟩:=hsp
   simp_all
  ·rw[ρsp_off hsp];rw[(h3 id hsp).1] at hb';refine hm.fresh id b' hb' λb hb=>?_
   cases h:H[id]? with
   |none =>
    rw[qb8,Qbe,h] at hb;cases hb
   |some c =>
    cases hs:A9 c with
    |true=>exact absurd ⟨c,h,hs⟩ hsp
    |false =>
     rw[W9 h hs] at hb;cases hb;exact hn b h
end
end
def jc9(WB W':Nat->Prop)(ds:List Deferred)(w:World):Prop:=(∀d∈ds,∃D,d={ target:=.collected D,args:=#[] }/\w.heap[D]?=some (.deferred (some []))/\¬ W' D/\D<w.heap.size/\WB D)/\ds.Nodup
def VR(ρ:Rho)(H:List b7)(F:Fz)(w:World)(a:List a7)(vs:List Value):Prop:=a.length=vs.length/\∀(i:Nat) x x',a[i]?=some x->vs[i]?=some x'->XW ρ H F w x x'
structure C2(P:Program)(WB:Nat->Prop)(K:Nat->Prop)(J:List Value->World->Prop)(ρ0:Rho)(H0:List b7)(F0:Fz)(w0:World)(H:List b7)(ds:List Deferred)(w:World)(ρ:Rho)(F:Fz)(W':Nat->Prop)(up:List Value):Prop where
 sub:∀k,W' k->WB k
 adv:Adv WB ρ0 H0 F0 w0 ρ H F w
 hrel:C1 W' ρ (i6 H) F w
 srel:ve7 P WB W' ρ H F w
 kept:∀k,K k->¬ W' k/\k<w.heap.size
 far:∀(id:Nat) b,H[id]?=some b->A9 b=true->b.dead=false->¬ K (ρ id).blk
 jot:J up w
 marks:jc9 WB W' ds w
structure I2(P:Program)(WB:Nat->Prop)(K:Nat->Prop)(J:List Value->World->Prop)(n:Nat)(ρ0:Rho)(H0:List b7)(F0:Fz)(w0:World)(s:St)(ac:Act)(w:World)(ρ:Rho)(F:Fz)(W':Nat->Prop)(up:List Value):Prop where
 core:C2 P WB K J ρ0 H0 F0 w0 s.H ac.defers w ρ F W' up
 vals:VR ρ s.H F w s.a (ac.tmps.toList++up)
 size:ac.tmps.size=n
def dd6(P:Program)(WB:Nat->Prop)(K:Nat->Prop)(J:List Value->World->Prop)(n:Nat)(ρ0:Rho)(H0:List b7)(F0:Fz)(w0:World)(s:St)(ac:Act)(w:World):Prop :=
 ∃ρ F W' up,I2 P WB K J n ρ0 H0 F0 w0 s ac w ρ F W' up
def Tr(ρ:Rho)(H:List b7)(F:Fz)(w:World)(ρ':Rho)(H':List b7)(F':Fz)(w':World):Prop:=∀x x',XW ρ H F w x x'->XW ρ' H' F' w' x x'
def Xb9(K:Nat->Prop)(J:List Value->World->Prop):Prop:=∀up w w',(∀k,K k->w'.heap[k]?=w.heap[k]?)->J up w->J up w'
section
variable{P:Program}{WB K:Nat->Prop}{J:List Value->World->Prop}{ρ ρ0 ρ':Rho}{H H0 H1:List b7}{F F0 F':Fz}{w w0 w':World}{W':Nat->Prop}{up:List Value}{s:St}{ac ac':Act}{E:Env}
theorem jc9.step{ds:List Deferred}(h:jc9 WB W' ds w)(he:Ext W' F w w'):jc9 WB W' ds w':=⟨λd hd=>by
 obtain⟨D,h1,h2,h3,h4,h5⟩:=h.1 d hd;exact⟨D,h1,(he.block D h4 h3).trans h2,h3,Qam h4 he.size,h5⟩,h.2⟩
theorem C2.step{ds:List Deferred}(h:C2 P WB K J ρ0 H0 F0 w0 H ds w ρ F W' up)(hJ:Xb9 K J)(hA:Adv W' ρ (i6 H) F w ρ' H1 F' w')(ho:Ub3 H H1=true)(hH1:C1 W' ρ' H1 F' w') :
  C2 P WB K J ρ0 H0 F0 w0 (p7 H H1) ds w' (ρsp H ρ ρ') F' W' up/\Tr ρ H F w (ρsp H ρ ρ') (p7 H H1) F' w' :=
 ⟨⟨h.sub,h.adv.trans (we1 hA ho h.sub),le8 hA ho hH1,le9 hA ho h.srel,λk hk=>⟨(h.kept k hk).1,Qam (h.kept k hk).2 hA.ext.size⟩,
  we0 hA ho h.far,hJ up w w' (λk hk=>hA.ext.block k (h.kept k hk).2 (h.kept k hk).1) h.jot,h.marks.step hA.ext⟩,λ_ _ hx=>Me6 hA ho hx⟩
structure wb9(DS:Nat->Prop)(tm:Array Value)(ds:List Deferred)(W:Nat->Prop)(ρ0:Rho)(H0:List b7)(F0:Fz)(w0:World)(s:St)(ac:Act)(w:World):Prop where
 defers:ac.defers=ds
 size:ac.tmps.size=tm.size
 same:∀t,¬ DS t->ac.tmps[t]?=tm[t]?
 rel:∃ρ F,Adv W ρ0 H0 F0 w0 ρ s.H F w/\C1 W ρ s.H F w/\va8 ρ s.H F w s.a ac.tmps
theorem Z0{ac:Act}(dst:Option Nat)(v:Value):(ac.put dst v).tmps.size=ac.tmps.size:=by cases dst<;>simp[Act.put]
theorem Jb2{ac:Act}{dst:Option Nat}{v:Value}{t:Nat}(h:dst≠some t):(ac.put dst v).tmps[t]?=ac.tmps[t]?:=by
 cases dst with
 |none=>rfl
 |some d=>exact Array.getElem?_setIfInBounds_ne λe=>h (by rw[e])
section
variable{W:Nat->Prop}{DS:Nat->Prop}{tm:Array Value}{ds:List Deferred}{Fe:Fence}{n:Nat}
variable(hF:FW Fe)(hG0:GOk E F0 w0)(hcalls:∀f,d9 E.P E.G f (E.call f))
include hF hG0 hcalls
theorem piM{ops:Array Oper}{o:Oper}{g:Option (Nat×Bool)}{s s':St}{ac:Act}{i:Nat}{rest:List Nat}{Q:Exit->Act->World->Prop}(hi:ops[i]?=some o)(hg:ca2 ops o=some g)(hDS:∀d,o.dst=some d->DS d)
  (hI:wb9 DS tm ds W ρ0 H0 F0 w0 s ac w) (he:(Ta7 E s ⟨o.dst,g,[],Ib6 E.P ops o⟩).run=some s') (hK:∀ac' w',wb9 DS tm ds W ρ0 H0 F0 w0 s' ac' w'->wpOpsIn Fe n E.P ops Q rest ac' w'):wpOpsIn Fe n E.P ops Q (i::rest) ac w:=by
 obtain⟨hd,hsz,hsm,ρ,F,hAdv,hH,hA⟩:=hI;simp only[wpOpsIn,hi];have hsame:∀v t,¬ DS t->(ac.put o.dst v).tmps[t]?=tm[t]?:=λv t ht=>(Jb2 λe=>ht (hDS t e)).trans (hsm t ht)
 rcases Mc6 hg hA he with⟨hw,he⟩|⟨hw,he⟩
 ·rw[if_pos hw];unfold Pc3 at he;obtain⟨⟨x,H'⟩,h1,h2⟩:=DT.run_bind_some he;have h1':(evalOp E s.a s.H (Ib6 E.P ops o)).run=some (x,H'):=h1;have hop:=Ec2 (ac:={ ac with defers:=[] }) hA hH (hG0.adv hAdv) hcalls h1'
  refine hop.inAny hF n _ _ λx' w' hp=>?_
  obtain⟨ρ',F',a1,a2,a3⟩:=hp;have h2':some (⟨putA s.a o.dst x,H'⟩:St)=some s':=h2;injection h2' with h2';subst h2';exact hK _ _ ⟨(o2 _ _).trans hd,(Z0 _ _).trans hsz,hsame x',ρ',F',hAdv.trans a1,a2,(hA.adv a1).putA o.dst a3⟩
 ·rw[if_neg (by simp[hw])]
  subst he;exact⟨λf _=>hF.fn f,hK _ _ ⟨(o2 _ _).trans hd,(Z0 _ _).trans hsz,hsame _,ρ,F,hAdv,hH,hA.putA o.dst (.ofv _)⟩⟩
theorem mf1{ops:Array Oper}{Q:Exit->Act->World->Prop}{rest:List Nat}:∀(r:List Oper) (k:Nat) (l:List PI) (s s':St) (ac:Act) (w:World),(∃t,ops.toList.drop k=r++t)->(∀o∈r,∀d,o.dst=some d->DS d)->oc0 E.P ops r=some l->wb9 DS tm ds W ρ0 H0 F0 w0 s ac w->(L1 E l s).run=some s' ->
  (∀ac' w',wb9 DS tm ds W ρ0 H0 F0 w0 s' ac' w'->wpOpsIn Fe n E.P ops Q rest ac' w')->wpOpsIn Fe n E.P ops Q (List.range' k r.length++rest) ac w
 |[],k,l,s,s',ac,w,hr,hDS,hl,hI,he,hQ=>by
  simp only[oc0] at hl;injection hl with hl;subst hl;have he':some s=some s':=he
  simp_all
 |o::r,k,l,s,s',ac,w,hr,hDS,hl,hI,he,hQ=>by
  obtain⟨t,hr⟩:=hr;obtain⟨g,l',h1,h2,rfl⟩:=rd2 hl;have he':((Ta7 E s ⟨o.dst,g,[],Ib6 E.P ops o⟩).bind (L1 E l')).run=some s':=he;obtain⟨s1,h3,h4⟩:=DT.run_bind_some he';have hi:ops[k]?=some o:=by
   have:(ops.toList.drop k)[0]?=some o:=by rw[hr];rfl
   simpa using this
  rw[show (o::r).length=r.length+1 from rfl,List.range'_succ,List.cons_append]
  refine piM hF hG0 hcalls hi h1 (λd hd=>hDS o (.head _) d hd) hI h3 λac' w' hI'=>?_
  refine mf1 r (k+1) l' s1 s' ac' w' ⟨t,?_⟩ (λo ho=>hDS o (.tail _ ho)) h2 hI' h4 hQ
  rw[<- List.drop_drop,hr];rfl
end
theorem Yb0 (ds : List Nat) : ∀ (a l : List a7) (k i : Nat), (ka3 ds a l k)[i]? = match a[i]? with
  |some x=>some (Bool.rec (motive:=λ_=>a7) x ((l[i]?).getD .unk) (fb7 (k+i) ds))
  |none=>none
 |[],l,k,i=>by simp[ka3]
 |x::a,l,k,i=>by
  have e:ka3 ds (x::a) l k=Bool.rec (motive:=λ_=>a7) x (hdA l) (fb7 k ds)::ka3 ds a (tlA l) (k+1):=rfl
  rw[e];cases i with
  |zero=>cases l<;>rfl
  |succ i =>
   simp only[List.getElem?_cons_succ];rw[Yb0 ds a (tlA l) (k+1) i,show k+1+i=k+(i+1) by omega]
   cases l with
   |nil=>simp[tlA]
   |cons y l=>simp[tlA]
theorem Yb1(ds:List Nat):∀(a l:List a7) (k:Nat),(ka3 ds a l k).length=a.length
 |[],_,_=>rfl
 |x::a,l,k=>congrArg Nat.succ (Yb1 ds a (tlA l) (k+1))
theorem dd7(k:Nat)(l:List Nat):fb7 k l=true↔k∈l:=by
 induction l with
 |nil=>simp[fb7]
 |cons x l ih =>
  have e:fb7 k (x::l)=Bool.rec (fb7 k l) true (Nat.beq x k):=rfl;rw[e,Qbi];cases h:Nat.beq x k with
  |true=>have:=Qad h;simp[this]
  |false =>
   have:=Qbk h
   grind
theorem sd2{x:a7}{x':Value}(h:XW ρ H F w x x'):C9 ρ (i6 H) F w (da5 H x) x':=by
 cases h with
 |w h =>
  unfold da5;split
  ·rename_i id i c g;split
   ·rename_i b hb;cases A9 b with
    |true=>exact .unk _
    |false=>exact h
   ·exact .unk _
  ·exact h
 |c h =>
  cases h with
  |n h =>
   unfold da5;split
   ·split
    ·rename_i b hb;cases A9 b with
     |true=>exact .unk _
     |false=>exact .val (.cell h)
    ·exact .unk _
   ·exact .val (.cell h)
  |box id c g b hb hd he =>
   unfold da5;simp only[B0,hb,Ua8 he];exact .unk _
  |map id c g b t hb hd he =>
   unfold da5;simp only[B0,hb,Za7 he];exact .unk _
theorem I2.arel{n:Nat}(h:I2 P WB K J n ρ0 H0 F0 w0 s ac w ρ F W' up):va8 ρ (i6 s.H) F w (m8 (da5 s.H) (E1 s.a n)) ac.tmps:=by
 have hl:=h.vals.1;have hn:=h.size;rw[Qdc,Array.length_toList] at hl;rw[j7,D0];refine⟨by simp;omega,λi x x' hx hx'=>?_⟩
 rw[Qbe] at hx;have hi:i<n:=hn ▸ (Qak.1 hx').1;rw[Qap,if_pos hi] at hx;cases hy:s.a[i]? with
 |none=>rw[hy] at hx;cases hx
 |some y =>
  rw[hy] at hx;injection hx with hx;subst hx;refine sd2 (h.vals.2 i y x' hy ?_)
  grind
theorem Ec6{n:Nat}(hJ:Xb9 K J){dd:List Nat}{s s2:St}{ac':Act}(hI:I2 P WB K J n ρ0 H0 F0 w0 s ac w ρ F W' up)(ho:Ub3 s.H s2.H=true)
  (hM:wb9 (·∈dd) ac.tmps ac.defers W' ρ (i6 s.H) F w s2 ac' w'):dd6 P WB K J n ρ0 H0 F0 w0 ⟨ka3 dd s.a s2.a 0,p7 s.H s2.H⟩ ac' w'/\ac'.defers=ac.defers/\(∀t,¬ t∈dd->ac'.tmps[t]?=ac.tmps[t]?):=by
 obtain⟨hd,hsz,hsm,ρ',F',hA,hH,hAr⟩:=hM;obtain⟨c1,c2⟩:=hI.core.step hJ hA ho hH;refine⟨⟨_,F',W',up,hd ▸ c1,⟨by rw[Yb1];have:=hI.vals.1;rw[Qdc,Array.length_toList] at this ⊢;omega,λi y y' hy hy'=>?_⟩,hsz.trans hI.size⟩,hd,hsm⟩
 have hn:=hI.size
 simp only at hy
 rw[Yb0] at hy;cases hz:s.a[i]? with
 |none=>rw[hz] at hy;cases hy
 |some z =>
  rw[hz] at hy;injection hy with hy;rw[Qar] at hy
  rcases Qaq i n with hi|hi
  ·rw[Qbb (by rw[Array.length_toList];omega)] at hy'
   have hy':ac'.tmps[i]?=some y':=by simpa using hy'
   cases hm:fb7 i dd with
   |true =>
    rw[hm] at hy;have hy:(s2.a[i]?).getD .unk=y:=hy;cases hq:s2.a[i]? with
    |none=>rw[hq] at hy;subst hy;exact .w (.unk _)
    |some q =>
     rw[hq] at hy;have hy:q=y:=hy;subst hy;exact .w (Ud8 hA ho (hAr.2 i q y' hq hy'))
   |false =>
    rw[hm] at hy;have hy:z=y:=hy;subst hy;have hnm:¬ i∈dd:=λh=>by rw[(dd7 i dd).2 h] at hm;cases hm
    rw[hsm i hnm] at hy';refine c2 _ _ (hI.vals.2 i z y' hz ?_)
    grind
  ·have hlen : s2.a.length = n := by
    have:=hAr.1
    omega
   have hnone:s2.a[i]?=none:=Qat (by omega)
   rw[Qba (by rw[Array.length_toList];omega)] at hy'
   have hy0:(ac.tmps.toList++up)[i]?=some y':=by
    grind
   rw[hnone] at hy;cases hm:fb7 i dd with
   |true=>rw[hm] at hy;have hy:a7.unk=y:=hy;subst hy;exact .w (.unk _)
   |false=>rw[hm] at hy;have hy:z=y:=hy;subst hy;exact c2 _ _ (hI.vals.2 i z y' hz hy0)
theorem Me7{Fe:Fence}{n m k kk:Nat}(hF:FW Fe)(hG0:GOk E F0 w0)(hcalls:∀f,d9 E.P E.G f (E.call f))(hJ:Xb9 K J){ops:Array Oper}{Q:Exit->Act->World->Prop}{rest:List Nat}{r:List Oper}{l:List PI}{dd:List Nat}{x:d8}{s s':St}
  (hr:∃t,ops.toList.drop k=r++t) (hDS:∀o∈r,∀d,o.dst=some d->d∈dd) (hl:oc0 E.P ops r=some l) (hI:dd6 E.P WB K J n ρ0 H0 F0 w0 s ac w) (he:(E2 E kk (.mask n dd (.ops l)) s).run=some (x,s'))
  (hQ:∀ac' w',dd6 E.P WB K J n ρ0 H0 F0 w0 s' ac' w'->ac'.defers=ac.defers->(∀t,¬ t∈dd->ac'.tmps[t]?=ac.tmps[t]?)->wpOpsIn Fe m E.P ops Q rest ac' w'):x=.normal/\wpOpsIn Fe m E.P ops Q (List.range' k r.length++rest) ac w:=by
 obtain⟨ρ,F,W',up,hI⟩:=hI;have he':((E2 E kk (.ops l) ⟨m8 (da5 s.H) (E1 s.a n),i6 s.H⟩).bind λr=>.guard (Ub3 s.H r.2.H) (.ret (r.1,⟨ka3 dd s.a r.2.a 0,p7 s.H r.2.H⟩))).run=some (x,s'):=he
 obtain⟨⟨x1,s1⟩,h1,h2⟩:=DT.run_bind_some he';obtain⟨ho,h2⟩:=DT.run_guard_some h2;have h2:some (x1,(⟨ka3 dd s.a s1.a 0,p7 s.H s1.H⟩:St))=some (x,s'):=h2;injection h2 with h2;injection h2 with e1 e2;subst e1 e2
 have h1':((L1 E l ⟨m8 (da5 s.H) (E1 s.a n),i6 s.H⟩).bind λs=>.ret (d8.normal,s)).run=some (x1,s1):=h1
 obtain⟨s2,h3,h4⟩:=DT.run_bind_some h1';have h4:some (d8.normal,s2)=some (x1,s1):=h4;injection h4 with h4;injection h4 with e1 e2;subst e1 e2
 refine⟨rfl,?_⟩;have hG:GOk E F w:=hG0.adv hI.core.adv;refine mf1 (DS:=(·∈dd)) (tm:=ac.tmps) (ds:=ac.defers) (W:=W') (ρ0:=ρ) (H0:=i6 s.H) (F0:=F) (w0:=w) hF hG hcalls r k l _ s2 ac w hr hDS hl ⟨rfl,rfl,λ_ _=>rfl,ρ,F,.refl,hI.core.hrel,hI.arel⟩ h3 λac' w' hM=>?_
 obtain⟨k1,k2,k3⟩:=Ec6 hJ hI ho hM;exact hQ ac' w' k1 k2 k3
end
section
variable{P:Program}{WB K:Nat->Prop}{J:List Value->World->Prop}{ρ ρ0 ρ':Rho}{H H0 H':List b7}{F F0 F':Fz}{w w0 w':World}{W':Nat->Prop}{up up':List Value}{ds:List Deferred}
theorem Ob3{a:Addr}(h:w'.heap[a.block]?=w.heap[a.block]?):w'.cell? a=w.cell? a:=by simp[World.cell?,h]
theorem Ec7{id:Nat}{b:b7}(hE:∀(id:Nat) b,H[id]?=some b->∃b',H'[id]?=some b'/\b'.et=b.et/\b'.dead=b.dead/\b'.g=b.g/\b'.es=b.es/\b.elems.length<=b'.elems.length/\(A9 b=false->b'=b))(hl:H'.length=H.length)(hb:(i6 H')[id]?=some b)(hd:b.dead=false):(i6 H)[id]?=some b:=by
 obtain⟨h1,h2⟩:=ca3 hb hd;have hlt:id<H.length:=hl ▸ (Qab.1 h1).1;obtain⟨b',k1,k2,_,_,k5,_,k6⟩:=hE id _ (Qaa hlt);obtain rfl:b'=b:=Qag (k1.symm.trans h1);have hs:A9 H[id]=false:=by
  unfold A9 at h2 ⊢;rw[<- k5];exact h2
 have:=k6 hs
 subst this;exact W9 (Qaa hlt) hs
theorem C2.alloc(h:C2 P WB K J ρ0 H0 F0 w0 H ds w ρ F W' up)(hJ:Xb9 K J)(o:Obj) :
  C2 P WB K J ρ0 H0 F0 w0 H ds (w.alloc o) ρ F (λk=>W' k/\k≠w.heap.size) up/\Tr ρ H F w ρ H F (w.alloc o)/\WB w.heap.size/\(∀b,F w.heap.size b->False):=by
 have hold:∀k,k<w.heap.size->(w.alloc o).heap[k]?=w.heap[k]?:=λk hk=>by
  simp only[World.alloc,Qau];rw[if_neg (Qan hk)]
 have hsz:(w.alloc o).heap.size=w.heap.size+1:=by simp
 have hF:∀b o',F b o'->b<w.heap.size:=λb o' hf=>zb0 (h.hrel.frz b o' hf)
 have hcells:∀b o',F b o'->(w.alloc o).cell? ⟨b,o',none⟩=w.cell? ⟨b,o',none⟩:=λb o' hf=>Ob3 (a:=⟨b,o',none⟩) (hold b (hF b o' hf))
 have hxc:∀x x',XC ρ H F w x x'->XC ρ H F (w.alloc o) x x':=λx x' hx=>by
  cases hx with
  |n hx=>exact .n (hx.carry (λid b hb hd=>⟨b,hb,hd,Qaf _,λ_=>⟨rfl,rfl,Qaf _⟩⟩) (λ_ _ h=>h) hcells)
  |box id c g b hb hd he=>exact .box id c g b hb hd he
  |map id c g b t hb hd he=>exact .map id c g b t hb hd he
 refine⟨⟨λk hk=>h.sub k hk.1,h.adv.trans ⟨⟨rfl,rfl,rfl,by omega,λk hk _=>hold k hk,hcells,Qaf _⟩,.refl,λ_ _ h=>h,λ_ _ h=>.inl h,λid b hb hn=>absurd rfl (hn b hb)⟩,?_,?_,λk hk=>?_,h.far,?_,?_⟩,λx x' hx=>?_,h.sub _ (h.hrel.new _ (Qaf _)),λb hf=>Nat.lt_irrefl _ (hF _ _ hf)⟩
 ·refine⟨λid b hb hd=>?_,h.hrel.apart,λb o' hf=>by rw[hcells b o' hf];exact h.hrel.frz b o' hf,λk hk=>⟨h.hrel.new k (by omega),by omega⟩⟩
  obtain⟨cc,t,fr,hB⟩:=h.hrel.blk id b hb hd;have hk:=hB.keep (w':=w.alloc o) (hold _ hB.lt) hcells;exact⟨cc,t,fr,hk.obj,hk.room,hk.len,hk.rows,hk.cell,λho=>by
   obtain⟨g1,g2,g3⟩:=hk.own ho;exact⟨g1,⟨g2,Qan hB.lt⟩,g3⟩,hk.kept⟩
 ·refine⟨λid b hb hs hd=>?_,h.srel.apart⟩
  obtain⟨k1,k2,k3,k4,k5⟩:=h.srel.has id b hb hs hd;refine⟨k1,λhk=>k2 hk.1,k3,by omega,?_⟩
  rcases k5 with⟨e,row,vs,t,m1,m2,m3,m4⟩|⟨t,K,El,fl,es,clk,m1,m2,m3,m4,m5⟩
  ·exact .inl ⟨e,row,vs,t,m1,(hold _ k4).trans m2,m3,λc x x' hx hx'=>⟨(m4 c x x' hx hx').1,hxc _ _ (m4 c x x' hx hx').2⟩⟩
  ·exact .inr ⟨t,K,El,fl,es,clk,m1,m2,m3,(hold _ k4).trans m4,m5⟩
 ·exact⟨λhw=>(h.kept k hk).1 hw.1,by have:=(h.kept k hk).2;omega⟩
 ·exact hJ up w _ (λk hk=>hold k (h.kept k hk).2) h.jot
 ·refine⟨λd hd=>?_,h.marks.2⟩
  obtain⟨D,h1,h2,h3,h4,h5⟩:=h.marks.1 d hd
  grind
 ·cases hx with
  |w hx=>exact .w (hx.carry (λid b hb hd=>⟨b,hb,hd,Qaf _,λ_=>⟨rfl,rfl,Qaf _⟩⟩) (λ_ _ h=>h) hcells)
  |c hx=>exact .c (hxc _ _ hx)
theorem C2.adopt(h:C2 P WB K J ρ0 H0 F0 w0 H ds w ρ F W' up)(k sz:Nat)(hk:WB k)(hkW:¬ W' k)(hkF:∀o,¬ F k o)(hks:k<w.heap.size)(hap:∀(id:Nat) b,H[id]?=some b->A9 b=true->b.dead=false->(ρ id).blk≠k)
  (hkK:¬ K k) (b:b7) (hb:A9 b=true) (hbd:b.dead=false) (hc:df0 (ρnew ρ H ⟨k,0,sz⟩) (H++[b]) F w b k\/df1 P w b k) :
  C2 P WB K J ρ0 H0 F0 w0 (H++[b]) ds w (ρnew ρ H ⟨k,0,sz⟩) F W' up/\Tr ρ H F w (ρnew ρ H ⟨k,0,sz⟩) (H++[b]) F w:=by
 have hρ:∀id,id<H.length->ρnew ρ H ⟨k,0,sz⟩ id=ρ id:=λid hid=>by simp[ρnew,Qan hid]
 have hρn:ρnew ρ H ⟨k,0,sz⟩ H.length=⟨k,0,sz⟩:=by simp[ρnew]
 have hlook:∀(id:Nat) c,(H++[b])[id]?=some c->(id<H.length/\H[id]?=some c)\/(id=H.length/\c=b):=λid c hc=>by
  rcases Qaq id H.length with hh|hh
  ·rw[Qbb hh] at hc;exact .inl ⟨hh,hc⟩
  ·rw[Qba hh] at hc;have h0:id-H.length=0:=by
    rcases Qav (id-H.length) with h0|h0
    ·exact h0
    ·rw[Qat (by simp;omega)] at hc;cases hc
   rw[h0] at hc;exact .inr ⟨by omega,by simpa using hc.symm⟩
 have hleft:∀{id:Nat} {c:b7},H[id]?=some c->(H++[b])[id]?=some c/\id<H.length:=λ{id c} hc=>by
  have hlt:=(Qab.1 hc).1;exact⟨by rw[Qbb hlt];exact hc,hlt⟩
 have hlive:∀(id:Nat) c,(i6 (H++[b]))[id]?=some c->c.dead=false->(i6 H)[id]?=some c/\id<H.length:=λid c hc hd=>by
  obtain⟨h1,h2⟩:=ca3 hc hd
  rcases hlook id c h1 with⟨hh,h3⟩|⟨_,rfl⟩
  ·exact⟨W9 h3 h2,hh⟩
  ·rw[hb] at h2;cases h2
 have hcar:rd6 ρ (i6 H) (ρnew ρ H ⟨k,0,sz⟩) (i6 (H++[b])):=λid c hc hd=>by
  obtain⟨h1,h2⟩:=ca3 hc hd;exact⟨c,W9 (hleft h1).1 h2,hd,Qaf _,λ_=>⟨hρ id (hleft h1).2,rfl,Qaf _⟩⟩
 have hxc:∀x x',XC ρ H F w x x'->XC (ρnew ρ H ⟨k,0,sz⟩) (H++[b]) F w x x':=λx x' hx=>by
  cases hx with
  |n hx=>exact .n (hx.carry hcar (λ_ _ h=>h) (λ_ _ _=>rfl))
  |box id c g b' hb' hd he=>rw[<- hρ id (hleft hb').2];exact .box id c g b' (hleft hb').1 hd he
  |map id c g b' t hb' hd he=>rw[<- hρ id (hleft hb').2];exact .map id c g b' t (hleft hb').1 hd he
 refine⟨⟨h.sub,h.adv.trans ⟨.refl,λid c hc=>⟨c,(hleft hc).1,rfl,Qaf _,λ_=>⟨hρ id (hleft hc).2,rfl,Qaf _⟩⟩,λ_ _ h=>h,λ_ _ h=>.inl h,λid c hc hn=>?_⟩,?_,?_,h.kept,λid c hc hs hd=>?_,h.jot,h.marks⟩,λx x' hx=>?_⟩
 ·grind
 ·exact h.hrel.pull (λi=>i) (λi c hc hd=>⟨(hlive i c hc hd).1,hρ i (hlive i c hc hd).2⟩) (λ_ _ _ _ _ _ _ _ e=>e)
 ·refine⟨λid c hc' hs hd=>?_,λid id' c c' hc1 hc1' hs hs' hd hd' hne=>?_⟩
  ·rcases hlook id c hc' with⟨hlt,h1⟩|⟨rfl,rfl⟩
   ·obtain⟨k1,k2,k3,k4,k5⟩:=h.srel.has id c h1 hs hd;rw[hρ id hlt];refine⟨k1,k2,k3,k4,?_⟩
    rcases k5 with⟨e,row,vs,t,m1,m2,m3,m4⟩|k5
    ·exact .inl ⟨e,row,vs,t,m1,m2,m3,λc x x' hx hx'=>⟨(m4 c x x' hx hx').1,hxc _ _ (m4 c x x' hx hx').2⟩⟩
    ·exact .inr k5
   simp_all
  ·rcases hlook id c hc1 with⟨hlt,h1⟩|⟨rfl,rfl⟩<;>rcases hlook id' c' hc1' with⟨hlt',h1'⟩|⟨rfl,rfl⟩
   ·rw[hρ id hlt,hρ id' hlt'];exact h.srel.apart id id' c c' h1 h1' hs hs' hd hd' hne
   ·simp_all
   ·grind
   ·exact absurd rfl hne
 ·rcases hlook id c hc with⟨hlt,h1⟩|⟨rfl,rfl⟩
  ·rw[hρ id hlt];exact h.far id c h1 hs hd
  ·rw[hρn];exact hkK
 ·cases hx with
  |w hx=>exact .w (hx.carry hcar (λ_ _ h=>h) (λ_ _ _=>rfl))
  |c hx=>exact .c (hxc _ _ hx)
theorem C2.change(h:C2 P WB K J ρ0 H0 F0 w0 H ds w ρ F W' up)(k:Nat)(hk:WB k)(hkW:¬ W' k)(hkF:∀o,¬ F k o)
  (hos:w'.os=w.os) (htape:w'.tape=w.tape) (hout:w'.output=w.output) (hdrawn:w.drawn<=w'.drawn) (hsize:w'.heap.size=w.heap.size) (hold:∀j,j≠k->w'.heap[j]?=w.heap[j]?)
  (hcc:∀cc t fr,w.heap[k]?=some (.cells cc t fr)->∃cc',w'.heap[k]?=some (.cells cc' t fr)/\cc'.size=cc.size)
  (hl:H'.length=H.length) (hE:∀(id:Nat) b,H[id]?=some b->∃b',H'[id]?=some b'/\b'.et=b.et/\b'.dead=b.dead/\b'.g=b.g/\b'.es=b.es/\b.elems.length<=b'.elems.length/\(A9 b=false->b'=b))
  (hsame:∀(id:Nat) b,H[id]?=some b->A9 b=true->b.dead=false->(ρ id).blk≠k->H'[id]?=some b)
  (hnew:(∀x x',XC ρ H F w x x'->XC ρ H' F w' x x')->∀(id:Nat) b,H'[id]?=some b->A9 b=true->b.dead=false->(ρ id).blk=k->df0 ρ H' F w' b k\/df1 P w' b k)
  (hJ:J up' w') (hM:∀D,({ target:=.collected D,args:=#[] }:Deferred)∈ds->w.heap[D]?=some (.deferred (some []))->D=k->w'.heap[D]?=some (.deferred (some []))) :
  C2 P WB K J ρ0 H0 F0 w0 H' ds w' ρ F W' up'/\Tr ρ H F w ρ H' F w':=by
 have hne:∀b o,F b o->b≠k:=λb o hf e=>hkF o (e ▸ hf)
 have hcells:∀b o,F b o->w'.cell? ⟨b,o,none⟩=w.cell? ⟨b,o,none⟩:=λb o hf=>Ob3 (a:=⟨b,o,none⟩) (hold b (hne b o hf))
 have hback:∀(id:Nat) b',H'[id]?=some b'->∃b,H[id]?=some b/\b'.et=b.et/\b'.dead=b.dead/\A9 b=A9 b':=λid b' hb'=>by
  have hlt:id<H.length:=hl ▸ (Qab.1 hb').1;obtain⟨b2,k1,k2,k3,k4,k5,_⟩:=hE id _ (Qaa hlt);obtain rfl:b2=b':=Qag (k1.symm.trans hb');exact⟨_,Qaa hlt,k2,k3,by unfold A9;rw[k5]⟩
 have hcar:rd6 ρ (i6 H) ρ (i6 H'):=λid b hb hd=>by
  obtain⟨h1,h2⟩:=ca3 hb hd;obtain⟨b',k1,_,_,_,_,_,k6⟩:=hE id b h1
  have:=k6 h2
  subst this;exact⟨b',W9 k1 h2,hd,Qaf _,λ_=>⟨rfl,rfl,Qaf _⟩⟩
 have hxc:∀x x',XC ρ H F w x x'->XC ρ H' F w' x x':=λx x' hx=>by
  cases hx with
  |n hx=>exact .n (hx.carry hcar (λ_ _ h=>h) hcells)
  |box id c g b hb hd he =>
   obtain⟨b',k1,k2,k3,k4,k5,_⟩:=hE id b hb;exact .box id c g b' k1 (k3.trans hd) ⟨k5.trans he.1,k2.trans he.2⟩
  |map id c g b t hb hd he =>
   obtain⟨b',k1,k2,k3,k4,k5,_⟩:=hE id b hb;exact .map id c g b' t k1 (k3.trans hd) ⟨k5.trans he.1,k2.trans he.2⟩
 refine⟨⟨h.sub,h.adv.trans ⟨⟨hos,htape,hout,by omega,λj _ hj=>hold j λe=>hj (e ▸ hk),hcells,hdrawn⟩,λid b hb=>?_,λ_ _ h=>h,λ_ _ h=>.inl h,λid b' hb' hn=>?_⟩,?_,?_,λj hj=>⟨(h.kept j hj).1,by rw[hsize];exact (h.kept j hj).2⟩,λid b hb hs hd=>?_,hJ,⟨λd hd=>?_,h.marks.2⟩⟩,λx x' hx=>?_⟩
 ·grind
 ·grind
 ·refine⟨λid b hb hd=>?_,λid id' b b' hb hb' hd hd' ho hne'=>h.hrel.apart id id' b b' (Ec7 hE hl hb hd) (Ec7 hE hl hb' hd') hd hd' ho hne',λb o hf=>by rw[hcells b o hf];exact h.hrel.frz b o hf,λj hj=>h.hrel.new j (by rw[<- hsize];exact hj)⟩
  obtain⟨cc,t,fr,hB⟩:=h.hrel.blk id b (Ec7 hE hl hb hd) hd;by_cases e:(ρ id).blk=k
  ·obtain⟨cc',h1,h2⟩:=hcc cc t fr (e ▸ hB.obj);have hno:b.own=false:=by
    cases ho:b.own with
    |false=>rfl
    |true=>exact absurd (e ▸ (hB.own ho).2.1) hkW
   have hz:b.elems.length*b.es=0:=by
    rcases Qav (b.elems.length*b.es) with h0|h0
    ·exact h0
    ·exact absurd (e ▸ hB.kept hno 0 h0) (hkF _)
   refine⟨cc',t,fr,e ▸ h1,by rw[h2];exact hB.room,hB.len,hB.rows,λi r c x hr hx=>?_,(λho=>by rw[hno] at ho;cases ho),hB.kept⟩
   have hi:=(Qab.1 hr).1;have hc:=(Qab.1 hx).1;rw[hB.rows i r hr] at hc
   have:=Nat.mul_pos (show 0<b.elems.length by omega) (show 0<b.es by omega)
   omega
  ·exact⟨cc,t,fr,hB.keep (hold _ e) hcells⟩
 ·refine⟨λid b hb hs hd=>?_,λid id' b b' hb hb' hs hs' hd hd' hne'=>?_⟩
  ·obtain⟨b0,h1,h2,h3,h4⟩:=hback id b hb;obtain⟨k1,k2,k3,k4,k5⟩:=h.srel.has id b0 h1 (by rw[h4];exact hs) (by rw[<- h3];exact hd)
   refine⟨k1,k2,k3,by rw[hsize];exact k4,?_⟩
   by_cases e:(ρ id).blk=k
   ·grind
   ·have hb0:b0=b:=Qag ((hsame id b0 h1 (by rw[h4];exact hs) (by rw[<- h3];exact hd) e).symm.trans hb)
    subst hb0
    rcases k5 with⟨e',row,vs,t,m1,m2,m3,m4⟩|⟨t,K,El,fl,es,clk,m1,m2,m3,m4,m5⟩
    ·exact .inl ⟨e',row,vs,t,m1,(hold _ e).trans m2,m3,λc x x' hx hx'=>⟨(m4 c x x' hx hx').1,hxc _ _ (m4 c x x' hx hx').2⟩⟩
    ·exact .inr ⟨t,K,El,fl,es,clk,m1,m2,m3,(hold _ e).trans m4,m5⟩
  ·obtain⟨b0,h1,h2,h3,h4⟩:=hback id b hb;obtain⟨b0',h1',h2',h3',h4'⟩:=hback id' b' hb';exact h.srel.apart id id' b0 b0' h1 h1' (by rw[h4];exact hs) (by rw[h4'];exact hs') (by rw[<- h3];exact hd) (by rw[<- h3'];exact hd') hne'
 ·obtain⟨b0,h1,h2,h3,h4⟩:=hback id b hb;exact h.far id b0 h1 (by rw[h4];exact hs) (by rw[<- h3];exact hd)
 ·obtain⟨D,h1,h2,h3,h4,h5⟩:=h.marks.1 d hd
  grind
 ·cases hx with
  |w hx=>exact .w (hx.carry hcar (λ_ _ h=>h) hcells)
  |c hx=>exact .c (hxc _ _ hx)
end
section
variable{WB K:Nat->Prop}{J:List Value->World->Prop}{ρ ρ0:Rho}{H H0 H':List b7}{F F0:Fz}{w w0 w':World}{W':Nat->Prop}{up:List Value}{E:Env}{a:List a7}{ac:Act}{x:a7}{o:Oper}
def Jb3(P:Program)(WB K:Nat->Prop)(J:List Value->World->Prop)(ρ0:Rho)(H0:List b7)(F0:Fz)(w0:World)(ρ:Rho)(H:List b7)(F:Fz)(w:World)(up:List Value)(ds:List Deferred)(x:a7)(H':List b7)(x':Value)(w':World):Prop :=
 ∃ρ' F' W'',C2 P WB K J ρ0 H0 F0 w0 H' ds w' ρ' F' W'' up/\Tr ρ H F w ρ' H' F' w'/\XW ρ' H' F' w' x x'
def ltO(n:Nat):Operand->Bool
 |.tmp t=>Nat.blt t n
 |_=>true
theorem kb8{n:Nat}(hv:VR ρ H F w a (ac.tmps.toList++up))(hn:ac.tmps.size=n)(hG:GOk E F w)(y:Operand)(hy:ltO n y=true):XW ρ H F w (b8 E a (f0 y)) (ac.eval y):=by
 cases y with
 |tmp t =>
  show XW ρ H F w (b8 E a (.t t)) (ac.tmps.getD t undef);have hlt:t<n:=by have:=hy;unfold ltO at this;rwa [Qcf] at this
  rw[lb5];have hl:=hv.1;rw[Qdc] at hl;have hsz:ac.tmps.toList.length=ac.tmps.size:=Array.length_toList;have hlt':t<ac.tmps.size:=hn ▸ hlt;have ha:t<a.length:=by rw[hl,hsz];exact Qam hlt' (Nat.le_add_right _ _)
  have h1:a[t]?=some a[t]:=Qaa ha;have h2:(ac.tmps.toList++up)[t]?=some ac.tmps[t]:=by
   grind
  have:=hv.2 t _ _ h1 h2
  simpa [h1,Array.getD,hlt'] using this
 |const v=>exact .w (C9.ofVal v)
 |func f=>exact .w (.val (.cell (.mem (.fn0 f))))
 |global g =>
  have:va8 (λ_=>⟨0,0,0⟩) [] F w [] #[]:=⟨rfl,λi x x' hx=>by simp at hx⟩
  have h:=i7 (ρ:=ρ) (H:=i6 H) (a:=[]) (ac:=⟨#[],[]⟩) ⟨rfl,λi x x' hx=>by simp at hx⟩ hG (.global g)
  exact .w h
theorem Ob4{t:Nat}{b:b7}(h:sd1 b)(h':Jd8 t b):False:=by
 have h1:b.et=0:=h.2;have h2:b.et=t+1:=h'.2;rw[h1] at h2;cases h2
theorem Jb4{id c g:Nat}{b:b7}{v:Value}(hs:ic4 0 H x=some (id,c,g,b))(hx:XW ρ H F w x v):x=.ptr id 0 c g/\H[id]?=some b/\b.dead=false/\sd1 b/\v=.pointer (some ⟨(ρ id).blk,c,none⟩):=by
 revert hs hx
 cases x with
 |ptr id' i' c' g' =>
  intro hs hx;simp only[ic4,B0] at hs;cases hb:H[id']? with
  |none=>simp[hb] at hs
  |some b' =>
  simp only[hb] at hs;cases hd:b'.dead with
  |true=>simp[hd] at hs
  |false =>
  simp only[hd] at hs;cases he:(A9 b'&&Nat.beq b'.et 0) with
  |false=>simp[he] at hs
  |true =>
  simp only[he] at hs;cases hg:Nat.beq b'.g g' with
  |false=>simp[hg] at hs
  |true =>
  simp only[hg] at hs;cases hi:Nat.beq i' 0 with
  |false=>simp[hi] at hs
  |true =>
  simp only[hi] at hs;injection hs with hs;injection hs with e1 hs;injection hs with e2 hs;injection hs with e3 e4
  subst e1 e2 e3 e4;rw[Qas] at he;have he:=And.intro (Qad he.1) (Qad he.2);have hi:=Qad hi;subst hi;refine⟨rfl,hb,hd,he,?_⟩;have hdead:∀q,(i6 H)[id']?=some q->q.dead=true:=λq hq=>by
   rw[dd2 hb (Ua8 he)] at hq;injection hq with hq;rw[<- hq]
  have hno:∀{v},U2 ρ (i6 H) F w (.ptr id' 0 c' g') v->False:=λ{v} h=>by
   cases h with
   |mem h=>cases h
   |ptr _ _ _ _ ad q hq hd'=>rw[hdead q hq] at hd';cases hd'
  cases hx with
  |w h=>cases h with
   |val h=>cases h with
    |cell h=>exact (hno h).elim
  |c h =>
   cases h with
   |n h=>exact (hno h).elim
   |box=>rfl
   |map _ _ _ b2 t hb2 _ he2 =>
    have:b2=b':=Qag (hb2.symm.trans hb)
    subst this;exact (Ob4 he he2).elim
 |_=>intro hs;cases hs
theorem sd3{t id c g:Nat}{b:b7}{v:Value}(hs:ic4 (t+1) H x=some (id,c,g,b))(hx:XW ρ H F w x v):x=.ptr id 0 c g/\H[id]?=some b/\b.dead=false/\Jd8 t b/\v=.map (some (ρ id).blk):=by
 revert hs hx
 cases x with
 |ptr id' i' c' g' =>
  intro hs hx;simp only[ic4,B0] at hs;cases hb:H[id']? with
  |none=>simp[hb] at hs
  |some b' =>
  simp only[hb] at hs;cases hd:b'.dead with
  |true=>simp[hd] at hs
  |false =>
  simp only[hd] at hs;cases he:(A9 b'&&Nat.beq b'.et (t+1)) with
  |false=>simp[he] at hs
  |true =>
  simp only[he] at hs;cases hg:Nat.beq b'.g g' with
  |false=>simp[hg] at hs
  |true =>
  simp only[hg] at hs;cases hi:Nat.beq i' 0 with
  |false=>simp[hi] at hs
  |true =>
  simp only[hi] at hs;injection hs with hs;injection hs with e1 hs;injection hs with e2 hs;injection hs with e3 e4
  subst e1 e2 e3 e4;rw[Qas] at he;have he:=And.intro (Qad he.1) (Qad he.2);have hi:=Qad hi;subst hi;refine⟨rfl,hb,hd,he,?_⟩;have hdead:∀q,(i6 H)[id']?=some q->q.dead=true:=λq hq=>by
   rw[dd2 hb (Za7 he)] at hq;injection hq with hq;rw[<- hq]
  have hno:∀{v},U2 ρ (i6 H) F w (.ptr id' 0 c' g') v->False:=λ{v} h=>by
   cases h with
   |mem h=>cases h
   |ptr _ _ _ _ ad q hq hd'=>rw[hdead q hq] at hd';cases hd'
  cases hx with
  |w h=>cases h with
   |val h=>cases h with
    |cell h=>exact (hno h).elim
  |c h =>
   cases h with
   |n h=>exact (hno h).elim
   |map=>rfl
   |box _ _ _ b2 hb2 _ he2 =>
    have:b2=b':=Qag (hb2.symm.trans hb)
    subst this;exact (Ob4 he2 he).elim
 |_=>intro hs;cases hs
theorem Jd9(H:List b7)(et:Nat)(elems:List (List a7)):rc7 H et elems=H++[{ et,es:=0,elems,own:=true,dead:=false,g:=0 }]:=by simp[rc7,J0]
theorem Kd0{y:a7}{y':Value}(hy:XW ρ H F w y y')(hp:Ya9 y=true)(hb:Ga9 Qd9 (D9 y)=true) :
  (D9 y).length=y'.cells.toList.length/\∀(i:Nat) z z',(D9 y)[i]?=some z->y'.cells.toList[i]?=some z'->z'.oneCell'=true/\XC ρ H F w z z':=by
 have hone:∀{i:Nat} {z:a7} {z':Value},(D9 y)[i]?=some z->XC ρ H F w z z'->z'.oneCell'=true/\XC ρ H F w z z':=λ{i z z'} hz hx=>⟨hx.one (wd9 hb z (Qbc hz)),hx⟩
 cases hy with
 |w h =>
  obtain⟨h1,h2⟩:=ec8 h hp;exact⟨h1,λi z z' hz hz'=>hone hz (.n (h2 i z z' hz hz'))⟩
 |c h =>
  have h0:=h;cases h with
  |n h =>
   obtain⟨h1,h2⟩:=ec8 (.val (.cell h)) hp;exact⟨h1,λi z z' hz hz'=>hone hz (.n (h2 i z z' hz hz'))⟩
  |box id c g b h1 h2 h3 =>
   refine⟨rfl,λi z z' hz hz'=>?_⟩
   cases i with
   |zero=>simp[D9,Value.cells] at hz hz';subst hz hz';exact⟨rfl,h0⟩
   |succ i=>simp[D9] at hz
  |map id c g b t h1 h2 h3 =>
   refine⟨rfl,λi z z' hz hz'=>?_⟩
   cases i with
   |zero=>simp[D9,Value.cells] at hz hz';subst hz hz';exact⟨rfl,h0⟩
   |succ i=>simp[D9] at hz
section
variable{ds:List Deferred}(hC:C2 E.P WB K J ρ0 H0 F0 w0 H ds w ρ F W' up)(hJ:Xb9 K J)
include hC hJ
theorem we2(row:List a7)(vs:Array Value)(t:TypeId)(hl:row.length=vs.size)(hc:∀(c:Nat) x x',row[c]?=some x->vs[c]?=some x'->x'.oneCell'=true/\XC ρ H F w x x') :
  Jb3 E.P WB K J ρ0 H0 F0 w0 ρ H F w up ds (.ptr H.length 0 0 0) (rc7 H 0 [row]) (.pointer (some ⟨w.heap.size,0,none⟩)) (w.alloc (.cells vs t)):=by
 obtain⟨c1,c2,c3,c4⟩:=hC.alloc hJ (.cells vs t);have hap:∀(id:Nat) b,H[id]?=some b->A9 b=true->b.dead=false->(ρ id).blk≠w.heap.size:=λid b hb hs hd=>Qan (hC.srel.has id b hb hs hd).2.2.2.1
 rw[Jd9];have hnew:(w.alloc (.cells vs t)).heap[w.heap.size]?=some (.cells vs t (0,0)):=by simp only[World.alloc,Qau];simp
 have hfirst:∀{x x'},XC ρ H F (w.alloc (.cells vs t)) x x'->XC (ρnew ρ H ⟨w.heap.size,0,0⟩) (H++[{ et:=0,es:=0,elems:=[row],own:=true,dead:=false,g:=0 }]) F (w.alloc (.cells vs t)) x x':=λ{x x'} hx=>by
  have hlt:∀{id:Nat} {b:b7},H[id]?=some b->id<H.length:=λh=>(Qab.1 h).1
  have hρ:∀id,id<H.length->ρnew ρ H ⟨w.heap.size,0,0⟩ id=ρ id:=λid hid=>by simp[ρnew,Qan hid]
  cases hx with
  |n hx =>
   refine .n (hx.carry (λid b hb hd=>?_) (λ_ _ h=>h) (λ_ _ _=>rfl))
   obtain⟨k1,k2⟩:=ca3 hb hd;exact⟨b,W9 (by rw[Qbb (hlt k1)];exact k1) k2,hd,Qaf _,λ_=>⟨hρ id (hlt k1),rfl,Qaf _⟩⟩
  |box id c g b hb hd he =>
   rw[<- hρ id (hlt hb)];exact .box id c g b (by rw[Qbb (hlt hb)];exact hb) hd he
  |map id c g b t hb hd he =>
   rw[<- hρ id (hlt hb)];exact .map id c g b t (by rw[Qbb (hlt hb)];exact hb) hd he
 obtain⟨d1,d2⟩:=c1.adopt w.heap.size 0 c3 (λh=>h.2 rfl) (λo hf=>c4 o hf) (by simp) hap (λhk=>Nat.lt_irrefl _ (hC.kept _ hk).2) { et:=0,es:=0,elems:=[row],own:=true,dead:=false,g:=0 } (Ua8 ⟨rfl,rfl⟩) rfl
  (.inl ⟨⟨rfl,rfl⟩,row,vs,t,rfl,hnew,Nat.le_of_eq hl,λc x x' hx hx'=>by
   obtain⟨k1,k2⟩:=hc c x x' hx hx';have k3:=c2 x x' (.c k2);refine⟨k1,hfirst ?_⟩;cases k3 with
   |c h=>exact h
   |w h =>
    cases k2 with
    |n k2 =>
     cases h with
     |val h =>
      cases h with
      |cell h=>exact .n h
      |agg=>cases k1
      |fn f caps vs' hl' h' =>
       exact .n (k2.carry (λid b hb hd=>⟨b,hb,hd,Qaf _,λ_=>⟨rfl,rfl,Qaf _⟩⟩) (λ_ _ h=>h) λb o hf=>Ob3 (a:=⟨b,o,none⟩) (by
        have:=zb0 (hC.hrel.frz b o hf)
        simp only[World.alloc,Qau];rw[if_neg (Qan this)]))
     |tup=>cases k1
    |box id c g b hb hd he=>exact .box id c g b hb hd he
    |map id c g b t hb hd he=>exact .map id c g b t hb hd he⟩)
 refine⟨_,F,_,d1,λx x' hx=>d2 _ _ (c2 _ _ hx),.c ?_⟩
 have hρn:(ρnew ρ H ⟨w.heap.size,0,0⟩ H.length).blk=w.heap.size:=by simp[ρnew]
 have:=XC.box (ρ:=ρnew ρ H ⟨w.heap.size,0,0⟩) (F:=F) (w:=w.alloc (.cells vs t)) H.length 0 0 { et:=0,es:=0,elems:=[row],own:=true,dead:=false,g:=0 } (H:=H++[{ et:=0,es:=0,elems:=[row],own:=true,dead:=false,g:=0 }]) (by simp) rfl ⟨rfl,rfl⟩
 rwa [hρn] at this
theorem me0{t:TypeId}{z:List a7}(ho:o.op=.alloc t)(hz:zeT E.P t=some z)(he:(gb1 E a H (.balloc z)).run=some (x,H')) :
  f7 E.P o ac w (Jb3 E.P WB K J ρ0 H0 F0 w0 ρ H F w up ds x H'):=by
 have he':some (a7.ptr (len H) 0 0 0,rc7 H 0 [z])=some (x,H'):=he;injection he' with he';injection he' with e1 e2;subst e1 e2
 rw[j8];obtain⟨ti,zv,hi,hzz,rfl,hone⟩:=qb2 hz;refine .value (x':=.pointer (some ⟨w.heap.size,0,none⟩)) (w':=w.alloc (.cells zv.cells t)) (by simp[execOp,ho,Instr.alloc,zeroValue,typeInfo,hi,hzz,newVar,newRow]) ?_
 refine we2 hC hJ _ zv.cells t (by simp) λc y y' hy hy'=>?_
 rw[Qbe] at hy;have hy'':zv.cells.toList[c]?=some y':=by simpa using hy'
 rw[hy''] at hy
 simp at hy
 subst hy;exact⟨hone y' (Qbc hy''),.n (.v _)⟩
theorem Me8{n:Nat}{t:TypeId}{y:Operand}(hv:VR ρ H F w a (ac.tmps.toList++up))(hn:ac.tmps.size=n)(hG:GOk E F w)(ho:o.op=.box t y)(hy:ltO n y=true)(he:(gb1 E a H (.bbox (f0 y))).run=some (x,H')) :
  f7 E.P o ac w (Jb3 E.P WB K J ρ0 H0 F0 w0 ρ H F w up ds x H'):=by
 have hyr:=kb8 hv hn hG y hy;simp only[gb1] at he;cases hc:(Ya9 (b8 E a (f0 y))&&Ga9 Qd9 (D9 (b8 E a (f0 y)))) with
 |false=>rw[hc] at he;cases he
 |true =>
 rw[hc] at he;have he':some (a7.ptr (len H) 0 0 0,rc7 H 0 [D9 (b8 E a (f0 y))])=some (x,H'):=he;injection he' with he';injection he' with e1 e2;subst e1 e2
 rw[Qas] at hc;rw[j8];obtain⟨h1,h2⟩:=Kd0 hyr hc.1 hc.2;refine .value (x':=.pointer (some ⟨w.heap.size,0,none⟩)) (w':=w.alloc (.cells (ac.eval y).cells t)) (by simp[execOp,ho,Instr.box,newVar,newRow]) ?_
 exact we2 hC hJ _ (ac.eval y).cells t (by simpa using h1) λc y y' hy hy'=>h2 c y y' hy (by simpa using hy')
end
end
end Go.Ev
