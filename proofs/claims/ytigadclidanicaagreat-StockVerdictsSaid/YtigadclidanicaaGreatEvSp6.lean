/- Own work. -/
import Derived.Test.YtigadclidanicaaGreatEvDraw7
import Derived.Shelf.SlSortCmp.WholeK
import Derived.CallsIn
import Derived.RangeFuncIn
import Derived.RangeFuncRecord
import Derived.RangeFuncLeaves
import Derived.ControlIn
import Derived.LoopNIn
import Derived.TacticsIn
set_option linter.all false
noncomputable section
def Qda:=@List.getD_eq_getElem?_getD
def Qdb:=@Array.getElem?_append_left
def Qdc:=@List.length_append
def Qdd:=@Array.getElem?_modify
namespace Go.Ev
open Go
abbrev Sum:=List b7->List c7->DT (b7×List c7)
def ALe(x y:b7):Prop:=∀ρ H F w v,K8 ρ H F w x v->K8 ρ H F w y v
theorem ALe.refl(x:b7):ALe x x:=λ_ _ _ _ _ h=>h
inductive Id9:List b7->List b7->Prop
 |nil:Id9 [] []
 |cons {x y l r} (h:ALe x y) (t:Id9 l r):Id9 (x::l) (y::r)
theorem Id9.refl:∀l,Id9 l l
 |[]=>.nil
 |x::l=>.cons (.refl x) (Id9.refl l)
theorem Id9.length{l r}(h:Id9 l r):l.length=r.length:=by induction h<;>simp_all
theorem Id9.get{l r}(h:Id9 l r):∀(i:Nat) y,r[i]?=some y->∃x,l[i]?=some x/\ALe x y:=by
 induction h with
 |nil=>intro i y hy;simp at hy
 |cons h t ih =>
  grind
theorem l8.refine{P:Program}{G:Nat->List Value}{f:FuncId}{S S':Sum}(h:l8 P G f S)
  (hr:∀args blks r,(S' args blks).run=some r->∃Dc1,Id9 args Dc1/\(S Dc1 blks).run=some r):l8 P G f S':=by
 intro args blks r out he W ρ F w args' hH hlen hargs hG;obtain⟨Dc1,ha,he2⟩:=hr args blks _ he;refine h Dc1 blks r out he2 W ρ F w args' hH (ha.length ▸ hlen) (λi y x' hy hx'=>?_) hG
 obtain⟨x,hx,hle⟩:=ha.get i y hy;exact hle _ _ _ _ _ (hargs i x x' hx hx')
def eg6(l:List (Nat×Sum)):FuncId->Sum :=
 List.rec (motive:=λ_=>FuncId->Sum) (λ_ _ _=>.fail) (λp _ ih f=>Bool.rec (motive:=λ_=>Sum) (ih f) p.2 (Nat.beq p.1 f)) l
def A4(P:Program)(G:Nat->List Value):List (Nat×Sum)->Prop
 |[]=>True
 |p::l=>l8 P G p.1 p.2/\A4 P G l
theorem Ze4{P:Program}{G:Nat->List Value}:∀{l:List (Nat×Sum)},A4 P G l->∀f,l8 P G f (eg6 l f)
 |[],_,f=>λargs blks r out h=>by cases h
 |(n,S)::l,h,f=>by
  show l8 P G f (Bool.rec (motive:=λ_=>Sum) (eg6 l f) S (Nat.beq n f))
  cases hb:Nat.beq n f with
  |false=>exact Ze4 h.2 f
  |true=>rw[<- Qad hb];exact h.1
inductive PS where
 |pc (c:PC)
 |seq (a b:PS)
 |cond (c:Arg) (x y:PS)
 |block (id:Nat) (c:PS)
 |loop (keep:List Nat) (c:PS)
 |sum (S:St->DT (l4×St))
def rg1(E:Env)(k:Nat)(c:PS):St->DT (l4×St) :=
 PS.rec (motive:=λ_=>St->DT (l4×St))
  (λc=>M2 E k c)
  (λ_ _ x y s=>(x s).bind λr=>l4.rec (motive:=λ_=>DT (l4×St)) (y r.2) (λid=>.ret (.exit id,r.2)) (.ret (.ret,r.2)) r.1)
  (λc _ _ x y s=>match c9 E s.a c with
   |.v (.bool b)=>.ite b (x s) (y s)
   |_=>.fail)
  (λid _ x s=>(x s).bind λr=>l4.rec (motive:=λ_=>DT (l4×St)) (.ret (.normal,r.2))
   (λid'=>Bool.rec (.ret (.exit id',r.2)) (.ret (.normal,r.2)) (Nat.beq id' id)) (.ret (.ret,r.2)) r.1)
  (λkeep _ x=>Ac2 (λs=>tidy k ⟨X6 keep s.a 0,s.H⟩) x E.N)
  (λS=>S) c
def fa2{α:Type}(x y:DT α):Prop:=∀r,x.run=some r->y.run=some r
theorem fa2.refl{α:Type}(x:DT α):fa2 x x:=λ_ h=>h
theorem fa2.bind{α β:Type}{x y:DT α}{f g:α->DT β}(h:fa2 x y)(hf:∀a,fa2 (f a) (g a)):fa2 (x.bind f) (y.bind g):=λr hr=>by
 obtain⟨a,h1,h2⟩:=DT.run_bind_some hr;rw[DT.run_bind,h a h1];exact hf a r h2
theorem fa2.ite{α:Type}{b:Bool}{x y x' y':DT α}(h:fa2 x x')(h':fa2 y y'):fa2 (.ite b x y) (.ite b x' y'):=λr hr=>by
 rw[DT.run_ite] at hr ⊢
 split at hr
 ·next hb=>simpa [hb] using h r hr
 ·next hb=>simpa [hb] using h' r hr
theorem fa2.fail{α:Type}(y:DT α):fa2 .fail y:=λ_ h=>by cases h
theorem pc2{head:St->DT St}{body body':St->DT (l4×St)}(h:∀s,fa2 (body s) (body' s)):∀n s,fa2 (Ac2 head body n s) (Ac2 head body' n s)
 |0,s=>.refl _
 |n+1,s=>by
  show fa2 ((head s).bind λs=>(body s).bind _) ((head s).bind λs=>(body' s).bind _)
  refine fa2.bind (.refl _) λs=>(h s).bind λr=>?_
  rcases r with⟨x,s'⟩
  cases x with
  |normal=>exact pc2 h n s'
  |exit id=>exact .refl _
  |ret=>exact .refl _
inductive pb6 (E:Env) (k:Nat):PS->PC->Prop
 |pc (c:PC):pb6 E k (.pc c) c
 |seq {a b:PS} {a' b':PC} (h:pb6 E k a a') (h':pb6 E k b b'):pb6 E k (.seq a b) (.seq a' b')
 |cond (c:Arg) {a b:PS} {a' b':PC} (h:pb6 E k a a') (h':pb6 E k b b'):pb6 E k (.cond c a b) (.cond c a' b')
 |block (id:Nat) {a:PS} {a':PC} (h:pb6 E k a a'):pb6 E k (.block id a) (.block id a')
 |loop (keep:List Nat) {a:PS} {a':PC} (h:pb6 E k a a'):pb6 E k (.loop keep a) (.loop keep a')
 |sum {S:St->DT (l4×St)} {c:PC} (h:∀s,fa2 (S s) (M2 E k c s)):pb6 E k (.sum S) c
theorem pb6.le{E:Env}{k:Nat}{a:PS}{c:PC}(h:pb6 E k a c):∀s,fa2 (rg1 E k a s) (M2 E k c s):=by
 induction h with
 |pc c=>exact λs=>.refl _
 |seq h h' ih ih' =>
  intro s;refine (ih s).bind λr=>?_
  rcases r with⟨x,s'⟩
  cases x with
  |normal=>exact ih' s'
  |exit id=>exact .refl _
  |ret=>exact .refl _
 |cond c h h' ih ih' =>
  intro s;show fa2 (match c9 E s.a c with | .v (.bool b)=>_ | _=>_) (match c9 E s.a c with | .v (.bool b)=>_ | _=>_)
  split
  ·exact .ite (ih s) (ih' s)
  ·exact .fail _
 |block id h ih=>exact λs=>(ih s).bind λr=>.refl _
 |loop keep h ih=>exact λs=>pc2 ih _ s
 |sum h=>exact h
def Zb1(head:St->DT St)(body:St->DT (l4×St))(s:St):DT (l4×St) :=
 (body s).bind λr=>l4.rec (motive:=λ_=>DT (l4×St)) ((head r.2).bind λs=>.ret (.normal,s)) (λid=>.ret (.exit id,r.2)) (.ret (.ret,r.2)) r.1
def Yc7(head:St->DT St)(body:St->DT (l4×St))(n:Nat)(s:St):DT (l4×St) :=
 (body s).bind λr=>l4.rec (motive:=λ_=>DT (l4×St)) (Ac2 head body n r.2) (λid=>.ret (.exit id,r.2)) (.ret (.ret,r.2)) r.1
theorem Pc3{head:St->DT St}{body:St->DT (l4×St)}{n:Nat}{s t:St}{r:l4×St}(h:(head s).run=some t)(h2:(Yc7 head body n t).run=some r):(Ac2 head body (n+1) s).run=some r:=by
 show ((head s).bind λs=>Yc7 head body n s).run=some r
 rw[DT.run_bind,h];exact h2
theorem Lf5{head:St->DT St}{body:St->DT (l4×St)}{n:Nat}{s t:St}{r:l4×St}(h:(Zb1 head body s).run=some (.normal,t))(h2:(Yc7 head body n t).run=some r):(Yc7 head body (n+1) s).run=some r:=by
 obtain⟨⟨x,s1⟩,h3,h4⟩:=DT.run_bind_some h;cases x with
 |normal =>
  obtain⟨t',h5,h6⟩:=DT.run_bind_some h4;cases h6;show ((body s).bind _).run=_;rw[DT.run_bind,h3];exact Pc3 h5 h2
 |exit id=>cases h4
 |ret=>cases h4
theorem Lf6{head:St->DT St}{body:St->DT (l4×St)}{n:Nat}{s t:St}{x:l4}(h:(Zb1 head body s).run=some (x,t))(hx:x≠.normal):(Yc7 head body n s).run=some (x,t):=by
 obtain⟨⟨y,s1⟩,h3,h4⟩:=DT.run_bind_some h;cases y with
 |normal =>
  obtain⟨t',h5,h6⟩:=DT.run_bind_some h4
  simp_all
 |exit id =>
  show ((body s).bind _).run=_;rw[DT.run_bind,h3];exact h4
 |ret =>
  show ((body s).bind _).run=_;rw[DT.run_bind,h3];exact h4
@[reducible] def Dc9(k:Nat)(keep:List Nat)(s:St):DT St:=tidy k ⟨X6 keep s.a 0,s.H⟩
theorem ee4(E:Env)(k:Nat)(keep:List Nat)(c:PC)(s:St):M2 E k (.loop keep c) s=Ac2 (Dc9 k keep) (M2 E k c) E.N s:=rfl
inductive Sh where
 |unk
 |int
 |bool
 |tree (es:Nat)
 |ptr (id i c g:Nat)
@[reducible] def sel{α:Type}(c:Bool)(t e:α):α:=Bool.rec (motive:=λ_=>α) e t c
theorem xb9{g a:Int}(h:a>0):(Int.tmod g a).toNat<a.toNat:=by
 have:=Int.tmod_lt_of_pos g h
 omega
@[reducible] def i(n:Int):b7:=.v (.int .i64 n)
@[reducible] def b(x:Bool):b7:=.v (.bool x)
def Lf7:b7->Option Int
 |.v (.int .i64 n)=>some n
 |_=>none
theorem Lf8{x:b7}{n:Int}(h:Lf7 x=some n):x=i n:=by
 unfold Lf7 at h
 grind
abbrev W(n:Int):Int:=IntKind.wrap .i64 n
structure Cod(α:Type) where
 enc:α->b7
 dec:b7->Option α
 grd:b7->Bool
 ok:∀x a,dec x=some a->grd x=true->ALe x (enc a)
theorem ALe.of{x y:b7}(h:x=y):ALe x y:=h ▸ .refl x
def cI:Cod Int:=⟨i,Lf7,λ_=>true,λ_ _ h _=>.of (Lf8 h)⟩
theorem fa8.get{F:Fz}{w:World}{es n:Nat}{get get':Nat->List b7}{v:Value}(h:fa8 F w (.tree es n get) v)(he:∀k,k<n->get' k=get k):fa8 F w (.tree es n get') v:=by
 cases h with
 |tree _ _ _ a cap cs hs hcap hes hF hw hr =>
  refine .tree es n get' a cap cs hs hcap (λi hi=>by rw[he i hi];exact hes i hi) hF hw (λi c hi hc=>?_)
  grind
 |nil=>exact .nil _ _
theorem ALe.tree{es n:Nat}{get get':Nat->List b7}(he:∀k,k<n->get' k=get k):ALe (.tree es n get) (.tree es n get'):=λρ H F w v h=>.val (.cell (.mem ((Ea8 h).get he)))
def g3(x y z:Int):Nat->List b7
 |0=>[i x]
 |1=>[i y]
 |_=>[i z]
def Lf9:List b7->Option Int
 |[x]=>Lf7 x
 |_=>none
def d3(x:b7):Option (Int×Int×Int):=match x with
 |.tree 1 3 get=>Option.rec (motive:=λ_=>Option (Int×Int×Int)) none (λa=>Option.rec (motive:=λ_=>Option (Int×Int×Int)) none (λb=>Option.rec (motive:=λ_=>Option (Int×Int×Int)) none (λc=>some (a,b,c)) (Lf9 (get 2))) (Lf9 (get 1))) (Lf9 (get 0))
 |_=>none
def d1(x:b7):Option Int:=match x with
 |.tree 1 1 get=>Lf9 (get 0)
 |_=>none
structure IL where
 n:Nat
 g:Nat->Int
structure LL where
 a:IL
 b:IL
def onO{α:Type}(x:Option α)(k:α->DT (b7×List c7)):DT (b7×List c7):=Option.rec (motive:=λ_=>DT (b7×List c7)) .fail k x
theorem K4{α:Type}{x:Option α}{k:α->DT (b7×List c7)}{r:b7×List c7}(h:(onO x k).run=some r):∃a,x=some a/\(k a).run=some r:=by
 cases x with
 |none=>cases h
 |some a=>exact⟨a,rfl,h⟩
section
variable{α β γ δ:Type}
def rg2(k:DT (b7×List c7)):Sum:=λargs blks=>match args,blks with
 |[],[]=>k
 |_,_=>.fail
def S7(c:Cod α)(k:α->DT (b7×List c7)):Sum:=λargs blks=>match args,blks with
 |[x],[]=>onO (c.dec x) λa=>.guard (c.grd x) (k a)
 |_,_=>.fail
def Z7(c:Cod α)(d:Cod β)(k:α->β->DT (b7×List c7)):Sum:=λargs blks=>match args,blks with
 |[x,y],[]=>onO (c.dec x) λa=>onO (d.dec y) λb=>.guard (c.grd x) (.guard (d.grd y) (k a b))
 |_,_=>.fail
def ne8(c:Cod α)(d:Cod β)(e:Cod γ)(k:α->β->γ->DT (b7×List c7)):Sum:=λargs blks=>match args,blks with
 |[x,y,z],[]=>onO (c.dec x) λa=>onO (d.dec y) λb=>onO (e.dec z) λg=>.guard (c.grd x) (.guard (d.grd y) (.guard (e.grd z) (k a b g)))
 |_,_=>.fail
def Vd6(c:Cod α)(d:Cod β)(e:Cod γ)(f:Cod δ)(k:α->β->γ->δ->DT (b7×List c7)):Sum:=λargs blks=>match args,blks with
 |[x,y,z,w],[]=>onO (c.dec x) λa=>onO (d.dec y) λb=>onO (e.dec z) λg=>onO (f.dec w) λj=>.guard (c.grd x) (.guard (d.grd y) (.guard (e.grd z) (.guard (f.grd w) (k a b g j))))
 |_,_=>.fail
variable{P:Program}{G:Nat->List Value}{f:FuncId}{R:Sum}{c:Cod α}{d:Cod β}{e:Cod γ}{c4:Cod δ}
theorem l8.le{S':Sum}(h:l8 P G f R)(hr:∀args blks r,(S' args blks).run=some r->(R args blks).run=some r):l8 P G f S' :=
 h.refine λargs blks r hh=>⟨args,.refl _,hr args blks r hh⟩
theorem Zb2{k:α->_}(hb:l8 P G f R)(h:∀a r,(k a).run=some r->(R [c.enc a] []).run=some r):l8 P G f (S7 c k):=hb.refine λargs blks r hr=>by
 unfold S7 at hr
 split at hr
 ·obtain⟨a,h1,hr⟩:=K4 hr;obtain⟨g1,hr⟩:=DT.run_guard_some hr;exact⟨_,.cons (c.ok _ a h1 g1) .nil,h a r hr⟩
 ·cases hr
theorem ne9{k:α->β->_}(hb:l8 P G f R)(h:∀a b r,(k a b).run=some r->(R [c.enc a,d.enc b] []).run=some r):l8 P G f (Z7 c d k):=hb.refine λargs blks r hr=>by
 unfold Z7 at hr
 split at hr
 ·obtain⟨a,h1,hr⟩:=K4 hr;obtain⟨b,h2,hr⟩:=K4 hr;obtain⟨g1,hr⟩:=DT.run_guard_some hr;obtain⟨g2,hr⟩:=DT.run_guard_some hr;exact⟨_,.cons (c.ok _ a h1 g1) (.cons (d.ok _ b h2 g2) .nil),h a b r hr⟩
 ·cases hr
theorem Mf0{k:α->β->γ->_}(hb:l8 P G f R)(h:∀a b g r,(k a b g).run=some r->(R [c.enc a,d.enc b,e.enc g] []).run=some r):l8 P G f (ne8 c d e k):=hb.refine λargs blks r hr=>by
 unfold ne8 at hr
 split at hr
 ·obtain⟨a,h1,hr⟩:=K4 hr;obtain⟨b,h2,hr⟩:=K4 hr;obtain⟨g,h3,hr⟩:=K4 hr;obtain⟨g1,hr⟩:=DT.run_guard_some hr;obtain⟨g2,hr⟩:=DT.run_guard_some hr;obtain⟨g3,hr⟩:=DT.run_guard_some hr;exact⟨_,.cons (c.ok _ a h1 g1) (.cons (d.ok _ b h2 g2) (.cons (e.ok _ g h3 g3) .nil)),h a b g r hr⟩
 ·cases hr
theorem Mf1{k:α->β->γ->δ->_}(hb:l8 P G f R)(h:∀a b g j r,(k a b g j).run=some r->(R [c.enc a,d.enc b,e.enc g,c4.enc j] []).run=some r):l8 P G f (Vd6 c d e c4 k):=hb.refine λargs blks r hr=>by
 unfold Vd6 at hr
 split at hr
 ·obtain⟨a,h1,hr⟩:=K4 hr;obtain⟨b,h2,hr⟩:=K4 hr;obtain⟨g,h3,hr⟩:=K4 hr;obtain⟨j,h4,hr⟩:=K4 hr;obtain⟨g1,hr⟩:=DT.run_guard_some hr;obtain⟨g2,hr⟩:=DT.run_guard_some hr;obtain⟨g3,hr⟩:=DT.run_guard_some hr;obtain⟨g4,hr⟩:=DT.run_guard_some hr;exact⟨_,.cons (c.ok _ a h1 g1) (.cons (d.ok _ b h2 g2) (.cons (e.ok _ g h3 g3) (.cons (c4.ok _ j h4 g4) .nil))),h a b g j r hr⟩
 ·cases hr
end
inductive Stp (σ:Type) where
 |fail
 |next (s:σ)
 |exit (t:Nat)
@[reducible] def Ec0{σ α:Type}(f:σ->α)(x:Nat->α)(z:α)(r:Stp σ):α:=Stp.rec (motive:=λ_=>α) z f x r
def lp0{σ:Type}(step:σ->Stp σ)(n:Nat):σ->Nat×σ :=
 Nat.rec (motive:=λ_=>σ->Nat×σ) (λs=>Ec0 (λ_=>(0,s)) (λt=>(t,s)) (0,s) (step s))
  (λ_ ih s=>Ec0 (λs'=>ih s') (λt=>(t,s)) (0,s) (step s)) n
def lpS:{ f:(σ:Type)->(σ->Stp σ)->Nat->σ->Nat×σ // f=λ_=>lp0 }:=Classical.choice ⟨⟨_,rfl⟩⟩
def rounds:Nat:=18446744073709551615
def lp{σ:Type}(step:σ->Stp σ)(s:σ):Nat×σ:=lpS.1 σ step rounds s
theorem uf3{σ:Type}(step:σ->Stp σ)(s:σ):lp step s=lp0 step rounds s:=by
 unfold lp;rw[lpS.2]
theorem Be7{σ:Type}{step:σ->Stp σ}{n:Nat}{s s':σ}(h:step s=.next s'):lp0 step (n+1) s=lp0 step n s':=by
 show Ec0 (λs'=>lp0 step n s') _ _ (step s)=_
 rw[h]
theorem Jd0{σ:Type}{step:σ->Stp σ}{n t:Nat}{s:σ}(h:step s=.exit t):lp0 step n s=(t,s):=by
 cases n with
 |zero=>show Ec0 _ _ _ (step s)=_;rw[h]
 |succ n=>show Ec0 _ _ _ (step s)=_;rw[h]
inductive Sk where
 |unk
 |u
 |nil
 |bool
 |int (k:IntKind)
 |lit (k:IntKind) (n:Int)
 |blit (x:Bool)
 |tree (es:Nat)
 |ptr (id i c g:Nat)
 |sl (id g:Nat) (off n:Option Nat)
 |fn (f:Nat)
 |val
def toV:b7->Value
 |.v x=>x
 |_=>.tuple #[]
def Sa1:b7->ByteArray
 |.v (.string s)=>s
 |_=>⟨#[]⟩
def slO:b7->Nat
 |.sl _ off _ _=>off
 |_=>0
def slN:b7->Nat
 |.sl _ _ n _=>n
 |_=>0
@[reducible] def oN(o:Option Nat)(x:Nat):Nat:=Option.rec (motive:=λ_=>Nat) x (λy=>y) o
@[reducible] def okN(o:Option Nat)(x:Nat):Bool:=Option.rec (motive:=λ_=>Bool) true (λy=>Nat.beq y x) o
def Mf2:Sk->b7->Bool
 |.unk,.unk=>true
 |.u,.v (.tuple a)=>List.rec (motive:=λ_=>Bool) true (λ_ _ _=>false) a.toList
 |.nil,.v (.slice none 0 0)=>true
 |.bool,.v (.bool _)=>true
 |.int k,.v (.int k' _)=>decide (k=k')
 |.lit k n,.v (.int k' m)=>Bool.and (decide (k=k')) (decide (n=m))
 |.blit x,.v (.bool y)=>Bool.rec (!y) y x
 |.tree es,.tree es' _ _=>Nat.beq es es'
 |.ptr id i c g,.ptr id' i' c' g'=>Bool.and (Bool.and (Nat.beq id id') (Nat.beq i i')) (Bool.and (Nat.beq c c') (Nat.beq g g'))
 |.sl id g off n,.sl id' off' n' g'=>Bool.and (Bool.and (Nat.beq id id') (Nat.beq g g')) (Bool.and (okN off off') (okN n n'))
 |.fn f,.fn f' []=>Nat.beq f f'
 |.val,.v (.string _)=>true
 |_,_=>false
def eg7:Sk->b7->b7
 |.unk,_=>.unk
 |.u,_=>.v (.tuple #[])
 |.nil,_=>.v (.slice none 0 0)
 |.bool,x=>.v (.bool (toB x))
 |.int k,x=>.v (.int k (toI x))
 |.lit k n,_=>.v (.int k n)
 |.blit y,_=>.v (.bool y)
 |.tree es,x=>.tree es (toN x) (toG x)
 |.ptr id i c g,_=>.ptr id i c g
 |.sl id g off n,x=>.sl id (oN off (slO x)) (oN n (slN x)) g
 |.fn f,_=>.fn f []
 |.val,x=>.v (.string (Sa1 x))
theorem Xf3{o:Option Nat}{x:Nat}(h:okN o x=true):oN o x=x:=by
 cases o with
 |none=>rfl
 |some y=>exact Qad h
theorem Ze5{k:Sk}{x:b7}(h:Mf2 k x=true):x=eg7 k x:=by
 unfold Mf2 at h
 split at h<;>first | rfl | (cases h;done) | skip
 ·rename_i a;obtain⟨l⟩:=a;cases l with
  |nil=>rfl
  |cons=>cases h
 ·rw[of_decide_eq_true h];rfl
 ·simp only[Qas,decide_eq_true_eq] at h;rw[h.1,h.2];rfl
 ·rename_i a c;cases a<;>cases c<;>first | rfl | cases h
 ·rw[Qad h];rfl
 ·simp only[Qas] at h;obtain⟨⟨h1,h2⟩,h3,h4⟩:=h;rw[Qad h1,Qad h2,Qad h3,Qad h4];rfl
 ·rename_i id g off n id' off' n' g';simp only[Qas] at h;obtain⟨⟨h1,h2⟩,h3,h4⟩:=h;rw[<- Qad h1,<- Qad h2];show b7.sl id off' n' g=.sl id (oN off off') (oN n n') g;rw[Xf3 h3,Xf3 h4]
 ·rw[Qad h];rfl
inductive Sl where
 |s (k:Sk)
 |agg (l:List Sk)
 |tup (l:List Sk)
 |fn (f:Nat) (l:List Sk)
def cellsOf:b7->List b7
 |.agg l=>l
 |.tup l=>l
 |.fn _ l=>l
 |_=>[]
@[reducible] def hdR(l:List (List b7)):List b7:=List.rec (motive:=λ_=>List b7) [] (λx _ _=>x) l
@[reducible] def tlR(l:List (List b7)):List (List b7):=List.rec (motive:=λ_=>List (List b7)) [] (λ_ r _=>r) l
structure Bk where
 et:Nat
 es:Nat
 own:Bool
 rows:Option (List (List Sk))
@[reducible] def eqB(a c:Bool):Bool:=Bool.rec (!c) c a
@[reducible] def hdB(l:List c7):List (List b7):=List.rec (motive:=λ_=>List (List b7)) [] (λx _ _=>x.elems) l
@[reducible] def tlB(l:List c7):List c7:=List.rec (motive:=λ_=>List c7) [] (λ_ r _=>r) l
inductive db8 {α:Type} (P:α->Prop):List α->Prop
 |nil:db8 P []
 |cons {x:α} {l:List α} (h:P x) (t:db8 P l):db8 P (x::l)
theorem db8.mem{α:Type}{P:α->Prop}{l:List α}(h:db8 P l):∀x,x∈l->P x:=by
 induction h with
 |nil=>intro x h;cases h
 |cons h t ih =>
  simp_all
structure Alt(π σ:Type) where
 sh:List Sl
 bl:List Bk
 rd:List b7->List c7->π×σ
def ra(n:Nat)(l:List b7):List b7:=Nat.rec (motive:=λ_=>List b7) l (λ_ ih=>.unk::ih) n
def eg8(k:Nat)(res:List nd3)(s:St):DT (b7×List c7) :=
 match Hb0 (Hb5 s.a s.H) res with
 |some l=>Cc5 k s.H (dc2 l)
 |none=>.fail
def cut(k:Nat)(res:List nd3)(r:l4×St):DT (l4×St) :=
 l4.rec (motive:=λ_=>DT (l4×St)) (.ret (.normal,r.2)) (λid=>.ret (.exit id,r.2)) ((eg8 k res r.2).bind λq=>.ret (.ret,⟨[q.1],q.2⟩)) r.1
def Ze6(E:Env)(k:Nat)(res:List nd3)(c:PS):St->DT (l4×St) :=
 PS.rec (motive:=λ_=>St->DT (l4×St))
  (λc s=>(M2 E k c s).bind (cut k res))
  (λ_ _ x y s=>(x s).bind λr=>l4.rec (motive:=λ_=>DT (l4×St)) (y r.2) (λid=>.ret (.exit id,r.2)) (.ret (.ret,r.2)) r.1)
  (λc _ _ x y s=>match c9 E s.a c with
   |.v (.bool b)=>.ite b (x s) (y s)
   |_=>.fail)
  (λid _ x s=>(x s).bind λr=>l4.rec (motive:=λ_=>DT (l4×St)) (.ret (.normal,r.2))
   (λid'=>Bool.rec (.ret (.exit id',r.2)) (.ret (.normal,r.2)) (Nat.beq id' id)) (.ret (.ret,r.2)) r.1)
  (λkeep _ x=>Ac2 (λs=>tidy k ⟨X6 keep s.a 0,s.H⟩) x E.N)
  (λS=>S) c
section
variable{k:Nat}{res:List nd3}
inductive FR (k:Nat) (res:List nd3):l4×St->l4×St->Prop
 |same (x:l4) (s:St) (h:x≠.ret):FR k res (x,s) (x,s)
 |ret (s:St) (q:b7×List c7) (h:(eg8 k res s).run=some q):FR k res (.ret,⟨[q.1],q.2⟩) (.ret,s)
def ia6(k:Nat)(res:List nd3)(x y:DT (l4×St)):Prop:=∀r,x.run=some r->∃r',y.run=some r'/\FR k res r r'
theorem ia6.bind{x y:DT (l4×St)}{f g:l4×St->DT (l4×St)}(h:ia6 k res x y)(hf:∀r r',FR k res r r'->ia6 k res (f r) (g r')):ia6 k res (x.bind f) (y.bind g):=λr hr=>by
 obtain⟨a,h1,h2⟩:=DT.run_bind_some hr;obtain⟨a',h3,h4⟩:=h a h1;obtain⟨r',h5,h6⟩:=hf a a' h4 r h2;exact⟨r',by rw[DT.run_bind,h3];exact h5,h6⟩
theorem ia6.ite{b:Bool}{x y x' y':DT (l4×St)}(h:ia6 k res x x')(h':ia6 k res y y'):ia6 k res (.ite b x y) (.ite b x' y'):=λr hr=>by
 rw[DT.run_ite] at hr;rw[DT.run_ite]
 split at hr
 ·next hb=>simpa [hb] using h r hr
 ·next hb=>simpa [hb] using h' r hr
theorem ia6.one{r r':l4×St}(h:FR k res r r'):ia6 k res (.ret r) (.ret r'):=λa ha=>by
 cases ha;exact⟨r',rfl,h⟩
theorem ia6.cut(x:DT (l4×St)):ia6 k res (x.bind (cut k res)) x:=λr hr=>by
 obtain⟨⟨a,s⟩,h1,h2⟩:=DT.run_bind_some hr;refine⟨(a,s),h1,?_⟩;cases a with
 |normal=>cases h2;exact .same _ _ (λh=>by cases h)
 |exit id=>cases h2;exact .same _ _ (λh=>by cases h)
 |ret =>
  obtain⟨q,h3,h4⟩:=DT.run_bind_some h2;cases h4;exact .ret s q h3
theorem Ec1{head:St->DT St}{body body':St->DT (l4×St)}(h:∀s,ia6 k res (body s) (body' s)):∀n s,ia6 k res (Ac2 head body n s) (Ac2 head body' n s)
 |0,s=>λr hr=>by cases hr
 |n+1,s=>by
  intro r hr;obtain⟨t,h1,h2⟩:=DT.run_bind_some hr
  have:ia6 k res ((body t).bind λr=>l4.rec (motive:=λ_=>DT (l4×St)) (Ac2 head body n r.2) (λid=>.ret (.exit id,r.2)) (.ret (.ret,r.2)) r.1) ((body' t).bind λr=>l4.rec (motive:=λ_=>DT (l4×St)) (Ac2 head body' n r.2) (λid=>.ret (.exit id,r.2)) (.ret (.ret,r.2)) r.1):=by
   refine (h t).bind λa a' ha=>?_
   cases ha with
   |same x s hx =>
    cases x with
    |normal=>exact Ec1 h n s
    |exit id=>exact .one (.same _ _ hx)
    |ret=>exact absurd rfl hx
   |ret s q hq=>exact .one (.ret s q hq)
  obtain⟨r',h3,h4⟩:=this r h2;refine⟨r',?_,h4⟩;show ((head s).bind λs=>(body' s).bind _).run=_
  rw[DT.run_bind,h1];exact h3
inductive xa8 (E:Env) (k:Nat) (res:List nd3):PS->PC->Prop
 |pc (c:PC):xa8 E k res (.pc c) c
 |seq {a b:PS} {a' b':PC} (h:xa8 E k res a a') (h':xa8 E k res b b'):xa8 E k res (.seq a b) (.seq a' b')
 |cond (c:Arg) {a b:PS} {a' b':PC} (h:xa8 E k res a a') (h':xa8 E k res b b'):xa8 E k res (.cond c a b) (.cond c a' b')
 |block (id:Nat) {a:PS} {a':PC} (h:xa8 E k res a a'):xa8 E k res (.block id a) (.block id a')
 |loop (keep:List Nat) {a:PS} {a':PC} (h:xa8 E k res a a'):xa8 E k res (.loop keep a) (.loop keep a')
 |sum {S:St->DT (l4×St)} {c:PC} (h:∀s,ia6 k res (S s) (M2 E k c s)):xa8 E k res (.sum S) c
theorem xa8.le{E:Env}{a:PS}{c:PC}(h:xa8 E k res a c):∀s,ia6 k res (Ze6 E k res a s) (M2 E k c s):=by
 induction h with
 |pc c=>exact λs=>.cut _
 |seq h h' ih ih' =>
  intro s;refine (ih s).bind λr r' hr=>?_
  cases hr with
  |same x s hx =>
   cases x with
   |normal=>exact ih' s
   |exit id=>exact .one (.same _ _ hx)
   |ret=>exact absurd rfl hx
  |ret s q hq=>exact .one (.ret s q hq)
 |cond c h h' ih ih' =>
  intro s;show ia6 k res (match c9 E s.a c with | .v (.bool b)=>_ | _=>_) (match c9 E s.a c with | .v (.bool b)=>_ | _=>_)
  split
  ·exact .ite (ih s) (ih' s)
  ·exact λr hr=>by cases hr
 |block id h ih =>
  intro s;refine (ih s).bind λr r' hr=>?_
  cases hr with
  |same x s hx =>
   cases x with
   |normal=>exact .one (.same _ _ λh=>by cases h)
   |exit id' =>
    show ia6 k res (Bool.rec (.ret (.exit id',s)) (.ret (.normal,s)) (Nat.beq id' id)) (Bool.rec (.ret (.exit id',s)) (.ret (.normal,s)) (Nat.beq id' id));cases Nat.beq id' id with
    |false=>exact .one (.same _ _ hx)
    |true=>exact .one (.same _ _ λh=>by cases h)
   |ret=>exact absurd rfl hx
  |ret s q hq=>exact .one (.ret s q hq)
 |loop keep h ih=>exact λs=>Ec1 ih _ s
 |sum h=>exact h
end
def eg9(E:Env)(fn:PFn)(body:PS)(args:List b7)(blks:List c7):DT (b7×List c7) :=
 (Ze6 E (len blks) fn.res body ⟨app args (List.replicate (fn.ntmps-len args) (.v (.tuple #[]))),blks⟩).bind λr =>
  l4.rec (motive:=λ_=>DT (b7×List c7)) (eg8 (len blks) fn.res r.2) (λ_=>.fail) (.ret (hdA r.2.a,r.2.H)) r.1
theorem Re1{E:Env}{fn:PFn}{body:PS}{args:List b7}{blks:List c7}(h:xa8 E (len blks) fn.res body fn.body):fa2 (eg9 E fn body args blks) (ba9 E fn args blks):=λr hr=>by
 obtain⟨a,h1,h2⟩:=DT.run_bind_some hr;obtain⟨a',h3,h4⟩:=h.le _ a h1;show ((M2 E (len blks) fn.body _).bind _).run=_;rw[DT.run_bind,h3];cases h4 with
 |same x s hx =>
  cases x with
  |normal=>exact h2
  |exit id=>cases h2
  |ret=>exact absurd rfl hx
 |ret s q hq =>
  cases h2;exact hq
theorem ALe.nilTree(es:Nat)(get:Nat->List b7):ALe (.v (.slice none 0 0)) (.tree es 0 get):=λρ H F w v h=>by
 have:=fa0 h
 subst this;exact .val (.cell (.mem (.nil es get)))
theorem ALe.emptyTree(es:Nat)(get:Nat->List b7)(a:Addr)(c:Nat):ALe (.v (.slice (some a) 0 c)) (.tree es 0 get):=λρ H F w v h=>by
 have:=fa0 h
 subst this;exact .val (.cell (.mem (.tree es 0 get a c (λ_ _=>.tuple #[]) (λh=>absurd h (by omega)) (Qbv _) (λi h=>absurd h (by omega)) (λi c h=>absurd h (by omega)) (λi c h=>absurd h (by omega)) (λi c h=>absurd h (by omega)))))
section
variable{α:Type}{row:α->List b7}{isr:List b7->Bool}{rd:List b7->α}{d:α}
theorem uf4{β:Type}(f:α->β)(l:List α):len (s5 f l)=l.length:=by rw[z6,s8,List.length_map]
theorem vd7(row:α->List b7)(d:α){l:List α}{k:Nat}(h:k<l.length):c8 (s5 row l) k=row (l.getD k d):=by
 unfold c8;rw[F7,s8,Qbe,Qda,Qaa h];rfl
theorem uf5(row:α->List b7)(l r:List α):app (s5 row l) (s5 row r)=s5 row (l++r):=by
 rw[K6,s8,s8,s8,List.map_append]
theorem Jd1(row:α->List b7)(l:List α)(k:Nat)(x:α):setAt (s5 row l) k (row x)=s5 row (l.set k x):=by
 rw[H6,s8,s8,List.map_set]
end
section
variable{α β γ δ ε ζ:Type}
variable{P:Program}{G:Nat->List Value}{f:FuncId}{R:Sum}{c:Cod α}{d:Cod β}{e:Cod γ}{c4:Cod δ}{c5:Cod ε}{c6:Cod ζ}
end
section
variable{W:Nat->Prop}{ρ:Rho}{H H':List c7}{F:Fz}{w:World}
def Ja6(H:List c7):b7->Option (b7×List c7)
 |.agg cs=>match freezeCells H cs with
  |some (zs,H')=>some (.agg zs,H')
  |none=>none
 |x=>freezeCell H x
theorem Jd2(hH:J0 W ρ H F w){y z:b7}{y':Value}(hy:ra2 ρ H F w y y')(he:Ja6 H y=some (z,H')) :
  ∃F',Adv W ρ H F w ρ H' F' w/\J0 W ρ H' F' w/\∀ρ2 H2 F2,(∀b o,F' b o->F2 b o)->ra2 ρ2 H2 F2 w z y':=by
 have cell:∀{y:b7},ea9 ρ H F w y y'->freezeCell H y=some (z,H')->∃F',Adv W ρ H F w ρ H' F' w/\J0 W ρ H' F' w/\∀ρ2 H2 F2,(∀b o,F' b o->F2 b o)->ra2 ρ2 H2 F2 w z y':=λ{y} hy he=>by
  obtain⟨F',h1,h2,h3,_⟩:=Uc0 hH hy he;exact⟨F',h1,h2,λρ2 H2 F2 hF=>.cell (.mem (h3.adv hF λ_ _ _=>rfl))⟩
 cases y with
 |agg cs =>
  simp only[Ja6] at he;cases hf:freezeCells H cs with
  |none=>rw[hf] at he;cases he
  |some q =>
   obtain⟨zs,H1⟩:=q;rw[hf] at he;have he:some (b7.agg zs,H1)=some (z,H'):=he;injection he with he;injection he with e1 e2
   subst e1 e2;obtain⟨vs,rfl,hl,hr⟩:=Ja5 (.val hy);obtain⟨F',h1,h2,h3,h4,_⟩:=Rb1 hH (vs:=vs.toList) (by simpa using hl) (λi y y' h h'=>hr i y y' h (by simpa using h')) hf
   refine⟨F',h1,h2,λρ2 H2 F2 hF=>.agg _ _ (by simpa [h3] using hl) λi x x' hx hx'=>.mem ((h4 i x x' hx (by simpa using hx')).adv hF λ_ _ _=>rfl)⟩
 |v u=>cases hy with | cell h=>exact cell h he
 |tree es n get=>cases hy with | cell h=>exact cell h he
 |sl id off n g=>cases hy with | cell h=>exact cell h he
 |ptr id i c g=>cases he
 |tptr cs=>cases he
 |unk=>cases he
 |tup l=>cases he
 |fn f caps =>
  cases hy with
  |cell h=>exact cell h he
  |fn f caps vs hl h =>
   have he':freezeCell H (.fn f caps)=some (z,H'):=he;simp only[freezeCell] at he';cases hb:Za6 cd1 caps with
   |false=>simp[hb] at he'
   |true =>
    simp only[hb] at he';injection he' with he';injection he' with e1 e2
    subst e1 e2;have hm:=Ze0 (f:=f) hl h hb;exact⟨F,.refl,hH,λρ2 H2 F2 hF=>.cell (.mem (hm.adv hF λ_ _ _=>rfl))⟩
def Rb7(H:List c7):List b7->Option (List b7×List c7)
 |[]=>some ([],H)
 |x::r=>match Ja6 H x with
  |some (y,H1)=>match Rb7 H1 r with
   |some (l,H2)=>some (y::l,H2)
   |none=>none
  |none=>none
theorem vd8:∀{ys zs:List b7} {vs:List Value} {H H':List c7} {F:Fz},J0 W ρ H F w->ys.length=vs.length->(∀(i:Nat) y y',ys[i]?=some y->vs[i]?=some y'->ra2 ρ H F w y y')->Rb7 H ys=some (zs,H') ->
  ∃F',Adv W ρ H F w ρ H' F' w/\J0 W ρ H' F' w/\zs.length=ys.length/\∀(i:Nat) z y',zs[i]?=some z->vs[i]?=some y'->∀ρ2 H2 F2,(∀b o,F' b o->F2 b o)->ra2 ρ2 H2 F2 w z y'
 |[],zs,vs,H,H',F,hH,hl,hy,he=>by
  injection he with he;injection he with e1 e2
  subst e1 e2;exact⟨F,.refl,hH,rfl,λi z y' h=>by simp at h⟩
 |y::r,zs,[],H,H',F,hH,hl,hy,he=>by simp at hl
 |y::r,zs,v::vs,H,H',F,hH,hl,hy,he=>by
  simp only[Rb7] at he;cases h1:Ja6 H y with
  |none=>rw[h1] at he;cases he
  |some q =>
  obtain⟨z,H1⟩:=q;rw[h1] at he;cases h2:Rb7 H1 r with
  |none=>simp only[h2] at he;cases he
  |some q2 =>
  obtain⟨zs2,H2⟩:=q2;simp only[h2] at he;injection he with he;injection he with e1 e2
  subst e1 e2;obtain⟨F1,a1,a2,a3⟩:=Jd2 hH (hy 0 y v rfl rfl) h1;obtain⟨F2,b1,b2,b3,b4⟩:=vd8 (ys:=r) (vs:=vs) a2 (by simpa using hl) (λi y y' hy1 hy2=>(hy (i+1) y y' (by simpa using hy1) (by simpa using hy2)).adv a1) h2
  refine⟨F2,a1.trans b1,b2,by simp[b3],λi z' y' hz hy'=>?_⟩
  cases i with
  |zero =>
   simp at hz hy'
   subst hz hy';exact λρ3 H3 F3 hF=>a3 ρ3 H3 F3 λb o hb=>hF b o (b1.more b o hb)
  |succ i=>exact b4 i z' y' (by simpa using hz) (by simpa using hy')
def od5(H:List c7):b7->Option b7
 |.tup l=>match Rb7 H l with
  |some (zs,_)=>some (.tup zs)
  |none=>none
 |x=>match Ja6 H x with
  |some (z,_)=>some z
  |none=>none
theorem J0.less(hH:J0 W ρ H F w):J0 W ρ [] F w:=⟨λid b h=>by simp at h,λid id' b b' h=>by simp at h,hH.frz,hH.new⟩
theorem Adv.less{ρ':Rho}{F':Fz}{w':World}(h:Adv W ρ [] F w ρ' H' F' w'):Adv W ρ [] F w ρ' [] F' w' :=
 ⟨h.ext,λid b hb=>by simp at hb,h.more,h.new,λid b hb=>by simp at hb⟩
theorem lf0{out:List c7}{x z:b7}{x':Value}{w':World}(hp:U3 W ρ [] F w x out x' w')(he:od5 out x=some z):U3 W ρ [] F w z [] x' w':=by
 obtain⟨ρ',F',h1,h2,h3⟩:=hp;have one:∀{y:b7},ra2 ρ' out F' w' y x'->(match Ja6 out y with | some (z,_)=>some z | none=>none)=some z->U3 W ρ [] F w z [] x' w':=λ{y} hy he=>by
  cases hf:Ja6 out y with
  |none=>rw[hf] at he;cases he
  |some q =>
   obtain⟨z1,H1⟩:=q;rw[hf] at he;have he:some z1=some z:=he;injection he with he;subst he;obtain⟨F2,a1,a2,a3⟩:=Jd2 h2 hy hf;exact⟨ρ',F2,(h1.trans a1).less,a2.less,.val (a3 _ _ _ λ_ _ h=>h)⟩
 cases h3 with
 |val h =>
  cases x with
  |tup l=>cases h with | cell h=>cases h with | mem h=>cases h
  |_=>exact one h he
 |tup xs vs hl h =>
  simp only[od5] at he;cases hf:Rb7 out xs with
  |none=>rw[hf] at he;cases he
  |some q =>
   obtain⟨zs,H1⟩:=q;rw[hf] at he;have he:some (b7.tup zs)=some z:=he;injection he with he;subst he;obtain⟨F2,a1,a2,a3,a4⟩:=vd8 (vs:=vs.toList) h2 (by simpa using hl) (λi y y' hy hy'=>h i y y' hy (by simpa using hy')) hf
   exact⟨ρ',F2,(h1.trans a1).less,a2.less,.tup _ _ (by simpa [a3] using hl) λi x x' hx hx'=>a4 i x x' hx (by simpa using hx') _ _ _ λ_ _ h=>h⟩
theorem U3.le{out:List c7}{x y:b7}{x':Value}{w':World}(hp:U3 W ρ H F w x out x' w')(h:ALe x y):U3 W ρ H F w y out x' w':=by
 obtain⟨ρ',F',h1,h2,h3⟩:=hp;exact⟨ρ',F',h1,h2,h _ _ _ _ _ h3⟩
end
def ee5(x:b7)(out:List c7)(y:b7):Prop:=∃z,od5 out x=some z/\ALe z y
theorem l8.conv{P:Program}{G:Nat->List Value}{f:FuncId}{S S':Sum}(h:l8 P G f S)
  (hr:∀args blks y out,(S' args blks).run=some (y,out)->blks=[]/\out=[]/\∃x o,(S args []).run=some (x,o)/\ee5 x o y):l8 P G f S':=by
 intro args blks y out he W ρ F w args' hH hlen hargs hG;obtain⟨rfl,rfl,x,o,h1,z,h2,h3⟩:=hr args blks y out he;obtain⟨h4,h5⟩:=h args [] x o h1 W ρ F w args' hH hlen hargs hG;exact⟨h4,h5.mono λe w' ⟨r',h6,h7⟩=>⟨r',h6,(lf0 h7 h2).le h3⟩⟩
section
variable{α β γ:Type}{P:Program}{G:Nat->List Value}{f:FuncId}{c:Cod α}{d:Cod β}{e:Cod γ}
theorem lf1{k k':α->DT (b7×List c7)}(h:l8 P G f (S7 c k))(hk:∀a y out,(k' a).run=some (y,out)->out=[]/\∃x o,(k a).run=some (x,o)/\ee5 x o y):l8 P G f (S7 c k'):=h.conv λargs blks y out hr=>by
 unfold S7 at hr
 split at hr
 ·obtain⟨a,h1,hr⟩:=K4 hr;obtain⟨g1,hr⟩:=DT.run_guard_some hr;obtain⟨e1,x,o,e2,e3⟩:=hk a y out hr;refine⟨rfl,e1,x,o,?_,e3⟩;simp only[S7,h1,onO,g1];exact e2
 ·cases hr
theorem lf2{k k':α->β->DT (b7×List c7)}(h:l8 P G f (Z7 c d k))(hk:∀a b y out,(k' a b).run=some (y,out)->out=[]/\∃x o,(k a b).run=some (x,o)/\ee5 x o y):l8 P G f (Z7 c d k'):=h.conv λargs blks y out hr=>by
 unfold Z7 at hr
 split at hr
 ·obtain⟨a,h1,hr⟩:=K4 hr;obtain⟨b,h2,hr⟩:=K4 hr;obtain⟨g1,hr⟩:=DT.run_guard_some hr;obtain⟨g2,hr⟩:=DT.run_guard_some hr;obtain⟨e1,x,o,e2,e3⟩:=hk a b y out hr;refine⟨rfl,e1,x,o,?_,e3⟩;simp only[Z7,h1,h2,onO,g1,g2];exact e2
 ·cases hr
theorem lf3{k k':α->β->γ->DT (b7×List c7)}(h:l8 P G f (ne8 c d e k))(hk:∀a b g y out,(k' a b g).run=some (y,out)->out=[]/\∃x o,(k a b g).run=some (x,o)/\ee5 x o y):l8 P G f (ne8 c d e k'):=h.conv λargs blks y out hr=>by
 unfold ne8 at hr
 split at hr
 ·obtain⟨a,h1,hr⟩:=K4 hr;obtain⟨b,h2,hr⟩:=K4 hr;obtain⟨g,h3,hr⟩:=K4 hr;obtain⟨g1,hr⟩:=DT.run_guard_some hr;obtain⟨g2,hr⟩:=DT.run_guard_some hr;obtain⟨g3,hr⟩:=DT.run_guard_some hr;obtain⟨e1,x,o,e2,e3⟩:=hk a b g y out hr;refine⟨rfl,e1,x,o,?_,e3⟩;simp only[ne8,h1,h2,h3,onO,g1,g2,g3];exact e2
 ·cases hr
end
theorem ALe.tup{xs ys:List b7}(hl:xs.length=ys.length)(h:∀(i:Nat) x y,xs[i]?=some x->ys[i]?=some y->∀ρ H F w v,ra2 ρ H F w x v->ra2 ρ H F w y v):ALe (.tup xs) (.tup ys):=λρ H F w v hv=>by
 cases hv with
 |val hv=>cases hv with | cell hv=>cases hv with | mem hv=>cases hv
 |tup _ vs hl2 hv =>
  refine .tup _ _ (hl ▸ hl2) λi y v' hy hv'=>?_
  grind
theorem ra2.treeLe{es n:Nat}{get get':Nat->List b7}(he:∀k,k<n->get' k=get k){ρ:Rho}{H:List c7}{F:Fz}{w:World}{v:Value}(h:ra2 ρ H F w (.tree es n get) v):ra2 ρ H F w (.tree es n get') v :=
 .cell (.mem ((Ea8 (.val h)).get he))
end Go.Ev
namespace Go.Ev.L
open Go Go.Ev
def cl(p:Prop):Bool:=@decide p (Classical.propDecidable p)
theorem Mf3{p:Prop}(h:p):cl p=true:=@decide_eq_true _ (Classical.propDecidable p) h
theorem Xf4{p:Prop}(h:cl p=true):p:=@of_decide_eq_true _ (Classical.propDecidable p) h
def sl{α:Type}(c:Bool)(t e:α):α:=Bool.rec (motive:=λ_=>α) e t c
theorem g7{α:Type}(t e:α):sl true t e=t:=rfl
theorem A7{α:Type}(t e:α):sl false t e=e:=rfl
theorem Rb8{α:Type}(c:Bool)(t e:α):sl c t e=if c=true then t else e:=by cases c<;>rfl
theorem uf6{α β:Type}{f:α->β}{c:Bool}{A B:α}{a b:β}(hA:f A=a)(hB:f B=b):f (sl c A B)=sl c a b:=by cases c<;>assumption
structure CLe(x y:b7):Prop where
 m:∀F w v,fa8 F w x v->fa8 F w y v
 c:∀ρ H F w v,ea9 ρ H F w x v->ea9 ρ H F w y v
theorem CLe.refl(x:b7):CLe x x:=⟨λ_ _ _ h=>h,λ_ _ _ _ _ h=>h⟩
theorem CLe.of{x y:b7}(h:x=y):CLe x y:=h ▸ .refl x
inductive Ec2:List b7->List b7->Prop
 |nil:Ec2 [] []
 |cons {x y l r} (h:CLe x y) (t:Ec2 l r):Ec2 (x::l) (y::r)
theorem Ec2.refl:∀l,Ec2 l l
 |[]=>.nil
 |x::l=>.cons (.refl x) (Ec2.refl l)
theorem Ec2.of{l r:List b7}(h:l=r):Ec2 l r:=h ▸ .refl l
theorem Ec2.length{l r}(h:Ec2 l r):l.length=r.length:=by induction h<;>simp_all
theorem Ec2.get{l r}(h:Ec2 l r):∀(i:Nat) y,r[i]?=some y->∃x,l[i]?=some x/\CLe x y:=by
 induction h with
 |nil=>intro i y hy;simp at hy
 |cons h t ih =>
  grind
theorem uf7{F:Fz}{w:World}{es n:Nat}{get get':Nat->List b7}{v:Value}(h:fa8 F w (.tree es n get) v)(he:∀k,k<n->Ec2 (get k) (get' k)):fa8 F w (.tree es n get') v:=by
 cases h with
 |tree _ _ _ a cap cs hs hcap hes hF hw hr =>
  refine .tree es n get' a cap cs hs hcap (λi hi=>by rw[<- (he i hi).length];exact hes i hi) hF hw (λi c hi hc=>?_)
  obtain⟨x,hx,hle⟩:=(he i hi).get c _ (Qaa hc);have hc':c<(get i).length:=(Qab.1 hx).1
  have:=hr i c hi hc'
  have e:(get i)[c]=x:=by
   grind
  rw[e] at this;exact hle.m _ _ _ this
 |nil=>exact .nil _ _
theorem CLe.tree{es n:Nat}{get get':Nat->List b7}(he:∀k,k<n->Ec2 (get k) (get' k)):CLe (.tree es n get) (.tree es n get') :=
 ⟨λ_ _ _ h=>uf7 h he,λ_ _ _ _ _ h=>by cases h with | mem h=>exact .mem (uf7 h he)⟩
theorem CLe.nilTree(es:Nat)(get:Nat->List b7):CLe (.v (.slice none 0 0)) (.tree es 0 get) :=
 ⟨λ_ _ _ h=>by cases h;exact .nil es get,λ_ _ _ _ _ h=>by cases h with
  |mem h=>cases h;exact .mem (.nil es get)
  |v=>exact .mem (.nil es get)⟩
theorem CLe.ale{x y:b7}(h:CLe x y)(hx:∀(ρ:Rho) H F w v,K8 ρ H F w x v->ea9 ρ H F w x v):ALe x y:=λρ H F w v hv=>.val (.cell (h.c _ _ _ _ _ (hx ρ H F w v hv)))
theorem ALe.rows{es n:Nat}{get get':Nat->List b7}(he:∀k,k<n->Ec2 (get k) (get' k)):ALe (.tree es n get) (.tree es n get'):=λ_ _ _ _ _ h=>.val (.cell (.mem (uf7 (Ea8 h) he)))
structure Ty(α:Type) where
 es:Nat
 row:α->List b7
 rd:List b7->α
 ok:List b7->Bool
 cks:List CK
 d:α
 h0:∀x,len (row x)=es
 h1:∀x,rd (row x)=x
 h2:∀x,ok (row x)=true
 h3:∀r,ok r=true->Ec2 r (row (rd r))
 h4:∀x,ka1 cks (row x)=true
 h5:∀x,s9 (row x) 0=row x
section
variable{α:Type}(t:Ty α)
@[reducible] def gL(l:List α)(k:Nat):α:=l.getD k t.d
@[reducible] def eL(l:List α):b7:=.tree t.es l.length (λk=>t.row (gL t l k))
def lsL(n:Nat)(get:Nat->List b7):List α:=(List.range n).map λk=>t.rd (get k)
def okL(n:Nat)(get:Nat->List b7):Bool:=(List.range n).all λk=>t.ok (get k)
def rL(v:b7):List α:=lsL t (toN v) (toG v)
def nL(v:b7):b7:=eL t (rL t v)
def uf8(f:b7->b7)(x:b7):Bool:=cl (x=f x)
def rt(l:List α):List α:=rL t (eL t l)
def okE(l:List α):Bool:=okL t (toN (eL t l)) (toG (eL t l))
def cnE(l:List α):Bool:=uf8 (nL t) (eL t l)
def bL(l:List α):List (List b7):=s5 t.row l
def rdR(el:List (List b7))(j:Nat):α:=t.rd (s9 (c8 el j) 0)
def ldR(el:List (List b7))(j:Nat):Bool:=Bool.and (Bool.and (Nat.blt j (len el)) (Nat.ble (0+t.es) (len (c8 el j)))) (ka1 t.cks (s9 (c8 el j) 0))
def slR(el:List (List b7))(off n:Nat):List α:=lsL t n λk=>c8 el (off+k)
def okS(el:List (List b7))(off n:Nat):Bool:=okL t n λk=>c8 el (off+k)
theorem Ze7(n:Nat)(get:Nat->List b7):(lsL t n get).length=n:=by simp[lsL]
theorem Ze8{n k:Nat}(get:Nat->List b7)(h:k<n):gL t (lsL t n get) k=t.rd (get k):=by
 simp[gL,lsL,Qda,Qbe,List.getElem?_range h]
theorem Ec3{n:Nat}{get:Nat->List b7}{l:List α}(hn:n=l.length)(h:∀k,k<n->get k=t.row (gL t l k)):lsL t n get=l:=by
 apply List.ext_getElem
 ·simp[lsL,hn]
 ·intro k h1 h2;have hk:k<n:=by omega
  simp[lsL,h k hk,t.h1,gL,Qda,Qaa h2]
theorem pc3{n:Nat}{get:Nat->List b7}{f:Nat->α}(h:∀k,k<n->get k=t.row (f k)):okL t n get=true:=by
 unfold okL;rw[Qcc];intro k hk;have hk:k<n:=by simpa using hk
 rw[h k hk];exact t.h2 _
theorem l9(l:List α):rt t l=l:=Ec3 t rfl λ_ _=>rfl
theorem A3(l:List α):okE t l=true:=pc3 t (f:=λk=>gL t l k) λ_ _=>rfl
theorem s7(l:List α):cnE t l=true:=Mf3 (by unfold nL;rw[show rL t (eL t l)=l from l9 t l])
theorem J2(l:List α):len (bL t l)=l.length:=uf4 _ _
theorem X5{l:List α}{k:Nat}(h:k<l.length):c8 (bL t l) k=t.row (gL t l k):=vd7 t.row t.d h
theorem oe0{l:List α}{k:Nat}(h:k<l.length):rdR t (bL t l) k=gL t l k:=by unfold rdR;rw[X5 t h,t.h5,t.h1]
theorem oe1{l:List α}{k:Nat}(h:k<l.length):ldR t (bL t l) k=true:=by
 unfold ldR;rw[X5 t h,t.h5,t.h4,J2,t.h0,Qar,Bool.and_true]
 simp_all
theorem ra4(l r:List α):app (bL t l) (bL t r)=bL t (l++r):=uf5 _ _ _
theorem pc4(l:List α):slR t (bL t l) 0 l.length=l:=Ec3 t rfl λk hk=>by rw[Qar,X5 t hk]
theorem pc5(l:List α):okS t (bL t l) 0 l.length=true:=pc3 t (f:=λk=>gL t l k) λk hk=>by rw[Qar,X5 t hk]
theorem ra5(l:List α):s5 (λk=>t.row (gL t l k)) (List.range l.length)=bL t l:=by
 unfold bL;rw[s8,s8];apply List.ext_getElem
 ·simp
 simp_all
theorem Ec4(l:List α)(k:Nat)(x:α):setAt (bL t l) k (t.row x)=bL t (l.set k x):=Jd1 _ _ _ _
theorem treeLe{n:Nat}{get:Nat->List b7}(h:okL t n get=true):CLe (.tree t.es n get) (eL t (lsL t n get)):=by
 unfold eL;rw[Ze7];refine .tree λk hk=>?_
 rw[Ze8 t get hk];exact t.h3 _ (Qcc.1 h k (by simpa using hk))
theorem Ze9{n:Nat}{get:Nat->List b7}(h:okL t n get=true):ALe (.tree t.es n get) (eL t (lsL t n get)):=(treeLe t h).ale λ_ _ _ _ _ h=>.mem (Ea8 h)
def M3:Cod (List α) where
 enc l:=eL t l
 dec x:=match x with
  |.tree e n get=>Bool.rec (motive:=λ_=>Option (List α)) none (some (lsL t n get)) (Nat.beq e t.es)
  |.v (.slice none 0 0)=>some []
  |.v (.slice (some _) 0 _)=>some []
  |_=>none
 grd x:=match x with
  |.tree _ n get=>okL t n get
  |_=>true
 ok x a hx hg:=by
  split at hx
  ·rename_i e n get;cases hb:Nat.beq e t.es with
   |false=>rw[hb] at hx;cases hx
   |true =>
    rw[hb] at hx;have hx:some (lsL t n get)=some a:=hx;injection hx with hx;subst hx
    have:=Qad hb
    subst this;exact Ze9 t hg
  ·injection hx with hx;subst hx;exact .nilTree _ _
  ·injection hx with hx;subst hx;exact .emptyTree _ _ _ _
  ·cases hx
def hC(get:Nat->List b7):α:=t.rd (get 0)
def tC(n:Nat)(get:Nat->List b7):List α:=lsL t n λk=>get (k+1)
theorem rg3(a:α)(l:List α):hC t (λk=>t.row (gL t (a::l) k))=a:=t.h1 _
theorem rg4(a:α)(l:List α):tC t l.length (λk=>t.row (gL t (a::l) k))=l:=Ec3 t rfl λk _=>rfl
theorem Be8(n:Nat)(get:Nat->List b7):lsL t (n+1) get=hC t get::tC t n get:=by
 unfold lsL hC tC lsL;rw[List.range_succ_eq_map];simp
def uf9:Cod (α×List α) where
 enc x:=eL t (x.1::x.2)
 dec x:=match x with
  |.tree e (n+1) get=>Bool.rec (motive:=λ_=>Option (α×List α)) none (some (hC t get,tC t n get)) (Nat.beq e t.es)
  |_=>none
 grd x:=match x with
  |.tree _ n get=>okL t n get
  |_=>false
 ok x a hx hg:=by
  split at hx
  ·rename_i e n get;cases hb:Nat.beq e t.es with
   |false=>rw[hb] at hx;cases hx
   |true =>
    rw[hb] at hx;have hx:some (hC t get,tC t n get)=some a:=hx;injection hx with hx;subst hx
    have:=Qad hb
    subst this;show ALe _ (eL t (hC t get::tC t n get));rw[<- Be8];exact Ze9 t hg
  ·cases hx
def na7:Cod α where
 enc x:=.agg (t.row x)
 dec x:=match x with
  |.agg cs=>Bool.rec (motive:=λ_=>Option α) none (some (t.rd cs)) (t.ok cs)
  |_=>none
 grd _:=true
 ok x a hx _:=by
  split at hx
  ·rename_i cs;cases hb:t.ok cs with
   |false=>rw[hb] at hx;cases hx
   |true =>
    rw[hb] at hx;have hx:some (t.rd cs)=some a:=hx;injection hx with hx;subst hx;have h3:=t.h3 cs hb;intro ρ H F w v hv;obtain⟨vs,rfl,hl,hr⟩:=Ja5 hv;refine .val (.agg _ _ (by rw[<- h3.length];exact hl) λi y v' hy hv'=>?_)
    obtain⟨x,hx,hle⟩:=h3.get i y hy;exact hle.c _ _ _ _ _ (hr i x v' hx hv')
  ·cases hx
end
def tLs{α:Type}(t:Ty α):Ty (List α) where
 es:=1
 row l:=[eL t l]
 rd r:=rL t (hdA r)
 ok r:=match r with
  |[.tree e n get]=>Bool.and (Nat.beq e t.es) (okL t n get)
  |[.v (.slice none 0 0)]=>true
  |_=>false
 cks:=[.sl t.es]
 d:=[]
 h0 _:=rfl
 h1 l:=l9 t l
 h2 l:=by
  show Bool.and (Nat.beq t.es t.es) (okL t l.length λk=>t.row (gL t l k))=true
  rw[Nat.beq_refl,Bool.true_and];exact pc3 t (f:=λk=>gL t l k) λ_ _=>rfl
 h3 r h:=by
  split at h
  ·rename_i e n get;rw[Qas] at h
   have:=Qad h.1
   subst this;exact .cons (treeLe t h.2) .nil
  ·exact .cons (CLe.nilTree _ _) .nil
  ·cases h
 h4 l:=by
  show Bool.and (Nat.beq t.es t.es) true=true;rw[Nat.beq_refl];rfl
 h5 _:=rfl
def tI:Ty Int where
 es:=1
 row n:=[i n]
 rd r:=toI (hdA r)
 ok r:=match r with
  |[.v (.int .i64 _)]=>true
  |_=>false
 cks:=[.int .i64]
 d:=0
 h0 _:=rfl
 h1 _:=rfl
 h2 _:=rfl
 h3 r h:=by
  split at h
  ·exact .refl _
  ·cases h
 h4 _:=rfl
 h5 _:=rfl
def tB:Ty Bool where
 es:=1
 row n:=[b n]
 rd r:=toB (hdA r)
 ok r:=match r with
  |[.v (.bool _)]=>true
  |_=>false
 cks:=[.bool]
 d:=false
 h0 _:=rfl
 h1 _:=rfl
 h2 _:=rfl
 h3 r h:=by
  split at h
  ·exact .refl _
  ·cases h
 h4 _:=rfl
 h5 _:=rfl
def db9(n:Nat)(l:List b7):Bool:=Nat.rec (motive:=λ_=>List b7->Bool)
 (λl=>List.rec (motive:=λ_=>Bool) true (λ_ _ _=>false) l)
 (λ_ ih l=>List.rec (motive:=λ_=>Bool) false (λx r _=>Bool.and (Rc9 (.int .i64) x) (ih r)) l) n l
def vf0(n:Nat)(l:List b7):List b7:=Nat.rec (motive:=λ_=>List b7->List b7) (λ_=>[]) (λ_ ih l=>i (toI (hdA l))::ih (tlA l)) n l
theorem yb0:∀{n:Nat} {l:List b7},db9 n l=true->l=vf0 n l
 |0,[],_=>rfl
 |0,x::r,h=>by cases h
 |n+1,[],h=>by cases h
 |n+1,x::r,h=>by
  have h:Bool.and (Rc9 (.int .i64) x) (db9 n r)=true:=h;rw[Qas] at h;show x::r=i (toI x)::vf0 n r;rw[<- yb0 h.2];have h1:=h.1;cases x with
  |v y=>cases y with
   |int k m =>
    have h1:decide (IntKind.i64=k)=true:=h1;rw[<- of_decide_eq_true h1];rfl
   |_=>cases h1
  |_=>cases h1
inductive Dis (H:List c7):List c7->Prop
 |refl:Dis H H
 |step {H'} (id:Nat) (h:Dis H H'):Dis H (disown H' id)
theorem fd0(H:List c7)(id j g:Nat):blkAt (disown H id) j g=(blkAt H j g).map λb=>if j=id then { b with own:=false } else b:=by
 unfold blkAt disown modAt;cases hb:nth H id with
 |none =>
  grind
 |some c =>
  simp only[F7,H6];by_cases h:j=id
  ·subst h;have hb':H[j]?=some c:=by rw[<- F7];exact hb
   grind
  grind
structure R1(ρ:Type) where
 enc:ρ->b7
 rd:List c7->b7->Option ρ
 d:ρ
 le:∀H x r,rd H x=some r->∃z H',Ja6 H x=some (z,H')/\Dis H H'/\∀ρ' H2 F w v,ra2 ρ' H2 F w z v->ra2 ρ' H2 F w (enc r) v
 dis:∀H id x,rd (disown H id) x=rd H x
theorem R1.diss{ρ:Type}(R:R1 ρ){H H':List c7}(h:Dis H H')(x:b7):R.rd H' x=R.rd H x:=by
 induction h with
 |refl=>rfl
 |step id h ih=>rw[R.dis,ih]
theorem CLe.v{x y:b7}(h:CLe x y)(hx:∀(ρ:Rho) H F w v,ra2 ρ H F w x v->ea9 ρ H F w x v):∀ρ' H2 F w v,ra2 ρ' H2 F w x v->ra2 ρ' H2 F w y v:=λ_ _ _ _ _ hv=>.cell (h.c _ _ _ _ _ (hx _ _ _ _ _ hv))
def r1K(k:IntKind):R1 Int where
 enc n:=.v (.int k n)
 rd _ x:=match x with
  |.v (.int k' n)=>Bool.rec (motive:=λ_=>Option Int) none (some n) (decide (k=k'))
  |_=>none
 d:=0
 le H x r h:=by
  split at h
  ·rename_i k' n;cases hb:decide (k=k') with
   |false=>rw[hb] at h;cases h
   |true =>
    rw[hb] at h;have h:some n=some r:=h;injection h with h;subst h
    have:=of_decide_eq_true hb
    subst this;exact⟨_,H,rfl,.refl,λ_ _ _ _ _ h=>h⟩
  ·cases h
 dis _ _ _:=rfl
def r1I:R1 Int:=r1K .i64
def r1B:R1 Bool where
 enc n:=b n
 rd _ x:=match x with
  |.v (.bool n)=>some n
  |_=>none
 d:=false
 le H x r h:=by
  split at h
  ·injection h with h;subst h;exact⟨_,H,rfl,.refl,λ_ _ _ _ _ h=>h⟩
  ·cases h
 dis _ _ _:=rfl
theorem Jd3(H:List c7):∀(n:Nat) (l:List b7),db9 n l=true->freezeCells H l=some (l,H)
 |0,[],_=>rfl
 |0,x::r,h=>by cases h
 |n+1,[],h=>by cases h
 |n+1,x::r,h=>by
  have e:=yb0 h;have h:Bool.and (Rc9 (.int .i64) x) (db9 n r)=true:=h;rw[Qas] at h;have e1:x=i (toI x):=(List.cons.inj e).1;simp only[freezeCells];rw[e1];simp only[freezeCell,zd9,Jd3 H n r h.2]
section
variable{α:Type}(t:Ty α)
def r1A(n:Nat)(ht:∀r,db9 n r=true->t.ok r=true):R1 α where
 enc x:=.agg (t.row x)
 rd _ x:=match x with
  |.agg cs=>Bool.rec (motive:=λ_=>Option α) none (some (t.rd cs)) (db9 n cs)
  |_=>none
 d:=t.d
 le H x r h:=by
  split at h
  ·rename_i cs;cases hb:db9 n cs with
   |false=>rw[hb] at h;cases h
   |true =>
    rw[hb] at h;have h:some (t.rd cs)=some r:=h;injection h with h;subst h;have h3:=t.h3 cs (ht cs hb);refine⟨.agg cs,H,?_,.refl,λρ' H2 F w v hv=>?_⟩
    ·simp only[Ja6,Jd3 H n cs hb]
    ·obtain⟨vs,rfl,hl,hr⟩:=Ja5 (.val hv);refine .agg _ _ (by rw[<- h3.length];exact hl) λi y v' hy hv'=>?_
     obtain⟨x,hx,hle⟩:=h3.get i y hy;exact hle.c _ _ _ _ _ (hr i x v' hx hv')
  ·cases h
 dis _ _ _:=rfl
def r1L:R1 (List α) where
 enc l:=eL t l
 rd H x:=match x with
  |.v (.slice none 0 0)=>some []
  |.tree e n get=>Bool.rec (motive:=λ_=>Option (List α)) none (some (lsL t n get)) (Bool.and (Nat.beq e t.es) (okL t n get))
  |.sl id off n g=>match blkAt H id g with
   |some b=>Bool.rec (motive:=λ_=>Option (List α)) none (some (slR t b.elems off n)) (Bool.and (Nat.beq b.es t.es) (okS t b.elems off n))
   |none=>none
  |_=>none
 d:=[]
 le H x r h:=by
  split at h
  ·injection h with h;subst h;exact⟨_,H,rfl,.refl,(CLe.nilTree _ _).v λ_ _ _ _ _ h=>by cases h with | cell h=>exact h⟩
  ·rename_i e n get;cases hb:Bool.and (Nat.beq e t.es) (okL t n get) with
   |false=>rw[hb] at h;cases h
   |true =>
    rw[hb] at h;have h:some (lsL t n get)=some r:=h;injection h with h;subst h;rw[Qas] at hb
    have:=Qad hb.1
    subst this;exact⟨_,H,rfl,.refl,(treeLe t hb.2).v λ_ _ _ _ _ h=>by cases h with | cell h=>exact h⟩
  ·rename_i id off n g;cases hk:blkAt H id g with
   |none=>simp only[hk] at h;cases h
   |some b =>
    simp only[hk] at h;cases hb:Bool.and (Nat.beq b.es t.es) (okS t b.elems off n) with
    |false=>rw[hb] at h;cases h
    |true =>
     rw[hb] at h;have h:some (slR t b.elems off n)=some r:=h;injection h with h;subst h;rw[Qas] at hb
     have:=Qad hb.1
     refine⟨oc4 b off n,disown H id,?_,.step id .refl,?_⟩
     ·simp only[Ja6,freezeCell,hk]
     ·unfold oc4;rw[this];exact (treeLe t hb.2).v λ_ _ _ _ _ h=>by cases h with | cell h=>exact h
  ·cases h
 dis H id x:=by
  cases x with
  |sl id' off n g =>
   simp only[fd0];cases blkAt H id' g with
   |none=>rfl
   |some b =>
    simp only[Option.map]
    split<;>rfl
  |v y=>cases y with
   |slice a n c=>cases a<;>cases n<;>cases c<;>rfl
   |_=>rfl
  |_=>rfl
end
structure RR(ρ:Type) where
 enc:ρ->b7
 rd:b7×List c7->Option ρ
 d:ρ
 le:∀x o r,rd (x,o)=some r->ee5 x o (enc r)
theorem Be9{H:List c7}{l:List b7}{z:b7×List c7}(h:Ja6 H (.tup l)=some z):False:=by cases h
theorem Ce0{H:List c7}{x z:b7}{H':List c7}(h:Ja6 H x=some (z,H')):od5 H x=some z:=by
 cases x with
 |tup l=>exact (Be9 h).elim
 |_=>simp only[od5,h]
theorem fg0{x y:b7}(h:∀ρ' H2 F w v,ra2 ρ' H2 F w x v->ra2 ρ' H2 F w y v)(hx:∀l,x≠.tup l):ALe x y:=λρ H F w v hv=>by
 cases hv with
 |val hv=>exact .val (h _ _ _ _ _ hv)
 |tup xs=>exact absurd rfl (hx xs)
theorem oe2{H H':List c7}{x z:b7}(h:Ja6 H x=some (z,H')):∀l,z≠.tup l:=λl e=>by
 subst e;unfold Ja6 at h
 split at h
 ·split at h<;>cases h
 ·unfold freezeCell at h
  split at h
  ·split at h<;>cases h
  ·cases h
  ·split at h<;>cases h
  ·split at h
   ·simp only[oc4] at h;cases h
   ·cases h
  ·cases h
def one{ρ:Type}(a:R1 ρ):RR ρ where
 enc:=a.enc
 rd r:=a.rd r.2 r.1
 d:=a.d
 le x o r h:=by
  obtain⟨z,H',h1,_,h2⟩:=a.le o x r h;exact⟨z,Ce0 h1,fg0 h2 (oe2 h1)⟩
def two{ρ σ:Type}(a:R1 ρ)(c:R1 σ):RR (ρ×σ) where
 enc r:=.tup [a.enc r.1,c.enc r.2]
 rd r:=match r.1 with
  |.tup [x,y]=>Option.rec (motive:=λ_=>Option (ρ×σ)) none (λu=>Option.rec (motive:=λ_=>Option (ρ×σ)) none (λv=>some (u,v)) (c.rd r.2 y)) (a.rd r.2 x)
  |_=>none
 d:=(a.d,c.d)
 le q o r h:=by
  split at h
  ·rename_i x y e
   simp only at e
   subst e;cases hu:a.rd o x with
   |none=>rw[hu] at h;cases h
   |some u =>
   cases hv:c.rd o y with
   |none=>rw[hu,hv] at h;cases h
   |some v =>
   rw[hu,hv] at h;have h:some (u,v)=some r:=h;injection h with h;subst h;obtain⟨z1,H1,h1,d1,l1⟩:=a.le o x u hu;obtain⟨z2,H2,h2,d2,l2⟩:=c.le H1 y v (by rw[c.diss d1];exact hv)
   refine⟨.tup [z1,z2],by simp only[od5,Rb7,h1,h2],ALe.tup rfl λk p q hp hq=>?_⟩
   match k,hp,hq with
   |0,hp,hq=>cases hp;cases hq;exact l1
   |1,hp,hq=>cases hp;cases hq;exact l2
  ·cases h
def okO{ρ:Type}(R:RR ρ)(o:Option (b7×List c7)):Bool:=Option.rec (motive:=λ_=>Bool) false (λr=>Option.rec (motive:=λ_=>Bool) false (λ_=>true) (R.rd r)) o
def L9{ρ:Type}(R:RR ρ)(o:Option (b7×List c7)):ρ:=Option.rec (motive:=λ_=>ρ) R.d (λr=>Option.rec (motive:=λ_=>ρ) R.d (λx=>x) (R.rd r)) o
@[reducible] def rdO{ρ:Type}(R:RR ρ)(o:Option (b7×List c7)):DT (b7×List c7):=.guard (okO R o) (.ret (R.enc (L9 R o),[]))
theorem oe3{ρ:Type}{R:RR ρ}{o:Option (b7×List c7)}{y:b7}{out:List c7}(h:(rdO R o).run=some (y,out)):out=[]/\∃x o',o=some (x,o')/\ee5 x o' y:=by
 obtain⟨h1,h2⟩:=DT.run_guard_some h;have h2:some (R.enc (L9 R o),([]:List c7))=some (y,out):=h2;injection h2 with h2;injection h2 with e1 e2;subst e1 e2
 refine⟨rfl,?_⟩;cases o with
 |none=>cases h1
 |some r =>
  obtain⟨x,o'⟩:=r;refine⟨x,o',rfl,?_⟩;cases hr:R.rd (x,o') with
  |none=>simp only[okO,hr] at h1;cases h1
  |some q =>
   simp only[L9,hr];exact R.le x o' q hr
theorem Zb3{α:Type}(o:Option α):(DT.ofOption o).run=o:=by cases o<;>rfl
section
variable{α β γ δ ε ζ:Type}{P:Program}{G:Nat->List Value}{f:FuncId}{R0:Sum}{c:Cod α}{d:Cod β}{e:Cod γ}{c4:Cod δ}{c5:Cod ε}{c6:Cod ζ}{ρ:Type}
theorem Sc3(hb:l8 P G f R0)(R:RR ρ){o:α->Option (b7×List c7)}(h:∀a r,o a=some r->(R0 [c.enc a] []).run=some r):l8 P G f (S7 c λa=>rdO R (o a)) :=
 lf1 (Zb2 hb (k:=λa=>DT.ofOption (o a)) λa r hr=>h a r (by rw[Zb3] at hr;exact hr)) λa y out hr=>by
  obtain⟨e,x,o',h1,h2⟩:=oe3 hr;exact⟨e,x,o',by rw[Zb3,h1],h2⟩
theorem dc7(hb:l8 P G f R0)(R:RR ρ){o:α->β->Option (b7×List c7)}(h:∀a b r,o a b=some r->(R0 [c.enc a,d.enc b] []).run=some r):l8 P G f (Z7 c d λa b=>rdO R (o a b)) :=
 lf2 (ne9 hb (k:=λa b=>DT.ofOption (o a b)) λa b r hr=>h a b r (by rw[Zb3] at hr;exact hr)) λa b y out hr=>by
  obtain⟨e,x,o',h1,h2⟩:=oe3 hr;exact⟨e,x,o',by rw[Zb3,h1],h2⟩
theorem Dg8(hb:l8 P G f R0)(R:RR ρ){o:α->β->γ->Option (b7×List c7)}(h:∀a b g r,o a b g=some r->(R0 [c.enc a,d.enc b,e.enc g] []).run=some r):l8 P G f (ne8 c d e λa b g=>rdO R (o a b g)) :=
 lf3 (Mf0 hb (k:=λa b g=>DT.ofOption (o a b g)) λa b g r hr=>h a b g r (by rw[Zb3] at hr;exact hr)) λa b g y out hr=>by
  obtain⟨e,x,o',h1,h2⟩:=oe3 hr;exact⟨e,x,o',by rw[Zb3,h1],h2⟩
theorem rg5(hb:l8 P G f R0)(R:RR ρ){o:α->β->γ->δ->Option (b7×List c7)}(h:∀a b g j r,o a b g j=some r->(R0 [c.enc a,d.enc b,e.enc g,c4.enc j] []).run=some r):l8 P G f (Vd6 c d e c4 λa b g j=>rdO R (o a b g j)) :=
 (Mf1 hb (k:=λa b g j=>DT.ofOption (o a b g j)) λa b g j r hr=>h a b g j r (by rw[Zb3] at hr;exact hr)).conv λargs blks y out hr=>by
  unfold Vd6 at hr
  split at hr
  ·obtain⟨a,h1,hr⟩:=K4 hr;obtain⟨b,h2,hr⟩:=K4 hr;obtain⟨g,h3,hr⟩:=K4 hr;obtain⟨j,h4,hr⟩:=K4 hr;obtain⟨g1,hr⟩:=DT.run_guard_some hr;obtain⟨g2,hr⟩:=DT.run_guard_some hr;obtain⟨g3,hr⟩:=DT.run_guard_some hr;obtain⟨g4,hr⟩:=DT.run_guard_some hr;obtain⟨e1,x,o',e2,e3⟩:=oe3 hr;refine⟨rfl,e1,x,o',?_,e3⟩;simp only[Vd6,h1,h2,h3,h4,onO,g1,g2,g3,g4];show (DT.ofOption (o a b g j)).run=_;rw[Zb3,e2]
  ·cases hr
end
inductive Kc where
 |o (k:Sk)
 |c (es:Nat) (f:b7->b7)
def fg1:Kc->b7->Bool
 |.o k,x=>Mf2 k x
 |.c es _,.tree es' _ _=>Nat.beq es es'
 |.c _ _,_=>false
def fg2:Kc->b7->b7
 |.o k,x=>eg7 k x
 |.c _ f,x=>f x
def fg3(k:Kc)(x:b7)(z:Bool):Bool:=match k with
 |.o _=>z
 |.c _ f=>Bool.and (uf8 f x) z
theorem Mf4{k:Kc}{x:b7}{z:Bool}(h:fg1 k x=true)(hc:fg3 k x z=true):x=fg2 k x/\z=true:=by
 cases k with
 |o k=>exact⟨Ze5 h,hc⟩
 |c es f =>
  have hc:Bool.and (uf8 f x) z=true:=hc;rw[Qas] at hc;exact⟨Xf4 hc.1,hc.2⟩
def vf1(ks:List Kc):List b7->Bool :=
 List.rec (motive:=λ_=>List b7->Bool) (λl=>List.rec (motive:=λ_=>Bool) true (λ_ _ _=>false) l)
  (λk _ ih l=>List.rec (motive:=λ_=>Bool) false (λx r _=>Bool.and (fg1 k x) (ih r)) l) ks
def af0(ks:List Kc):List b7->List b7 :=
 List.rec (motive:=λ_=>List b7->List b7) (λ_=>[]) (λk _ ih l=>fg2 k (hdA l)::ih (tlA l)) ks
def vf2(z:Bool)(ks:List Kc):List b7->Bool :=
 List.rec (motive:=λ_=>List b7->Bool) (λ_=>z) (λk _ ih l=>fg3 k (hdA l) (ih (tlA l))) ks
theorem Ce1{z:Bool}:∀{ks:List Kc} {l:List b7},vf1 ks l=true->vf2 z ks l=true->l=af0 ks l/\z=true
 |[],[],_,hc=>⟨rfl,hc⟩
 |[],x::r,h,_=>by cases h
 |k::ks,[],h,_=>by cases h
 |k::ks,x::r,h,hc=>by
  have h:Bool.and (fg1 k x) (vf1 ks r)=true:=h;rw[Qas] at h;have hc:fg3 k x (vf2 z ks r)=true:=hc;obtain⟨e1,h2⟩:=Mf4 h.1 hc;obtain⟨e2,h3⟩:=Ce1 h.2 h2;refine⟨?_,h3⟩;show x::r=fg2 k x::af0 ks r;rw[<- e1,<- e2]
inductive K where
 |o (k:Sk)
 |c (es:Nat) (f:b7->b7)
 |fn (f:Nat) (l:List Kc)
def isK:K->b7->Bool
 |.o k,x=>Mf2 k x
 |.c es _,.tree es' _ _=>Nat.beq es es'
 |.fn f l,.fn f' r=>Bool.and (Nat.beq f f') (vf1 l r)
 |.c _ _,_=>false
 |.fn _ _,_=>false
def asK:K->b7->b7
 |.o k,x=>eg7 k x
 |.c _ f,x=>f x
 |.fn f l,x=>.fn f (af0 l (cellsOf x))
def cnK(k:K)(x:b7)(z:Bool):Bool:=match k with
 |.o _=>z
 |.c _ f=>Bool.and (uf8 f x) z
 |.fn _ l=>vf2 z l (cellsOf x)
theorem vf3{k:K}{x:b7}{z:Bool}(h:isK k x=true)(hc:cnK k x z=true):x=asK k x/\z=true:=by
 unfold isK at h
 split at h
 ·exact⟨Ze5 h,hc⟩
 ·have hc:Bool.and (uf8 _ _) z=true:=hc;rw[Qas] at hc;exact⟨Xf4 hc.1,hc.2⟩
 ·rename_i f l f' r;rw[Qas] at h;obtain⟨e,hz⟩:=Ce1 h.2 hc;refine⟨?_,hz⟩;show b7.fn f' r=.fn f (af0 l r);rw[<- e,Qad h.1]
 ·cases h
 ·cases h
def Re2(ks:List K):List b7->Bool :=
 List.rec (motive:=λ_=>List b7->Bool) (λl=>List.rec (motive:=λ_=>Bool) true (λ_ _ _=>false) l)
  (λk _ ih l=>List.rec (motive:=λ_=>Bool) false (λx r _=>Bool.and (isK k x) (ih r)) l) ks
def Ce2(ks:List K):List b7->List b7 :=
 List.rec (motive:=λ_=>List b7->List b7) (λ_=>[]) (λk _ ih l=>asK k (hdA l)::ih (tlA l)) ks
def Re3(z:Bool)(ks:List K):List b7->Bool :=
 List.rec (motive:=λ_=>List b7->Bool) (λ_=>z) (λk _ ih l=>cnK k (hdA l) (ih (tlA l))) ks
theorem fd1{z:Bool}:∀{ks:List K} {l:List b7},Re2 ks l=true->Re3 z ks l=true->l=Ce2 ks l/\z=true
 |[],[],_,hc=>⟨rfl,hc⟩
 |[],x::r,h,_=>by cases h
 |k::ks,[],h,_=>by cases h
 |k::ks,x::r,h,hc=>by
  have h:Bool.and (isK k x) (Re2 ks r)=true:=h;rw[Qas] at h;have hc:cnK k x (Re3 z ks r)=true:=hc;obtain⟨e1,h2⟩:=vf3 h.1 hc;obtain⟨e2,h3⟩:=fd1 h.2 h2;refine⟨?_,h3⟩;show x::r=asK k x::Ce2 ks r;rw[<- e1,<- e2]
inductive S2 where
 |s (k:K)
 |agg (l:List K)
 |tup (l:List K)
 |fn (f:Nat) (l:List K)
def isS:S2->b7->Bool
 |.s k,x=>isK k x
 |.agg l,.agg r=>Re2 l r
 |.tup l,.tup r=>Re2 l r
 |.fn f l,.fn f' r=>Bool.and (Nat.beq f f') (Re2 l r)
 |_,_=>false
def asS:S2->b7->b7
 |.s k,x=>asK k x
 |.agg l,x=>.agg (Ce2 l (cellsOf x))
 |.tup l,x=>.tup (Ce2 l (cellsOf x))
 |.fn f l,x=>.fn f (Ce2 l (cellsOf x))
def cnS(k:S2)(x:b7)(z:Bool):Bool:=match k with
 |.s k=>cnK k x z
 |.agg l=>Re3 z l (cellsOf x)
 |.tup l=>Re3 z l (cellsOf x)
 |.fn _ l=>Re3 z l (cellsOf x)
theorem fg4{k:S2}{x:b7}{z:Bool}(h:isS k x=true)(hc:cnS k x z=true):x=asS k x/\z=true:=by
 unfold isS at h
 split at h
 ·exact vf3 h hc
 ·rename_i l r;obtain⟨e,hz⟩:=fd1 h hc;exact⟨congrArg b7.agg e,hz⟩
 ·rename_i l r;obtain⟨e,hz⟩:=fd1 h hc;exact⟨congrArg b7.tup e,hz⟩
 ·rename_i f l f' r;rw[Qas] at h;obtain⟨e,hz⟩:=fd1 h.2 hc;refine⟨?_,hz⟩;show b7.fn f' r=.fn f (Ce2 l r);rw[<- e,Qad h.1]
 ·cases h
def vf4(ks:List S2):List b7->Bool :=
 List.rec (motive:=λ_=>List b7->Bool) (λl=>List.rec (motive:=λ_=>Bool) true (λ_ _ _=>false) l)
  (λk _ ih l=>List.rec (motive:=λ_=>Bool) false (λx r _=>Bool.and (isS k x) (ih r)) l) ks
def lf4(ks:List S2):List b7->List b7 :=
 List.rec (motive:=λ_=>List b7->List b7) (λ_=>[]) (λk _ ih l=>asS k (hdA l)::ih (tlA l)) ks
def Mf5(z:Bool)(ks:List S2):List b7->Bool :=
 List.rec (motive:=λ_=>List b7->Bool) (λ_=>z) (λk _ ih l=>cnS k (hdA l) (ih (tlA l))) ks
theorem af1{z:Bool}:∀{ks:List S2} {l:List b7},vf4 ks l=true->Mf5 z ks l=true->l=lf4 ks l/\z=true
 |[],[],_,hc=>⟨rfl,hc⟩
 |[],x::r,h,_=>by cases h
 |k::ks,[],h,_=>by cases h
 |k::ks,x::r,h,hc=>by
  have h:Bool.and (isS k x) (vf4 ks r)=true:=h;rw[Qas] at h;have hc:cnS k x (Mf5 z ks r)=true:=hc;obtain⟨e1,h2⟩:=fg4 h.1 hc;obtain⟨e2,h3⟩:=af1 h.2 h2;refine⟨?_,h3⟩;show x::r=asS k x::lf4 ks r;rw[<- e1,<- e2]
def fg5(ks:List (List K)):List (List b7)->Bool :=
 List.rec (motive:=λ_=>List (List b7)->Bool) (λl=>List.rec (motive:=λ_=>Bool) true (λ_ _ _=>false) l)
  (λk _ ih l=>List.rec (motive:=λ_=>Bool) false (λx r _=>Bool.and (Re2 k x) (ih r)) l) ks
def fg6(ks:List (List K)):List (List b7)->List (List b7) :=
 List.rec (motive:=λ_=>List (List b7)->List (List b7)) (λ_=>[]) (λk _ ih l=>Ce2 k (hdR l)::ih (tlR l)) ks
def fg7(z:Bool)(ks:List (List K)):List (List b7)->Bool :=
 List.rec (motive:=λ_=>List (List b7)->Bool) (λ_=>z) (λk _ ih l=>Re3 (ih (tlR l)) k (hdR l)) ks
theorem af2{z:Bool}:∀{ks:List (List K)} {l:List (List b7)},fg5 ks l=true->fg7 z ks l=true->l=fg6 ks l/\z=true
 |[],[],_,hc=>⟨rfl,hc⟩
 |[],x::r,h,_=>by cases h
 |k::ks,[],h,_=>by cases h
 |k::ks,x::r,h,hc=>by
  have h:Bool.and (Re2 k x) (fg5 ks r)=true:=h;rw[Qas] at h;have hc:Re3 (fg7 z ks r) k x=true:=hc;obtain⟨e1,h2⟩:=fd1 h.1 hc;obtain⟨e2,h3⟩:=af2 h.2 h2;refine⟨?_,h3⟩;show x::r=Ce2 k x::fg6 ks r;rw[<- e1,<- e2]
def ru2(n:Nat)(l:List S2):List S2:=Nat.rec (motive:=λ_=>List S2) l (λ_ ih=>.s (.o .unk)::ih) n
structure B2 where
 et:Nat
 es:Nat
 own:Bool
 rows:Option (List (List K))
@[reducible] def isE(o:Option (List (List K)))(l:List (List b7)):Bool:=Option.rec (motive:=λ_=>Bool) true (λks=>fg5 ks l) o
@[reducible] def asE(o:Option (List (List K)))(l:List (List b7)):List (List b7):=Option.rec (motive:=λ_=>List (List b7)) l (λks=>fg6 ks l) o
@[reducible] def cnO(o:Option (List (List K)))(l:List (List b7))(z:Bool):Bool:=Option.rec (motive:=λ_=>Bool) z (λks=>fg7 z ks l) o
def isB(k:B2)(x:c7):Bool :=
 Bool.and (Bool.and (Nat.beq k.et x.et) (Nat.beq k.es x.es)) (Bool.and (eqB k.own x.own) (Bool.and (!x.dead) (Bool.and (Nat.beq x.g 0) (isE k.rows x.elems))))
theorem fg8{k:B2}{x:c7}{z:Bool}(h:isB k x=true)(hc:cnO k.rows x.elems z=true):x=⟨k.et,k.es,asE k.rows x.elems,k.own,false,0⟩/\z=true:=by
 unfold isB at h;simp only[Qas] at h;obtain⟨⟨h1,h2⟩,h3,h4,h5,h6⟩:=h;have h1:=Qad h1;have h2:=Qad h2;have h5:=Qad h5;have h4:x.dead=false:=by simpa using h4
 obtain⟨et,es,el,ow,de,g⟩:=x;obtain⟨et',es',ow',rows⟩:=k
 simp only at *
 subst h1 h2 h4 h5;have h3:ow'=ow:=by cases ow'<;>cases ow<;>first | rfl | cases h3
 subst h3;cases rows with
 |none=>exact⟨rfl,hc⟩
 |some ks =>
  obtain⟨e,hz⟩:=af2 h6 hc
  grind
def vf5(ks:List B2):List c7->Bool :=
 List.rec (motive:=λ_=>List c7->Bool) (λl=>List.rec (motive:=λ_=>Bool) true (λ_ _ _=>false) l)
  (λk _ ih l=>List.rec (motive:=λ_=>Bool) false (λx r _=>Bool.and (isB k x) (ih r)) l) ks
def lf5(ks:List B2):List c7->List c7 :=
 List.rec (motive:=λ_=>List c7->List c7) (λ_=>[]) (λk _ ih l=>⟨k.et,k.es,asE k.rows (hdB l),k.own,false,0⟩::ih (tlB l)) ks
def Mf6(z:Bool)(ks:List B2):List c7->Bool :=
 List.rec (motive:=λ_=>List c7->Bool) (λ_=>z) (λk _ ih l=>cnO k.rows (hdB l) (ih (tlB l))) ks
theorem af3{z:Bool}:∀{ks:List B2} {l:List c7},vf5 ks l=true->Mf6 z ks l=true->l=lf5 ks l/\z=true
 |[],[],_,hc=>⟨rfl,hc⟩
 |[],x::r,h,_=>by cases h
 |k::ks,[],h,_=>by cases h
 |k::ks,x::r,h,hc=>by
  have h:Bool.and (isB k x) (vf5 ks r)=true:=h;rw[Qas] at h;have hc:cnO k.rows x.elems (Mf6 z ks r)=true:=hc;obtain⟨e1,h2⟩:=fg8 h.1 hc;obtain⟨e2,h3⟩:=af3 h.2 h2;refine⟨?_,h3⟩;show x::r=⟨k.et,k.es,asE k.rows x.elems,k.own,false,0⟩::lf5 ks r;rw[<- e1,<- e2]
structure Al2(π σ:Type) where
 sh:List S2
 bl:List B2
 rd:List b7->List c7->π×σ
def Mf7{π σ:Type}(l:List (Al2 π σ))(t:St):DT (π×σ) :=
 List.rec (motive:=λ_=>DT (π×σ)) .fail
  (λx _ ih=>Bool.rec (motive:=λ_=>DT (π×σ)) ih (.guard (Mf5 (Mf6 true x.bl t.H) x.sh t.a) (.ret (x.rd t.a t.H))) (Bool.and (vf4 x.sh t.a) (vf5 x.bl t.H))) l
theorem oe4{π σ:Type}{enc:π->σ->St}{t:St}{q:π×σ}:∀{l:List (Al2 π σ)},(∀x,x∈l->∀a H,(⟨lf4 x.sh a,lf5 x.bl H⟩:St)=enc (x.rd a H).1 (x.rd a H).2) ->
  (Mf7 l t).run=some q->t=enc q.1 q.2
 |[],_,h=>by cases h
 |x::l,hl,h=>by
  have h:(Bool.rec (motive:=λ_=>DT (π×σ)) (Mf7 l t) (.guard (Mf5 (Mf6 true x.bl t.H) x.sh t.a) (.ret (x.rd t.a t.H))) (Bool.and (vf4 x.sh t.a) (vf5 x.bl t.H))).run=some q:=h
  cases hb:Bool.and (vf4 x.sh t.a) (vf5 x.bl t.H) with
  |false=>rw[hb] at h;exact oe4 (λy hy=>hl y (.tail _ hy)) h
  |true =>
   rw[hb] at h;obtain⟨h1,h2⟩:=DT.run_guard_some h;cases h2;rw[Qas] at hb;obtain⟨e1,h3⟩:=af1 hb.1 h1;obtain⟨e2,_⟩:=af3 hb.2 h3;rw[<- hl x (.head _) t.a t.H,<- e1,<- e2]
def Sa6{π:Type}(x:Al2 π Unit)(k:π->DT (b7×List c7)):Sum:=λargs blks=>(Mf7 [x] ⟨args,blks⟩).bind λq=>k q.1
theorem K3{P:Program}{G:Nat->List Value}{f:FuncId}{R:Sum}{π:Type}{x:Al2 π Unit}{enc:π->St}{k:π->DT (b7×List c7)}
  (hx:∀a H,(⟨lf4 x.sh a,lf5 x.bl H⟩:St)=enc (x.rd a H).1) (hb:l8 P G f R)
  (h:∀p r,(k p).run=some r->(R (enc p).a (enc p).H).run=some r):l8 P G f (Sa6 x k):=hb.le λargs blks r hr=>by
 obtain⟨q,h1,h2⟩:=DT.run_bind_some hr;have e:=oe4 (enc:=λp _=>enc p) (db8.mem (.cons hx .nil)) h1
 grind
@[reducible] def slT(l:List b7)(n:Nat):b7:=hdA (Nat.rec (motive:=λ_=>List b7->List b7) (λl=>l) (λ_ ih l=>ih (tlA l)) n l)
@[reducible] def rwT(l:List (List b7))(n:Nat):List b7:=hdR (Nat.rec (motive:=λ_=>List (List b7)->List (List b7)) (λl=>l) (λ_ ih l=>ih (tlR l)) n l)
@[reducible] def elT(l:List c7)(n:Nat):List (List b7):=hdB (Nat.rec (motive:=λ_=>List c7->List c7) (λl=>l) (λ_ ih l=>ih (tlB l)) n l)
@[reducible] def xit(o:Option Nat):l4:=Option.rec (motive:=λ_=>l4) .ret (λid=>.exit id) o
theorem fg9(o:Option Nat):xit o≠.normal:=by cases o<;>exact λh=>by cases h
abbrev Xs(π σ:Type):=List (Option Nat×(π->σ->St))
def xOf{π σ:Type}(xs:Xs π σ)(p:π)(s:σ)(t:Nat):Nat->Option (l4×St) :=
 List.rec (motive:=λ_=>Nat->Option (l4×St)) (λ_=>none) (λx _ ih k=>sel (Nat.beq t k) (some (xit x.1,x.2 p s)) (ih (k+1))) xs
def gg0{π σ:Type}(xs:Xs π σ)(p:π)(r:Nat×σ):Nat->DT (l4×St) :=
 List.rec (motive:=λ_=>Nat->DT (l4×St)) (λ_=>.fail) (λx _ ih k=>.ite (Nat.beq r.1 k) (.ret (xit x.1,x.2 p r.2)) (ih (k+1))) xs
theorem Ce3{π σ:Type}(p:π)(r:Nat×σ):∀(xs:Xs π σ) (k:Nat),(gg0 xs p r k).run=xOf xs p r.2 r.1 k
 |[],k=>rfl
 |x::xs,k=>by
  show (DT.ite (Nat.beq r.1 k) (.ret (xit x.1,x.2 p r.2)) (gg0 xs p r (k+1))).run=sel (Nat.beq r.1 k) (some (xit x.1,x.2 p r.2)) (xOf xs p r.2 r.1 (k+1));rw[DT.run_ite,Ce3 p r xs (k+1)];cases Nat.beq r.1 k<;>rfl
theorem Jd4{π σ:Type}(p:π)(s:σ):∀(xs:Xs π σ) (k:Nat),xOf xs p s 0 (k+1)=none
 |[],_=>rfl
 |_::xs,k=>Jd4 p s xs (k+1)
theorem af4{π σ:Type}{p:π}{s:σ}{t:Nat}{e:l4×St}:∀{xs:Xs π σ} {k:Nat},xOf xs p s t k=some e->e.1≠.normal
 |[],_,h=>by cases h
 |x::xs,k,h=>by
  have h:sel (Nat.beq t k) (some (xit x.1,x.2 p s)) (xOf xs p s t (k+1))=some e:=h;cases hb:Nat.beq t k with
  |true=>rw[hb] at h;cases h;exact fg9 _
  |false=>rw[hb] at h;exact af4 h
theorem Ce4{π σ:Type}{head:St->DT St}{body:St->DT (l4×St)}{enc:σ->St}{step:σ->Stp σ}{xs:Xs π σ}{p:π}
  (h:∀s,(Zb1 head body (enc s)).run=Ec0 (λs'=>some (.normal,enc s')) (λt=>xOf xs p s t 1) none (step s)) :
  ∀(n:Nat) (s:σ) (e:l4×St),xOf xs p (lp0 step n s).2 (lp0 step n s).1 1=some e->(Yc7 head body n (enc s)).run=some e
 |n,s,e,he=>by
  have hr:=h s;cases hs:step s with
  |fail =>
   have h0:lp0 step n s=(0,s):=by
    cases n with
    |zero=>show Ec0 _ _ _ (step s)=_;rw[hs]
    |succ n=>show Ec0 _ _ _ (step s)=_;rw[hs]
   rw[h0] at he;rw[show xOf xs p s 0 1=none from Jd4 p s xs 0] at he
   cases he
  |exit t =>
   rw[Jd0 hs] at he;rw[hs] at hr;have hr:(Zb1 head body (enc s)).run=xOf xs p s t 1:=hr;have he:xOf xs p s t 1=some e:=he;rw[he] at hr;obtain⟨x,t'⟩:=e;exact Lf6 hr (af4 he)
  |next s' =>
   cases n with
   |zero =>
    have h0:lp0 step 0 s=(0,s):=by show Ec0 _ _ _ (step s)=_;rw[hs]
    rw[h0] at he;rw[show xOf xs p s 0 1=none from Jd4 p s xs 0] at he
    cases he
   |succ n =>
    rw[Be7 hs] at he;rw[hs] at hr;exact Lf5 hr (Ce4 h n s' e he)
section
variable{π σ:Type}
def ee6(head:Nat->List Nat->St->DT St)(k:Nat)(keep:List Nat)(alts:List (Al2 π σ))(step:π->σ->Stp σ)(xs:Xs π σ)(s:St):DT (l4×St) :=
 (head k keep s).bind λt=>(Mf7 alts t).bind λq=>gg0 xs q.1 (lp (step q.1) q.2) 1
structure Ec5(head:Nat->List Nat->St->DT St)(k:Nat)(keep:List Nat)(body:St->DT (l4×St))(alts:List (Al2 π σ))(step:π->σ->Stp σ)(xs:Xs π σ)(enc:π->σ->St):Prop where
 ha:db8 (λx=>∀a H,(⟨lf4 x.sh a,lf5 x.bl H⟩:St)=enc (x.rd a H).1 (x.rd a H).2) alts
 h:∀p s,(Zb1 (head k keep) body (enc p s)).run=Ec0 (λs'=>some (.normal,enc p s')) (λt=>xOf xs p s t 1) none (step p s)
variable{E:Env}{k:Nat}{res:List nd3}{keep:List Nat}{alts:List (Al2 π σ)}{enc:π->σ->St}{step:π->σ->Stp σ}{xs:Xs π σ}{body:PS}{c:PC}{head:Nat->List Nat->St->DT St}{bd:St->DT (l4×St)}
theorem Ec5.go(w:Ec5 head k keep bd alts step xs enc){s:St}{r:l4×St}(hr:(ee6 head k keep alts step xs s).run=some r):∃t,(head k keep s).run=some t/\(Yc7 (head k keep) bd rounds t).run=some r:=by
 obtain⟨t,h1,h2⟩:=DT.run_bind_some hr;obtain⟨q,h3,h4⟩:=DT.run_bind_some h2;rw[Ce3,uf3] at h4;have e:=oe4 w.ha.mem h3;refine⟨t,h1,?_⟩;rw[e];exact Ce4 (w.h q.1) rounds q.2 r h4
theorem Ec5.belowC(hb:xa8 E k res body c)(hN:E.N=rounds+1)(w:Ec5 Dc9 k keep (Ze6 E k res body) alts step xs enc)(s:St):ia6 k res (ee6 Dc9 k keep alts step xs s) (M2 E k (.loop keep c) s):=λr hr=>by
 obtain⟨t,h1,h2⟩:=w.go hr;rw[ee4,hN];exact Ec1 hb.le _ _ r (Pc3 h1 h2)
end
inductive RT where
 |p
 |s (a c:RT)
 |c (x y:RT)
 |b (c:RT)
 |l (c:RT)
 |i (c:RT)
 |u (S:St->DT (l4×St))
def Jd5:RT->PC->PS
 |.s a b,.seq x y=>.seq (Jd5 a x) (Jd5 b y)
 |.c a b,.cond g x y=>.cond g (Jd5 a x) (Jd5 b y)
 |.b a,.block id x=>.block id (Jd5 a x)
 |.l a,.loop keep x=>.loop keep (Jd5 a x)
 |.u S,_=>.sum S
 |_,c=>.pc c
def jc3:RT->PC->List ((St->DT (l4×St))×PC)
 |.s a b,.seq x y=>app (jc3 a x) (jc3 b y)
 |.c a b,.cond _ x y=>app (jc3 a x) (jc3 b y)
 |.b a,.block _ x=>jc3 a x
 |.l a,.loop _ x=>jc3 a x
 |.i a,.inner _ _ _ x=>jc3 a x
 |.u S,c=>[(S,c)]
 |_,_=>[]
theorem db8.app{α:Type}{Q:α->Prop}:∀{l r:List α},db8 Q (Go.Ev.app l r)->db8 Q l/\db8 Q r
 |[],_,h=>⟨.nil,h⟩
 |_::l,_,.cons h t=>⟨.cons h (db8.app t).1,(db8.app t).2⟩
theorem af5{E:Env}{k:Nat}{res:List nd3}(rt:RT)(c:PC):db8 (λx=>∀s,ia6 k res (x.1 s) (M2 E k x.2 s)) (jc3 rt c)->xa8 E k res (Jd5 rt c) c:=by
 induction rt generalizing c with
 |p=>intro h;cases c<;>exact .pc _
 |s a b iha ihb =>
  intro h;cases c with
  |seq x y=>exact .seq (iha x (db8.app h).1) (ihb y (db8.app h).2)
  |_=>exact .pc _
 |c a b iha ihb =>
  intro h;cases c with
  |cond g x y=>exact .cond g (iha x (db8.app h).1) (ihb y (db8.app h).2)
  |_=>exact .pc _
 |b a iha =>
  intro h;cases c with
  |block id x=>exact .block id (iha x h)
  |_=>exact .pc _
 |l a iha =>
  intro h;cases c with
  |loop keep x=>exact .loop keep (iha x h)
  |_=>exact .pc _
 |i a iha=>intro h;cases c<;>exact .pc _
 |u S =>
  intro h
  have:jc3 (.u S) c=[(S,c)]:=by cases c<;>rfl
  rw[this] at h;cases h with
  |cons h t =>
   have e:Jd5 (.u S) c=.sum S:=by cases c<;>rfl
   rw[e];exact .sum h
def Dg9(l:List Nat)(c:PC):PC :=
 List.rec (motive:=λ_=>PC->PC) (λc=>c) (λn _ ih c=>match c with
  |.seq x y=>ih (match n with | 0=>x | _=>y)
  |.cond _ x y=>ih (match n with | 2=>x | _=>y)
  |.block _ x=>ih x
  |.loop _ x=>ih x
  |.loopM _ x=>ih x
  |.inner _ _ _ x=>ih x
  |c=>c) l c
end Go.Ev.L
namespace Go.Ev.L
open Go Go.Ev Go.Sort Go.Proofs
section
variable{α:Type}[Inhabited α]{P:Program}{G:Nat->List Value}{g:FuncId}{S:Sum}{t:Ty α}{enc:α->List Value}{cf:α->α->Int}
theorem Mf8(hc:l8 P G g S)(hS:∀x y,(S [.agg (t.row x),.agg (t.row y)] []).run=some (i (cf x y),[]))(hG:∀n,G n=[])(he:∀x,t.row x=(enc x).map .v)(k blk off size:Nat)(w:World) :
  CmpLays P g #[] enc k cf blk off size w:=by
 intro m os dk _ x y;generalize sortWorldK enc k w blk off m dk os=w0;have hrow:∀(z:α),ra2 (λ_=>⟨0,0,0⟩) [] (λ_ _=>False) w0 (.agg (t.row z)) (.agg (enc z).toArray):=λz=>by
  refine .agg _ _ (by rw[he];simp) λi u u' hu hu'=>?_
  rw[he,Qbe] at hu;have hu':(enc z)[i]?=some u':=by simpa using hu'
  rw[hu'] at hu;injection hu with hu;subst hu;exact .v _
 obtain⟨_,h⟩:=hc _ _ _ _ (hS x y) (λk=>w0.heap.size<=k) (λ_=>⟨0,0,0⟩) (λ_ _=>False) w0 [.agg (enc x).toArray,.agg (enc y).toArray]
  ⟨λid b hb=>by simp at hb,λid id' b b' hb=>by simp at hb,λb o hf=>hf.elim,λk hk=>hk⟩ rfl
  (λi u u' hu hu'=>by
   match i,hu,hu' with
   |0,hu,hu'=>cases hu;cases hu';exact .val (hrow x)
   |1,hu,hu'=>cases hu;cases hu';exact .val (hrow y))
  (λn c v hv=>by rw[hG] at hv;simp at hv)
 refine h.mono λe w' ⟨r',h1,ρ',F',h2,h3,h4⟩=>?_
 have h5:=fa0 h4;subst h5;refine⟨h1,w'.drawn-w0.drawn,w'.heap.extract w0.heap.size w'.heap.size,?_⟩;have hd:=h2.ext.drawn;have hs:=h2.ext.size;have hheap:w'.heap=w0.heap++w'.heap.extract w0.heap.size w'.heap.size:=by
  apply Array.ext_getElem?;intro j
  rcases Qaq j w0.heap.size with hj|hj
  ·rw[Qdb hj,h2.ext.block j hj (by omega)]
  grind
 obtain⟨hp,tp,dr,os',out⟩:=w';have e1:=h2.ext.os;have e2:=h2.ext.tape;have e3:=h2.ext.output
 simp only at e1 e2 e3 hd hheap
 subst e1 e2 e3;unfold grow World.drewN
 simp only
 congr 1;omega
def vf6(t:Ty α)(g:Nat)(et:Nat)(srt:List α->List α):Sum:=λargs blks=>match args,blks with
 |[.sl 0 0 n 0,.fn g' []],[⟨et',es',el,true,false,0⟩] =>
  Bool.rec (motive:=λ_=>DT (b7×List c7)) .fail (.guard (Bool.and (Nat.ble n room) (Bool.and (Nat.ble n (len el)) (okS t el 0 n))) (.ret (.v (.tuple #[]),[⟨et',es',app (bL t (srt (slR t el 0 n))) (s9 el n),true,false,0⟩])))
   (Bool.and (Nat.beq g' g) (Bool.and (Nat.beq et' et) (Nat.beq es' t.es)))
 |_,_=>.fail
theorem fd2(l:List α)(j:Nat)(h:j<l.length):l.toArray[j]! = l[j]:=by
 simp_all
theorem Mf9{f:FuncId}{et:Nat}{srt:List α->List α}(hcall:Rb3 P f)(hes:0<t.es)(he:∀x,t.row x=(enc x).map .v)(hx:∀r,t.ok r=true->r=t.row (t.rd r))(h1:∀x,∀v∈enc x,v.oneCell'=true)
  (hlen:∀l,(srt l).length=l.length) (hcl:∀blk off size w,CmpLays P g #[] enc t.es cf blk off size w)
  (hcon:∀(blk cap:Nat) (d:Array α) (w:World),(∀off size,CmpLays P g #[] enc t.es cf blk off size w)->HoldsK enc t.es w blk 0 d->blk<w.heap.size->d.size<4611686018427387904 ->
   Calls P f #[.slice (some ⟨blk,0,none⟩) d.size cap,.func (.func g) #[] #[]] w λe w'=>e=.returned (.tuple #[])/\∃n os,w'=sortWorldK enc t.es w blk 0 n (srt d.toList).toArray os) :
  l8 P G f (vf6 t g et srt):=by
 intro args blks r out hr W ρ F w args' hH hl hargs hG;refine⟨hcall,?_⟩;unfold vf6 at hr
 split at hr
 case h_2=>cases hr
 rename_i n g' et' es' el;cases hb0:Bool.and (Nat.beq g' g) (Bool.and (Nat.beq et' et) (Nat.beq es' t.es)) with
 |false=>rw[hb0] at hr;cases hr
 |true =>
 rw[hb0] at hr;rw[Qas,Qas] at hb0;have q1:=Qad hb0.1;have q2:=Qad hb0.2.1;have q3:=Qad hb0.2.2;subst q1 q2 q3;obtain⟨hg0,hr⟩:=DT.run_guard_some hr;rw[Qas,Qas] at hg0;have hroom:n<=room:=Qae hg0.1;have hn:=Qae hg0.2.1;rw[z6] at hn;have hok:=hg0.2.2;injection hr with hr;injection hr with p1 p2;subst p1 p2
 match args',hl with
 |[v0,v1],_ =>
 obtain⟨a,cap,b,rfl,hb,hd,_,hncap,hspot,hcap,hq⟩:=lb3 (hargs 0 _ _ rfl rfl);obtain⟨vs1,rfl,hvs1,_⟩:=dc3 (hargs 1 _ _ rfl rfl);have hvs1:vs1=#[]:=Array.eq_empty_of_size_eq_zero (by simpa using hvs1.symm)
 subst hvs1;rw[Pb6] at *
 have hb:b=⟨et',t.es,el,true,false,0⟩:=by simpa using hb.symm
 subst hb;obtain⟨ha,hsz,hne⟩:=hq rfl;have ha:a=⟨(ρ 0).blk,(ρ 0).off+0*t.es,none⟩:=ha.resolve_left λh=>by omega
 obtain⟨cc,tt,fr,hB⟩:=hH.blk 0 _ rfl rfl;obtain⟨hfr,hW,hoff,hsize,hnF,het⟩:=hB.own rfl;subst hfr;rw[hoff,Nat.zero_mul,Nat.add_zero] at ha;subst ha;generalize hbk:(ρ 0).blk=blk at *
 -- the rows asq data
 have hrow:∀j,j<n->c8 el j=(enc (gL t (slR t el 0 n) j)).map .v:=λj hj=>by
  have h2:t.ok (c8 el (0+j))=true:=Qcc.1 hok j (by simpa using hj)
  rw[Qar] at h2;rw[<- he,slR,Ze8 t _ hj,Qar];exact hx _ h2
 have hld:(slR t el 0 n).length=n:=Ze7 ..;have hk:∀x,(enc x).length=t.es:=λx=>by have:=t.h0 x;rw[z6,he] at this;simpa using this
 have hlt:blk<w.heap.size:=by
  have:=hB.obj
  grind
 have hobj:w.heap[blk]?=some (.cells cc tt (0,0)):=by rw[<- hbk];exact hB.obj
 have hgd:∀(l:List α) (j:Nat) (h:j<l.length),gL t l j=l[j]:=λl j h=>by simp[gL,Qda,Qaa h]
 have hdm:∀q,q<n*t.es->q / t.es<n/\q % t.es<t.es/\(q / t.es)*t.es+q % t.es=q:=λq hq=>⟨Nat.div_lt_of_lt_mul (by rw[Qbo];exact hq),Nat.mod_lt _ hes,Nat.div_add_mod' q t.es⟩
 have hrowAt:∀j,j<el.length->el[j]?=some (c8 el j):=λj hj=>by
  unfold c8;rw[F7,Qaa hj]
 have hH0:HoldsK enc t.es w blk 0 (slR t el 0 n).toArray:=by
  intro q hq;have hq:q<n*t.es:=by rw[size_flatK] at hq;simpa [hld] using hq
  obtain⟨e1,e2,e3⟩:=hdm q hq;rw[get_flatK _ _ _ _ (by simpa [hld] using hq),fd2 _ _ (by rw[hld];exact e1),<- hgd _ _ (by rw[hld];exact e1)]
  have hcx:(c8 el (q / t.es))[q % t.es]?=some (.v ((enc (gL t (slR t el 0 n) (q / t.es)))[q % t.es]!)):=by
   grind
  obtain⟨x',h5,h6⟩:=hB.cell (q / t.es) _ (q % t.es) _ (hrowAt _ (by omega)) hcx
  have h6:x'=(enc (gL t (slR t el 0 n) (q / t.es)))[q % t.es]! :=by cases h6;rfl
  subst h6;rw[hoff] at h5;simp only[e3,Qar] at h5;constructor
  ·simp only[World.cell?,hobj,Qar];simpa using h5
  ·simp[World.frozen?,hobj]
 have hds:(slR t el 0 n).toArray.size=n:=by simpa using hld
 have hmax:n<4611686018427387904:=by unfold room at hroom;omega
 have hcalls:=hcon blk cap (slR t el 0 n).toArray w (λoff size=>hcl blk off size w) hH0 hlt (by rw[hds];exact hmax)
 rw[hds] at hcalls;refine hcalls.mono λe w' ⟨h5,m,os,h6⟩=>⟨_,h5,ρ,F,?_⟩
 generalize hsd:srt (slR t el 0 n)=sd at *
 have hsl:sd.length=n:=by rw[<- hsd,hlen,hld]
 have h6:w'=grow (mapBlock (Sort.ahead w m) blk (putCells id 0 (flatK enc t.es sd.toArray))) os:=h6;have hw'size:w'.heap.size=w.heap.size+os.size:=by rw[h6];simp[mapBlock]
 have hold:∀k,k<w.heap.size->k≠blk->w'.heap[k]?=w.heap[k]?:=λk h7 h8=>by
  rw[h6];simp only[grow,mapBlock];rw[Qdb (by simpa using h7),Qdd]
  simp[Ne.symm h8]
 have hnew:w'.heap[blk]?=some (.cells (putCells id 0 (flatK enc t.es sd.toArray) cc) tt (0,0)):=by
  rw[h6];simp only[grow,mapBlock];rw[Qdb (by simpa using hlt),Qdd]
  simp[hobj,onCells]
 have hcells:∀b o,F b o->w'.cell? ⟨b,o,none⟩=w.cell? ⟨b,o,none⟩:=λb o hf=>by
  have h7:b≠blk:=λh8=>hnF o (h8 ▸ hf)
  have:=oc6 (hH.frz b o hf)
  simp only[World.cell?,hold b this h7]
 have hpc:∀q,q<cc.size->(putCells id 0 (flatK enc t.es sd.toArray) cc)[q]?=if q<n*t.es then some ((enc sd.toArray[q / t.es]!)[q % t.es]!) else cc[q]?:=λq hq=>by
  simp only[putCells,Array.getElem?_mapIdx,Qac hq,Option.map_some,size_flatK,Qbv,true_and,Qar,Nat.sub_zero,id]
  have:sd.toArray.size=n:=by simpa using hsl
  rw[this];split
  ·next h7=>rw[get_flatK _ _ _ _ (by rw[this];exact h7)]
  ·rfl
 have hel:(app (bL t sd) (s9 el n)).length=el.length:=by
  rw[K6,Qdc,<- z6 (bL t sd),J2,hsl,I9,List.length_drop];omega
 have hnrow:∀(j:Nat) r,(app (bL t sd) (s9 el n))[j]?=some r->(j<n/\r=t.row (gL t sd j))\/(n<=j/\el[j]?=some r):=λj r hr=>by
  have hlb:(bL t sd).length=n:=by rw[<- z6,J2,hsl]
  rw[K6] at hr
  rcases Qaq j n with h7|h7
  ·rw[Qbb (by omega)] at hr
   left;refine⟨h7,?_⟩;unfold bL at hr;rw[s8,Qbe,Qaa (by omega)] at hr
   injection hr with hr;rw[<- hr,hgd sd j (by omega)]
  ·rw[Qba (by omega),hlb,I9,Qbg] at hr
   right;exact⟨h7,by rw[<- hr];congr 1;omega⟩
 have hcs:el.length*t.es<=cc.size:=by have:=hB.len;rw[hsize] at this;exact this
 refine⟨⟨⟨?_,?_,?_,by omega,λk h7 h8=>hold k h7 λh9=>h8 (h9 ▸ hW),hcells,?_⟩,λid b hb=>?_,λ_ _ h=>h,λ_ _ h=>.inl h,λid b' hb' hn'=>?_⟩,⟨λid b hb hd'=>?_,λid id' b b' hb hb' h7 h8 h9 h10=>?_,λb o hf=>by rw[hcells b o hf];exact hH.frz b o hf,λk hk'=>hH.new k (by omega)⟩,.ofv _⟩
 ·rw[h6];rfl
 ·rw[h6];rfl
 ·rw[h6];rfl
 ·rw[h6];exact Nat.le_add_right _ _
 ·match id,hb with
  |0,hb =>
   cases hb;exact⟨_,rfl,rfl,Qaf _,λ_=>⟨rfl,rfl,by simp only[hel];exact Qaf _⟩⟩
 ·match id,hb' with
  |0,hb'=>cases hb';exact absurd rfl (hn' ⟨et',t.es,el,true,false,0⟩ rfl)
 ·match id,hb with
  |0,hb =>
   cases hb;refine⟨_,tt,(0,0),by rw[hbk];exact hnew,?_,?_,?_,?_,λ_=>⟨rfl,by rw[hbk];exact hW,hoff,?_,by rw[hbk];exact hnF,het⟩,λh=>by cases h⟩
   ·rw[hoff,hsize];simp[putCells]
   ·simp only[hel];exact hB.len
   ·intro j r hr
    rcases hnrow j r hr with⟨_,h8⟩|⟨_,h8⟩
    ·rw[h8,<- z6];exact t.h0 _
    ·exact hB.rows j r h8
   ·intro j r c x hr hc;rw[hoff,Qar]
    rcases hnrow j r hr with⟨h7,h8⟩|⟨h7,h8⟩
    ·subst h8;have hclt:c<t.es:=by
      have:=(Qab.1 hc).1
      rw[<- z6,t.h0] at this;exact this
     have hq:j*t.es+c<n*t.es:=by
      have:=Qaj t.es (show j+1<=n from h7)
      rw[Qao,Qbi] at this;omega
     have hqn:n*t.es<=el.length*t.es:=Qaj _ hn;have e1:(j*t.es+c) / t.es=j:=by rw[Qbo,Nat.mul_add_div hes,Nat.div_eq_of_lt hclt,Nat.add_zero]
     have e2:(j*t.es+c) % t.es=c:=by rw[Qbo,Nat.mul_add_mod,Qbr hclt]
     rw[he,Qbe,Qaa (by rw[hk];exact hclt)] at hc
     injection hc with hc;subst hc;refine⟨(enc (gL t sd j))[c]'(by rw[hk];exact hclt),?_,.v _ (h1 _ _ (List.getElem_mem _))⟩
     rw[hpc _ (Qam hq (Qai hqn hcs)),if_pos hq,e1,e2,fd2 _ _ (by omega),hgd sd j (by omega),getElem!_pos _ _ (by rw[hk];exact hclt)]
    ·obtain⟨x',h9,h10⟩:=hB.cell j r c x h8 hc;rw[hoff,Qar] at h9;have hq:¬ j*t.es+c<n*t.es:=by
      have:=Qaj t.es h7
      omega
     have hlt':j*t.es+c<cc.size:=(Qak.1 h9).1;exact⟨x',by rw[hpc _ hlt',if_neg hq];exact h9,h10.adv (λ_ _ h=>h) hcells⟩
   ·rw[hsize];simp[putCells]
 ·match id,hb,id',hb' with
  |0,hb,0,hb'=>exact absurd rfl h10
end
end Go.Ev.L
namespace Go.Ev
open Go
def FW(F:Fence):Prop:=∃r,F={ Fence.wide with round:=r }
theorem FW.wide:FW Fence.wide:=⟨none,rfl⟩
theorem FW.inRound(l:Nat):FW (Fence.wide.inRound l):=⟨some l,rfl⟩
section
variable{F:Fence}{n:Nat}{P:Program}
theorem FW.fn(h:FW F)(f:FuncId):F.fn f:=by obtain⟨r,rfl⟩:=h;trivial
theorem FW.dep(h:FW F):F.depth=none:=by obtain⟨r,rfl⟩:=h;rfl
theorem FW.depS(h:FW F){p:Prop}:F.depth.isSome=true->p:=λhd=>by rw[h.dep] at hd;cases hd
theorem FW.fenced(h:FW F):Machine.fenced P F=Machine.fenced P Fence.wide:=by obtain⟨r,rfl⟩:=h;rfl
theorem FW.room(h:FW F)(k:Nat):F.room k:=λd hd=>by rw[h.dep] at hd;cases hd
theorem FW.calls(h:FW F){f:FuncId}{args:Array Value}{w:World}{R:Ending->World->Prop}:CallsIn F n P f args w R↔Calls P f args w R:=by
 refine Iff.trans ?_ (callsIn_wide (n:=n));obtain⟨r,rfl⟩:=h;exact⟨λh=>h,λh=>h⟩
theorem FW.rows(h:FW F){row:String}{args:Array Value}{w:World}{R:Value->World->Prop}(hr:Rows P row args w R):RowsIn F n P row args w R:=λc cs _=>by
 obtain⟨v,w',h1,h2⟩:=hr c cs;refine⟨v,w',h1,?_⟩;rw[h.fenced];exact stepsIn_wide.2 h2
end
section
variable{P:Program}{o:Oper}{ac:Act}{w:World}{post:Value->World->Prop}
theorem s4.inAny(h:s4 P o { ac with defers:=[] } w post){F:Fence}(hF:FW F)(n:Nat)(next:Act->World->Prop)(Q:Exit->Act->World->Prop)(hp:∀x' w',post x' w'->next (ac.put o.dst x') w'):o.wpIn F n P ac w next Q:=by
 have hput:∀v,({ ac with defers:=[] }:Act).put o.dst v={ ac.put o.dst v with defers:=[] }:=λv=>by cases o.dst<;>rfl
 have hinj:∀v x',({ ac with defers:=[] }:Act).put o.dst v=({ ac with defers:=[] }:Act).put o.dst x'->ac.put o.dst v=ac.put o.dst x':=λv x' e=>by
  rw[hput,hput] at e;have e1:=congrArg Act.tmps e
  revert e1
  cases o.dst with
  |none=>intro _;rfl
  |some d=>intro e1;show ({ ac with tmps:=_ }:Act)={ ac with tmps:=_ };congr 1
 have hnd:∀c,o.op≠.defer c:=λc hc=>by
  have h0:=h (λa' _=>a'.defers=[]) (λ_ _ _=>False) (λx' w' _=>by rw[hput])
  unfold Oper.wp at h0;have e:execOp ({ ac with defers:=[] }:Act).eval o=(do return .defer (<- resolve ({ ac with defers:=[] }:Act).eval c o.type)):=by unfold execOp;simp[hc]
  rw[e] at h0;simp only[Sem.run_bind] at h0;cases hr:(resolve ({ ac with defers:=[] }:Act).eval c o.type).run P w with
  |ok d w1 =>
   rw[hr] at h0;have h0:({ ({ ac with defers:=[] }:Act) with defers:=d::[] }.put o.dst undef).defers=[]:=h0
   revert h0
   cases o.dst<;>intro h0<;>cases h0
  |halt x w1 =>
   rw[hr] at h0;cases x<;>exact h0
 have h0:=h (λa' w'=>∃x',post x' w'/\a'=({ ac with defers:=[] }:Act).put o.dst x') (λ_ _ _=>False) (λx' w' hx=>⟨x',hx,rfl⟩)
 unfold Oper.wp at h0;refine⟨λf _=>hF.fn f,?_⟩
 rw[Oper.semAt_eq _ _ _ hnd];have hev:(execOp ac.eval o)=execOp ({ ac with defers:=[] }:Act).eval o:=rfl
 rw[hev]
 revert h0
 generalize (execOp ({ ac with defers:=[] }:Act).eval o).run P w=r
 intro h0;have hnext:∀v w',(∃x',post x' w'/\({ ac with defers:=[] }:Act).put o.dst v=({ ac with defers:=[] }:Act).put o.dst x')->next (ac.put o.dst v) w':=λv w' ⟨x',h1,h2⟩=>by
  rw[hinj v x' h2];exact hp x' w' h1
 cases r with
 |ok q w' =>
  cases q with
  |value v=>exact hnext v w' h0
  |skip=>exact hnext undef w' h0
  |defer d =>
   obtain⟨x',_,h2⟩:=h0;rw[hput] at h2
   have:=congrArg Act.defers h2
   revert this
   cases o.dst<;>intro h<;>cases h
  |enter f args =>
   refine⟨λhd=>hF.depS hd,hF.calls.2 ?_⟩
   have h0:Calls P f args w' _:=h0;refine h0.mono λe w'' he=>?_
   cases e with
   |returned v=>exact hnext v w'' he
   |panicked ch=>exact he.elim
   |outgrown=>obtain⟨a0,w0,hq⟩:=he;exact hq.elim
  |row row args =>
   refine⟨λhd=>hF.depS hd,hF.rows ?_⟩
   have h0:Rows P row args w' _:=h0;exact λc cs=>by
    obtain⟨v,w'',h1,h2⟩:=h0 c cs;exact⟨v,w'',hnext v w'' h1,h2⟩
  |round l f tmps asq body=>exact h0.elim
  |_=>exact h0.elim
 |halt x w' =>
  cases x with
  |panic v=>exact h0.elim
  |_=>exact h0.elim
end
section
variable{W W' WB:Nat->Prop}{ρ ρ0 ρ':Rho}{H H0 H1:List c7}{F F0 F':Fz}{w w0 w':World}{P:Program}
theorem Rb9(H:List c7):A2 H=H.map λb=>Bool.rec (motive:=λ_=>c7) b { b with dead:=true } (I4 b):=by unfold A2;rw[s8]
theorem lf6:(A2 H).length=H.length:=by rw[Rb9];simp
theorem ga5{id:Nat}{b:c7}(hb:H[id]?=some b)(hs:I4 b=false):(A2 H)[id]?=some b:=by
 rw[Rb9,Qbe,hb];simp[hs]
theorem Jd6{id:Nat}{b:c7}(hb:H[id]?=some b)(hs:I4 b=true):(A2 H)[id]?=some { b with dead:=true }:=by
 rw[Rb9,Qbe,hb];simp[hs]
theorem la6{id:Nat}{b:c7}(hb:(A2 H)[id]?=some b)(hd:b.dead=false):H[id]?=some b/\I4 b=false:=by
 rw[Rb9,Qbe] at hb;cases h:H[id]? with
 |none=>rw[h] at hb;cases hb
 |some c =>
  rw[h] at hb;cases hs:I4 c with
  |false=>simp[hs] at hb;subst hb;exact⟨rfl,hs⟩
  |true=>simp[hs] at hb;subst hb;cases hd
def fd3(H:List c7)(id:Nat):Prop:=∃b,H[id]?=some b/\I4 b=true
def ρsp(H:List c7)(ρ ρ':Rho):Rho:=λid=>@ite _ (fd3 H id) (Classical.propDecidable _) (ρ id) (ρ' id)
theorem ρsp_on{id:Nat}(h:fd3 H id):ρsp H ρ ρ' id=ρ id:=by unfold ρsp;rw[if_pos h]
theorem ρsp_off{id:Nat}(h:¬ fd3 H id):ρsp H ρ ρ' id=ρ' id:=by unfold ρsp;rw[if_neg h]
theorem Ce5:∀(H1:List c7),Ac3 [] H1=true->∀(id:Nat) c,H1[id]?=some c->I4 c=false
 |[],_,id,c,hc=>by simp at hc
 |d::r,ho,id,c,hc=>by
  have ho:Bool.and (Bool.rec (motive:=λ_=>Bool) true false (I4 d)) (Ac3 [] r)=true:=ho
  simp only[Qas] at ho;cases id with
  |zero =>
   simp at hc;subst hc
   have:=ho.1
   cases h:I4 d with
   |false=>rfl
   |true=>rw[h] at this;cases this
  |succ id=>exact Ce5 r ho.2 id c (by simpa using hc)
theorem Jd7:∀(H H1:List c7),H.length<=H1.length->Ac3 H H1=true->(F8 H H1).length=H1.length /\
  (∀(id:Nat) b,H[id]?=some b->I4 b=true->(F8 H H1)[id]?=some b) /\
  (∀(id:Nat),¬ fd3 H id->(F8 H H1)[id]?=H1[id]?/\∀c,H1[id]?=some c->I4 c=false)
 |[],H1,_,ho=>by
  refine⟨rfl,λid b hb=>by simp at hb,λid _=>⟨rfl,λc hc=>?_⟩⟩
  exact Ce5 H1 ho id c hc
 |b::H,[],hl,_=>by simp at hl
 |b::H,c::H1,hl,ho=>by
  have ho:Bool.and (Bool.rec (motive:=λ_=>Bool) (Bool.rec true false (I4 c)) true (I4 b)) (Ac3 H H1)=true:=ho
  simp only[Qas] at ho;obtain⟨h1,h2,h3⟩:=Jd7 H H1 (by simpa using hl) ho.2
  have e:F8 (b::H) (c::H1)=Bool.rec (motive:=λ_=>c7) c b (I4 b)::F8 H H1:=rfl
  rw[e];refine⟨by simp[h1],λid d hd hs=>?_,λid hn=>?_⟩
  ·cases id with
   |zero=>simp at hd;subst hd;simp[hs]
   |succ id=>simpa using h2 id d (by simpa using hd) hs
  ·cases id with
   |zero =>
    have hb:I4 b=false:=by
     cases h:I4 b with
     |false=>rfl
     |true=>exact absurd ⟨b,rfl,h⟩ hn
    rw[hb] at ho ⊢;refine⟨rfl,λd hd=>?_⟩
    simp at hd;subst hd
    have:=ho.1
    cases h:I4 c with
    |false=>rfl
    |true=>rw[h] at this;cases this
   |succ id =>
    obtain⟨k1,k2⟩:=h3 id λ⟨d,hd,hs⟩=>hn ⟨d,by simpa using hd,hs⟩
    simp_all
def ee7(b:c7):Prop:=b.es=0/\b.et=0
def Ce6(t:Nat)(b:c7):Prop:=b.es=0/\b.et=t+1
inductive XC (ρ:Rho) (H:List c7) (F:Fz) (w:World):b7->Value->Prop
 |n {x:b7} {x':Value} (h:ea9 ρ (A2 H) F w x x'):XC ρ H F w x x'
 |box (id c g:Nat) (b:c7) (hb:H[id]?=some b) (hd:b.dead=false) (he:ee7 b):XC ρ H F w (.ptr id 0 c g) (.pointer (some ⟨(ρ id).blk,c,none⟩))
 |map (id c g:Nat) (b:c7) (t:Nat) (hb:H[id]?=some b) (hd:b.dead=false) (he:Ce6 t b):XC ρ H F w (.ptr id 0 c g) (.map (some (ρ id).blk))
inductive XW (ρ:Rho) (H:List c7) (F:Fz) (w:World):b7->Value->Prop
 |w {x:b7} {x':Value} (h:K8 ρ (A2 H) F w x x'):XW ρ H F w x x'
 |c {x:b7} {x':Value} (h:XC ρ H F w x x'):XW ρ H F w x x'
theorem pb7{b:c7}(h:ee7 b):I4 b=true:=by unfold I4;rw[h.1];rfl
theorem yb1{b:c7}{t:Nat}(h:Ce6 t b):I4 b=true:=by unfold I4;rw[h.1];rfl
theorem XC.one{x:b7}{x':Value}(h:XC ρ H F w x x')(hb:Oe1 x=true):x'.oneCell'=true:=by
 cases h with
 |n h =>
  cases h with
  |mem h=>exact h.one
  |v=>exact (by rw[<- Oc0];exact hb)
  |ptr=>rfl
  |sl=>rfl
  |tptr=>cases hb
  |unk=>cases hb
 |box=>rfl
 |map=>rfl
structure gg1(ρ:Rho)(H:List c7)(F:Fz)(w:World)(b:c7)(blk:Nat):Prop where
 et:ee7 b
 has:∃row vs t,b.elems=[row]/\w.heap[blk]?=some (.cells vs t (0,0))/\row.length<=vs.size/\∀(c:Nat) x x',row[c]?=some x->vs[c]?=some x'->x'.oneCell'=true/\XC ρ H F w x x'
def Jd8(fl:List (Nat×CK))(kl:Nat)(r:List b7)(e:MapEntry):Prop:=∃(ks:Array Value) (v:Bool),r=ks.toList.map .v++[.v (.bool v)]/\ks.size=kl/\e.key=.agg ks/\e.val=.bool v/\∀p∈fl,ab0 ks p
structure gg2(P:Program)(w:World)(b:c7)(blk:Nat):Prop where
 has:∃t K El fl es clk,Ce6 t b/\P.underlying t=some (.map K El)/\ka2 P 9 K=some fl/\w.heap[blk]?=some (.map es clk)/\b.elems.length=es.size /\
  ∀(i:Nat) r e,b.elems[i]?=some r->es[i]?=some e->Jd8 fl (szT P K) r e
structure vf7(P:Program)(WB W':Nat->Prop)(ρ:Rho)(H:List c7)(F:Fz)(w:World):Prop where
 has:∀(id:Nat) b,H[id]?=some b->I4 b=true->b.dead=false->WB (ρ id).blk/\¬ W' (ρ id).blk/\(∀o,¬ F (ρ id).blk o)/\(ρ id).blk<w.heap.size/\(gg1 ρ H F w b (ρ id).blk\/gg2 P w b (ρ id).blk)
 apart:∀(id id':Nat) b b',H[id]?=some b->H[id']?=some b'->I4 b=true->I4 b'=true->b.dead=false->b'.dead=false->id≠id'->(ρ id).blk≠(ρ id').blk
theorem Adv.mono(h:Adv W ρ H F w ρ' H1 F' w')(hW:∀k,W k->WB k):Adv WB ρ H F w ρ' H1 F' w' :=
 ⟨⟨h.ext.os,h.ext.tape,h.ext.output,h.ext.size,λk hk hn=>h.ext.block k hk λhw=>hn (hW k hw),h.ext.cells,h.ext.drawn⟩,h.heap,h.more,λb o hf=>(h.new b o hf).imp id (hW b),λid b' hb' hn=>hW _ (h.fresh id b' hb' hn)⟩
section
variable(hA:Adv W' ρ (A2 H) F w ρ' H1 F' w')(ho:Ac3 H H1=true)
include hA ho
theorem vf8:H.length<=H1.length:=by
 rcases Qav H.length with h|h
 ·omega
 ·have hlt:H.length-1<(A2 H).length:=by rw[lf6];omega
  obtain⟨b',hb',_⟩:=hA.heap (H.length-1) _ (Qaa hlt)
  grind
theorem Pc4:(F8 H H1).length=H1.length /\
  (∀(id:Nat) b,H[id]?=some b->I4 b=true->(F8 H H1)[id]?=some b) /\
  (∀(id:Nat),¬ fd3 H id->(F8 H H1)[id]?=H1[id]?/\∀c,H1[id]?=some c->I4 c=false):=Jd7 H H1 (vf8 hA ho) ho
theorem lf7{id:Nat}{b:c7}(hb:(A2 (F8 H H1))[id]?=some b)(hd:b.dead=false):H1[id]?=some b/\¬ fd3 H id:=by
 obtain⟨h1,h2,h3⟩:=Pc4 hA ho;obtain⟨k1,k2⟩:=la6 hb hd;by_cases hs:fd3 H id
 ·obtain⟨c,hc,hcs⟩:=hs
  simp_all
 simp_all
theorem lf8{id:Nat}{b:c7}(hb:H1[id]?=some b)(hd:b.dead=false):(A2 (F8 H H1))[id]?=some b/\ρsp H ρ ρ' id=ρ' id:=by
 obtain⟨h1,h2,h3⟩:=Pc4 hA ho;by_cases hs:fd3 H id
 ·obtain⟨c,hc,hcs⟩:=hs;obtain⟨b',hb',hd',_⟩:=hA.heap id _ (Jd6 hc hcs)
  simp_all
 ·obtain⟨k1,k2⟩:=h3 id hs;exact⟨ga5 (k1.trans hb) (k2 b hb),ρsp_off hs⟩
theorem Jd9:ee1 ρ' H1 (ρsp H ρ ρ') (A2 (F8 H H1)):=λid b hb hd=>by
 obtain⟨h1,h2⟩:=lf8 hA ho hb hd
 simp_all
theorem Re4{x:b7}{x':Value}(h:K8 ρ' H1 F' w' x x'):K8 (ρsp H ρ ρ') (A2 (F8 H H1)) F' w' x x':=h.carry (Jd9 hA ho) (λ_ _ h=>h) (λ_ _ _=>rfl)
theorem lf9(hH:J0 W' ρ' H1 F' w'):J0 W' (ρsp H ρ ρ') (A2 (F8 H H1)) F' w' :=
 hH.pull (λi=>i) (λi b hb hd=>by
  obtain⟨h1,h2⟩:=lf7 hA ho hb hd;exact⟨h1,ρsp_off h2⟩) (λ_ _ _ _ _ _ _ _ e=>e)
theorem af6{x:b7}{x':Value}(h:XC ρ H F w x x'):XC (ρsp H ρ ρ') (F8 H H1) F' w' x x':=by
 obtain⟨h1,h2,h3⟩:=Pc4 hA ho;cases h with
 |n h=>exact .n ((h.adv hA).carry (Jd9 hA ho) (λ_ _ h=>h) (λ_ _ _=>rfl))
 |box id c g b hb hd he =>
  have e:ρsp H ρ ρ' id=ρ id:=ρsp_on ⟨b,hb,pb7 he⟩;rw[<- e];exact .box id c g b (h2 id b hb (pb7 he)) hd he
 |map id c g b t hb hd he =>
  have e:ρsp H ρ ρ' id=ρ id:=ρsp_on ⟨b,hb,yb1 he⟩;rw[<- e];exact .map id c g b t (h2 id b hb (yb1 he)) hd he
theorem Nf0{x:b7}{x':Value}(h:XW ρ H F w x x'):XW (ρsp H ρ ρ') (F8 H H1) F' w' x x':=by
 cases h with
 |w h=>exact .w (Re4 hA ho (h.adv hA))
 |c h=>exact .c (af6 hA ho h)
theorem mf0(hS:vf7 P WB W' ρ H F w):vf7 P WB W' (ρsp H ρ ρ') (F8 H H1) F' w':=by
 obtain⟨h1,h2,h3⟩:=Pc4 hA ho;have hold:∀(id:Nat) b,(F8 H H1)[id]?=some b->I4 b=true->H[id]?=some b/\fd3 H id:=λid b hb hs=>by
  by_cases hsp:fd3 H id
  ·obtain⟨c,hc,hcs⟩:=hsp;rw[h2 id c hc hcs] at hb;obtain rfl:c=b:=Qag hb;exact⟨hc,c,hc,hcs⟩
  ·obtain⟨k1,k2⟩:=h3 id hsp;rw[k1] at hb;rw[k2 b hb] at hs;cases hs
 refine⟨λid b hb hs hd=>?_,λid id' b b' hb hb' hs hs' hd hd' hne=>?_⟩
 ·obtain⟨hb0,hsp⟩:=hold id b hb hs;obtain⟨k1,k2,k3,k4,k5⟩:=hS.has id b hb0 hs hd;have hblk:w'.heap[(ρ id).blk]?=w.heap[(ρ id).blk]?:=hA.ext.block _ k4 k2;rw[ρsp_on hsp];refine⟨k1,k2,λo hf=>?_,Qam k4 hA.ext.size,?_⟩
  ·rcases hA.new _ _ hf with h|h
   ·exact k3 o h
   ·exact k2 h
  ·rcases k5 with⟨e,row,vs,t,m1,m2,m3,m4⟩|⟨t,K,El,fl,es,clk,m1,m2,m3,m4,m5,m6⟩
   ·exact .inl ⟨e,row,vs,t,m1,hblk.trans m2,m3,λc x x' hx hx'=>⟨(m4 c x x' hx hx').1,af6 hA ho (m4 c x x' hx hx').2⟩⟩
   ·exact .inr ⟨t,K,El,fl,es,clk,m1,m2,m3,hblk.trans m4,m5,m6⟩
 ·obtain⟨hb0,hsp⟩:=hold id b hb hs;obtain⟨hb0',hsp'⟩:=hold id' b' hb' hs';rw[ρsp_on hsp,ρsp_on hsp'];exact hS.apart id id' b b' hb0 hb0' hs hs' hd hd' hne
theorem vf9{id:Nat}{b:c7}(hb:(F8 H H1)[id]?=some b)(hs:I4 b=true):H[id]?=some b/\fd3 H id:=by
 obtain⟨h1,h2,h3⟩:=Pc4 hA ho;by_cases hsp:fd3 H id
 ·obtain⟨c,hc,hcs⟩:=hsp
  grind
 grind
theorem wf0{K:Nat->Prop}(h:∀(id:Nat) b,H[id]?=some b->I4 b=true->b.dead=false->¬ K (ρ id).blk):∀(id:Nat) b,(F8 H H1)[id]?=some b->I4 b=true->b.dead=false->¬ K (ρsp H ρ ρ' id).blk:=λid b hb hs hd=>by
 obtain⟨k1,k2⟩:=vf9 hA ho hb hs;rw[ρsp_on k2];exact h id b k1 hs hd
theorem wf1(hW:∀k,W' k->WB k):Adv WB ρ H F w (ρsp H ρ ρ') (F8 H H1) F' w':=by
 obtain⟨h1,h2,h3⟩:=Pc4 hA ho;have hm:=hA.mono hW;refine⟨hm.ext,λid b hb=>?_,hm.more,hm.new,λid b' hb' hn=>?_⟩
 ·cases hs:I4 b with
  |true=>exact⟨b,h2 id b hb hs,rfl,Qaf _,λ_=>⟨ρsp_on ⟨b,hb,hs⟩,rfl,Qaf _⟩⟩
  |false =>
   have hnsp:¬ fd3 H id:=λ⟨c,hc,hcs⟩=>by
    rw[hb] at hc;cases hc;rw[hs] at hcs;cases hcs
   obtain⟨b',k1,k2,k3,k4⟩:=hm.heap id b (ga5 hb hs);exact⟨b',(h3 id hnsp).1.trans k1,k2,k3,λhg=>by rw[ρsp_off hnsp];exact k4 hg⟩
 ·by_cases hsp:fd3 H id
  ·obtain⟨c,hc,hcs⟩:=hsp
   simp_all
  ·rw[ρsp_off hsp];rw[(h3 id hsp).1] at hb';refine hm.fresh id b' hb' λb hb=>?_
   cases h:H[id]? with
   |none =>
    rw[Rb9,Qbe,h] at hb;cases hb
   |some c =>
    cases hs:I4 c with
    |true=>exact absurd ⟨c,h,hs⟩ hsp
    |false =>
     rw[ga5 h hs] at hb;cases hb;exact hn b h
end
end
def Uc4(WB W':Nat->Prop)(ds:List Deferred)(w:World):Prop:=(∀d∈ds,∃D,d={ target:=.collected D,args:=#[] }/\w.heap[D]?=some (.deferred (some []))/\¬ W' D/\D<w.heap.size/\WB D)/\ds.Nodup
def VR(ρ:Rho)(H:List c7)(F:Fz)(w:World)(a:List b7)(vs:List Value):Prop:=a.length=vs.length/\∀(i:Nat) x x',a[i]?=some x->vs[i]?=some x'->XW ρ H F w x x'
structure C2(P:Program)(WB:Nat->Prop)(K:Nat->Prop)(J:List Value->World->Prop)(ρ0:Rho)(H0:List c7)(F0:Fz)(w0:World)(H:List c7)(ds:List Deferred)(w:World)(ρ:Rho)(F:Fz)(W':Nat->Prop)(up:List Value):Prop where
 sub:∀k,W' k->WB k
 adv:Adv WB ρ0 H0 F0 w0 ρ H F w
 hrel:J0 W' ρ (A2 H) F w
 srel:vf7 P WB W' ρ H F w
 kept:∀k,K k->¬ W' k/\k<w.heap.size
 far:∀(id:Nat) b,H[id]?=some b->I4 b=true->b.dead=false->¬ K (ρ id).blk
 jot:J up w
 marks:Uc4 WB W' ds w
structure I2(P:Program)(WB:Nat->Prop)(K:Nat->Prop)(J:List Value->World->Prop)(n:Nat)(ρ0:Rho)(H0:List c7)(F0:Fz)(w0:World)(s:St)(ac:Act)(w:World)(ρ:Rho)(F:Fz)(W':Nat->Prop)(up:List Value):Prop where
 core:C2 P WB K J ρ0 H0 F0 w0 s.H ac.defers w ρ F W' up
 vals:VR ρ s.H F w s.a (ac.tmps.toList++up)
 size:ac.tmps.size=n
def Kd0(P:Program)(WB:Nat->Prop)(K:Nat->Prop)(J:List Value->World->Prop)(n:Nat)(ρ0:Rho)(H0:List c7)(F0:Fz)(w0:World)(s:St)(ac:Act)(w:World):Prop :=
 ∃ρ F W' up,I2 P WB K J n ρ0 H0 F0 w0 s ac w ρ F W' up
def Tr(ρ:Rho)(H:List c7)(F:Fz)(w:World)(ρ':Rho)(H':List c7)(F':Fz)(w':World):Prop:=∀x x',XW ρ H F w x x'->XW ρ' H' F' w' x x'
def Ec6(K:Nat->Prop)(J:List Value->World->Prop):Prop:=∀up w w',(∀k,K k->w'.heap[k]?=w.heap[k]?)->J up w->J up w'
section
variable{P:Program}{WB K:Nat->Prop}{J:List Value->World->Prop}{ρ ρ0 ρ':Rho}{H H0 H1:List c7}{F F0 F':Fz}{w w0 w':World}{W':Nat->Prop}{up:List Value}{s:St}{ac ac':Act}{E:Env}
theorem Uc4.step{ds:List Deferred}(h:Uc4 WB W' ds w)(he:Ext W' F w w'):Uc4 WB W' ds w':=⟨λd hd=>by
 obtain⟨D,h1,h2,h3,h4,h5⟩:=h.1 d hd;exact⟨D,h1,(he.block D h4 h3).trans h2,h3,Qam h4 he.size,h5⟩,h.2⟩
theorem C2.step{ds:List Deferred}(h:C2 P WB K J ρ0 H0 F0 w0 H ds w ρ F W' up)(hJ:Ec6 K J)(hA:Adv W' ρ (A2 H) F w ρ' H1 F' w')(ho:Ac3 H H1=true)(hH1:J0 W' ρ' H1 F' w') :
  C2 P WB K J ρ0 H0 F0 w0 (F8 H H1) ds w' (ρsp H ρ ρ') F' W' up/\Tr ρ H F w (ρsp H ρ ρ') (F8 H H1) F' w' :=
 ⟨⟨h.sub,h.adv.trans (wf1 hA ho h.sub),lf9 hA ho hH1,mf0 hA ho h.srel,λk hk=>⟨(h.kept k hk).1,Qam (h.kept k hk).2 hA.ext.size⟩,
  wf0 hA ho h.far,hJ up w w' (λk hk=>hA.ext.block k (h.kept k hk).2 (h.kept k hk).1) h.jot,h.marks.step hA.ext⟩,λ_ _ hx=>Nf0 hA ho hx⟩
structure Xb4(DS:Nat->Prop)(tm:Array Value)(ds:List Deferred)(W:Nat->Prop)(ρ0:Rho)(H0:List c7)(F0:Fz)(w0:World)(s:St)(ac:Act)(w:World):Prop where
 defers:ac.defers=ds
 size:ac.tmps.size=tm.size
 same:∀t,¬ DS t->ac.tmps[t]?=tm[t]?
 rel:∃ρ F,Adv W ρ0 H0 F0 w0 ρ s.H F w/\J0 W ρ s.H F w/\Ia4 ρ s.H F w s.a ac.tmps
theorem ia7{ac:Act}(dst:Option Nat)(v:Value):(ac.put dst v).tmps.size=ac.tmps.size:=by cases dst<;>simp[Act.put]
theorem jc4{ac:Act}{dst:Option Nat}{v:Value}{t:Nat}(h:dst≠some t):(ac.put dst v).tmps[t]?=ac.tmps[t]?:=by
 cases dst with
 |none=>rfl
 |some d=>exact Array.getElem?_setIfInBounds_ne λe=>h (by rw[e])
section
variable{W:Nat->Prop}{DS:Nat->Prop}{tm:Array Value}{ds:List Deferred}{Fe:Fence}{n:Nat}
variable(hF:FW Fe)(hG0:GOk E F0 w0)(hcalls:∀f,l8 E.P E.G f (E.call f))
include hF hG0 hcalls
theorem piM{ops:Array Oper}{o:Oper}{g:Option (Nat×Bool)}{s s':St}{ac:Act}{i:Nat}{rest:List Nat}{Q:Exit->Act->World->Prop}(hi:ops[i]?=some o)(hg:la5 ops o=some g)(hDS:∀d,o.dst=some d->DS d)
  (hI:Xb4 DS tm ds W ρ0 H0 F0 w0 s ac w) (he:(ob8 E s ⟨o.dst,g,[],ic9 E.P ops o⟩).run=some s') (hK:∀ac' w',Xb4 DS tm ds W ρ0 H0 F0 w0 s' ac' w'->wpOpsIn Fe n E.P ops Q rest ac' w'):wpOpsIn Fe n E.P ops Q (i::rest) ac w:=by
 obtain⟨hd,hsz,hsm,ρ,F,hAdv,hH,hA⟩:=hI;simp only[wpOpsIn,hi];have hsame:∀v t,¬ DS t->(ac.put o.dst v).tmps[t]?=tm[t]?:=λv t ht=>(jc4 λe=>ht (hDS t e)).trans (hsm t ht)
 rcases vd4 hg hA he with⟨hw,he⟩|⟨hw,he⟩
 ·rw[if_pos hw];unfold Ad0 at he;obtain⟨⟨x,H'⟩,h1,h2⟩:=DT.run_bind_some he;have h1':(evalOp E s.a s.H (ic9 E.P ops o)).run=some (x,H'):=h1;have hop:=od0 (ac:={ ac with defers:=[] }) hA hH (hG0.adv hAdv) hcalls h1'
  refine hop.inAny hF n _ _ λx' w' hp=>?_
  obtain⟨ρ',F',a1,a2,a3⟩:=hp;have h2':some (⟨putA s.a o.dst x,H'⟩:St)=some s':=h2;injection h2' with h2';subst h2';exact hK _ _ ⟨(E2 _ _).trans hd,(ia7 _ _).trans hsz,hsame x',ρ',F',hAdv.trans a1,a2,(hA.adv a1).putA o.dst a3⟩
 ·rw[if_neg (by simp[hw])]
  subst he;exact⟨λf _=>hF.fn f,hK _ _ ⟨(E2 _ _).trans hd,(ia7 _ _).trans hsz,hsame _,ρ,F,hAdv,hH,hA.putA o.dst (.ofv _)⟩⟩
theorem rg6{ops:Array Oper}{Q:Exit->Act->World->Prop}{rest:List Nat}:∀(r:List Oper) (k:Nat) (l:List PI) (s s':St) (ac:Act) (w:World),(∃t,ops.toList.drop k=r++t)->(∀o∈r,∀d,o.dst=some d->DS d)->Xc3 E.P ops r=some l->Xb4 DS tm ds W ρ0 H0 F0 w0 s ac w->(U4 E l s).run=some s' ->
  (∀ac' w',Xb4 DS tm ds W ρ0 H0 F0 w0 s' ac' w'->wpOpsIn Fe n E.P ops Q rest ac' w')->wpOpsIn Fe n E.P ops Q (List.range' k r.length++rest) ac w
 |[],k,l,s,s',ac,w,hr,hDS,hl,hI,he,hQ=>by
  simp only[Xc3] at hl;injection hl with hl;subst hl;have he':some s=some s':=he
  simp_all
 |o::r,k,l,s,s',ac,w,hr,hDS,hl,hI,he,hQ=>by
  obtain⟨t,hr⟩:=hr;obtain⟨g,l',h1,h2,rfl⟩:=de7 hl;have he':((ob8 E s ⟨o.dst,g,[],ic9 E.P ops o⟩).bind (U4 E l')).run=some s':=he;obtain⟨s1,h3,h4⟩:=DT.run_bind_some he';have hi:ops[k]?=some o:=by
   have:(ops.toList.drop k)[0]?=some o:=by rw[hr];rfl
   simpa using this
  rw[show (o::r).length=r.length+1 from rfl,List.range'_succ,List.cons_append]
  refine piM hF hG0 hcalls hi h1 (λd hd=>hDS o (.head _) d hd) hI h3 λac' w' hI'=>?_
  refine rg6 r (k+1) l' s1 s' ac' w' ⟨t,?_⟩ (λo ho=>hDS o (.tail _ ho)) h2 hI' h4 hQ
  rw[<- List.drop_drop,hr];rfl
end
theorem Ec7 (ds : List Nat) : ∀ (a l : List b7) (k i : Nat), (ta4 ds a l k)[i]? = match a[i]? with
  |some x=>some (Bool.rec (motive:=λ_=>b7) x ((l[i]?).getD .unk) (Hb1 (k+i) ds))
  |none=>none
 |[],l,k,i=>by simp[ta4]
 |x::a,l,k,i=>by
  have e:ta4 ds (x::a) l k=Bool.rec (motive:=λ_=>b7) x (hdA l) (Hb1 k ds)::ta4 ds a (tlA l) (k+1):=rfl
  rw[e];cases i with
  |zero=>cases l<;>rfl
  |succ i =>
   simp only[List.getElem?_cons_succ];rw[Ec7 ds a (tlA l) (k+1) i,show k+1+i=k+(i+1) by omega]
   cases l with
   |nil=>simp[tlA]
   |cons y l=>simp[tlA]
theorem Ec8(ds:List Nat):∀(a l:List b7) (k:Nat),(ta4 ds a l k).length=a.length
 |[],_,_=>rfl
 |x::a,l,k=>congrArg Nat.succ (Ec8 ds a (tlA l) (k+1))
theorem Kd1(k:Nat)(l:List Nat):Hb1 k l=true↔k∈l:=by
 induction l with
 |nil=>simp[Hb1]
 |cons x l ih =>
  have e:Hb1 k (x::l)=Bool.rec (Hb1 k l) true (Nat.beq x k):=rfl;rw[e,Qbh];cases h:Nat.beq x k with
  |true=>have:=Qad h;simp[this]
  |false =>
   have:=Qbl h
   grind
theorem ee8{x:b7}{x':Value}(h:XW ρ H F w x x'):K8 ρ (A2 H) F w (na6 H x) x':=by
 cases h with
 |w h =>
  unfold na6;split
  ·rename_i id i c g;split
   ·rename_i b hb;cases I4 b with
    |true=>exact .unk _
    |false=>exact h
   ·exact .unk _
  ·exact h
 |c h =>
  cases h with
  |n h =>
   unfold na6;split
   ·split
    ·rename_i b hb;cases I4 b with
     |true=>exact .unk _
     |false=>exact .val (.cell h)
    ·exact .unk _
   ·exact .val (.cell h)
  |box id c g b hb hd he =>
   unfold na6;simp only[F7,hb,pb7 he];exact .unk _
  |map id c g b t hb hd he =>
   unfold na6;simp only[F7,hb,yb1 he];exact .unk _
theorem I2.arel{n:Nat}(h:I2 P WB K J n ρ0 H0 F0 w0 s ac w ρ F W' up):Ia4 ρ (A2 s.H) F w (s5 (na6 s.H) (J6 s.a n)) ac.tmps:=by
 have hl:=h.vals.1;have hn:=h.size;rw[Qdc,Array.length_toList] at hl;rw[s8,J7];refine⟨by simp;omega,λi x x' hx hx'=>?_⟩
 rw[Qbe] at hx;have hi:i<n:=hn ▸ (Qak.1 hx').1;rw[Qap,if_pos hi] at hx;cases hy:s.a[i]? with
 |none=>rw[hy] at hx;cases hx
 |some y =>
  rw[hy] at hx;injection hx with hx;subst hx;refine ee8 (h.vals.2 i y x' hy ?_)
  grind
theorem od6{n:Nat}(hJ:Ec6 K J){dd:List Nat}{s s2:St}{ac':Act}(hI:I2 P WB K J n ρ0 H0 F0 w0 s ac w ρ F W' up)(ho:Ac3 s.H s2.H=true)
  (hM:Xb4 (·∈dd) ac.tmps ac.defers W' ρ (A2 s.H) F w s2 ac' w'):Kd0 P WB K J n ρ0 H0 F0 w0 ⟨ta4 dd s.a s2.a 0,F8 s.H s2.H⟩ ac' w'/\ac'.defers=ac.defers/\(∀t,¬ t∈dd->ac'.tmps[t]?=ac.tmps[t]?):=by
 obtain⟨hd,hsz,hsm,ρ',F',hA,hH,hAr⟩:=hM;obtain⟨c1,c2⟩:=hI.core.step hJ hA ho hH;refine⟨⟨_,F',W',up,hd ▸ c1,⟨by rw[Ec8];have:=hI.vals.1;rw[Qdc,Array.length_toList] at this ⊢;omega,λi y y' hy hy'=>?_⟩,hsz.trans hI.size⟩,hd,hsm⟩
 have hn:=hI.size
 simp only at hy
 rw[Ec7] at hy;cases hz:s.a[i]? with
 |none=>rw[hz] at hy;cases hy
 |some z =>
  rw[hz] at hy;injection hy with hy;rw[Qar] at hy
  rcases Qaq i n with hi|hi
  ·rw[Qbb (by rw[Array.length_toList];omega)] at hy'
   have hy':ac'.tmps[i]?=some y':=by simpa using hy'
   cases hm:Hb1 i dd with
   |true =>
    rw[hm] at hy;have hy:(s2.a[i]?).getD .unk=y:=hy;cases hq:s2.a[i]? with
    |none=>rw[hq] at hy;subst hy;exact .w (.unk _)
    |some q =>
     rw[hq] at hy;have hy:q=y:=hy;subst hy;exact .w (Re4 hA ho (hAr.2 i q y' hq hy'))
   |false =>
    rw[hm] at hy;have hy:z=y:=hy;subst hy;have hnm:¬ i∈dd:=λh=>by rw[(Kd1 i dd).2 h] at hm;cases hm
    rw[hsm i hnm] at hy';refine c2 _ _ (hI.vals.2 i z y' hz ?_)
    grind
  ·have hlen : s2.a.length = n := by
    have:=hAr.1
    omega
   have hnone:s2.a[i]?=none:=Qat (by omega)
   rw[Qba (by rw[Array.length_toList];omega)] at hy'
   have hy0:(ac.tmps.toList++up)[i]?=some y':=by
    grind
   rw[hnone] at hy;cases hm:Hb1 i dd with
   |true=>rw[hm] at hy;have hy:b7.unk=y:=hy;subst hy;exact .w (.unk _)
   |false=>rw[hm] at hy;have hy:z=y:=hy;subst hy;exact c2 _ _ (hI.vals.2 i z y' hz hy0)
theorem Nf1{Fe:Fence}{n m k kk:Nat}(hF:FW Fe)(hG0:GOk E F0 w0)(hcalls:∀f,l8 E.P E.G f (E.call f))(hJ:Ec6 K J){ops:Array Oper}{Q:Exit->Act->World->Prop}{rest:List Nat}{r:List Oper}{l:List PI}{dd:List Nat}{x:l4}{s s':St}
  (hr:∃t,ops.toList.drop k=r++t) (hDS:∀o∈r,∀d,o.dst=some d->d∈dd) (hl:Xc3 E.P ops r=some l) (hI:Kd0 E.P WB K J n ρ0 H0 F0 w0 s ac w) (he:(M2 E kk (.mask n dd (.ops l)) s).run=some (x,s'))
  (hQ:∀ac' w',Kd0 E.P WB K J n ρ0 H0 F0 w0 s' ac' w'->ac'.defers=ac.defers->(∀t,¬ t∈dd->ac'.tmps[t]?=ac.tmps[t]?)->wpOpsIn Fe m E.P ops Q rest ac' w'):x=.normal/\wpOpsIn Fe m E.P ops Q (List.range' k r.length++rest) ac w:=by
 obtain⟨ρ,F,W',up,hI⟩:=hI;have he':((M2 E kk (.ops l) ⟨s5 (na6 s.H) (J6 s.a n),A2 s.H⟩).bind λr=>.guard (Ac3 s.H r.2.H) (.ret (r.1,⟨ta4 dd s.a r.2.a 0,F8 s.H r.2.H⟩))).run=some (x,s'):=he
 obtain⟨⟨x1,s1⟩,h1,h2⟩:=DT.run_bind_some he';obtain⟨ho,h2⟩:=DT.run_guard_some h2;have h2:some (x1,(⟨ta4 dd s.a s1.a 0,F8 s.H s1.H⟩:St))=some (x,s'):=h2;injection h2 with h2;injection h2 with e1 e2;subst e1 e2
 have h1':((U4 E l ⟨s5 (na6 s.H) (J6 s.a n),A2 s.H⟩).bind λs=>.ret (l4.normal,s)).run=some (x1,s1):=h1
 obtain⟨s2,h3,h4⟩:=DT.run_bind_some h1';have h4:some (l4.normal,s2)=some (x1,s1):=h4;injection h4 with h4;injection h4 with e1 e2;subst e1 e2
 refine⟨rfl,?_⟩;have hG:GOk E F w:=hG0.adv hI.core.adv;refine rg6 (DS:=(·∈dd)) (tm:=ac.tmps) (ds:=ac.defers) (W:=W') (ρ0:=ρ) (H0:=A2 s.H) (F0:=F) (w0:=w) hF hG hcalls r k l _ s2 ac w hr hDS hl ⟨rfl,rfl,λ_ _=>rfl,ρ,F,.refl,hI.core.hrel,hI.arel⟩ h3 λac' w' hM=>?_
 obtain⟨k1,k2,k3⟩:=od6 hJ hI ho hM;exact hQ ac' w' k1 k2 k3
end
section
variable{P:Program}{WB K:Nat->Prop}{J:List Value->World->Prop}{ρ ρ0 ρ':Rho}{H H0 H':List c7}{F F0 F':Fz}{w w0 w':World}{W':Nat->Prop}{up up':List Value}{ds:List Deferred}
theorem pc6{a:Addr}(h:w'.heap[a.block]?=w.heap[a.block]?):w'.cell? a=w.cell? a:=by simp[World.cell?,h]
theorem od7{id:Nat}{b:c7}(hE:∀(id:Nat) b,H[id]?=some b->∃b',H'[id]?=some b'/\b'.et=b.et/\b'.dead=b.dead/\b'.g=b.g/\b'.es=b.es/\b.elems.length<=b'.elems.length/\(I4 b=false->b'=b))(hl:H'.length=H.length)(hb:(A2 H')[id]?=some b)(hd:b.dead=false):(A2 H)[id]?=some b:=by
 obtain⟨h1,h2⟩:=la6 hb hd;have hlt:id<H.length:=hl ▸ (Qab.1 h1).1;obtain⟨b',k1,k2,_,_,k5,_,k6⟩:=hE id _ (Qaa hlt);obtain rfl:b'=b:=Qag (k1.symm.trans h1);have hs:I4 H[id]=false:=by
  unfold I4 at h2 ⊢;rw[<- k5];exact h2
 have:=k6 hs
 subst this;exact ga5 (Qaa hlt) hs
theorem C2.alloc(h:C2 P WB K J ρ0 H0 F0 w0 H ds w ρ F W' up)(hJ:Ec6 K J)(o:Obj) :
  C2 P WB K J ρ0 H0 F0 w0 H ds (w.alloc o) ρ F (λk=>W' k/\k≠w.heap.size) up/\Tr ρ H F w ρ H F (w.alloc o)/\WB w.heap.size/\(∀b,F w.heap.size b->False):=by
 have hold:∀k,k<w.heap.size->(w.alloc o).heap[k]?=w.heap[k]?:=λk hk=>by
  simp only[World.alloc,Qau];rw[if_neg (Qan hk)]
 have hsz:(w.alloc o).heap.size=w.heap.size+1:=by simp
 have hF:∀b o',F b o'->b<w.heap.size:=λb o' hf=>oc6 (h.hrel.frz b o' hf)
 have hcells:∀b o',F b o'->(w.alloc o).cell? ⟨b,o',none⟩=w.cell? ⟨b,o',none⟩:=λb o' hf=>pc6 (a:=⟨b,o',none⟩) (hold b (hF b o' hf))
 have hxc:∀x x',XC ρ H F w x x'->XC ρ H F (w.alloc o) x x':=λx x' hx=>by
  cases hx with
  |n hx=>exact .n (hx.carry (λid b hb hd=>⟨b,hb,hd,Qaf _,λ_=>⟨rfl,rfl,Qaf _⟩⟩) (λ_ _ h=>h) hcells)
  |box id c g b hb hd he=>exact .box id c g b hb hd he
  |map id c g b t hb hd he=>exact .map id c g b t hb hd he
 refine⟨⟨λk hk=>h.sub k hk.1,h.adv.trans ⟨⟨rfl,rfl,rfl,by omega,λk hk _=>hold k hk,hcells,Qaf _⟩,.refl,λ_ _ h=>h,λ_ _ h=>.inl h,λid b hb hn=>absurd rfl (hn b hb)⟩,?_,?_,λk hk=>?_,h.far,?_,?_⟩,λx x' hx=>?_,h.sub _ (h.hrel.new _ (Qaf _)),λb hf=>Nat.lt_irrefl _ (hF _ _ hf)⟩
 ·refine⟨λid b hb hd=>?_,h.hrel.apart,λb o' hf=>by rw[hcells b o' hf];exact h.hrel.frz b o' hf,λk hk=>⟨h.hrel.new k (by omega),by omega⟩⟩
  obtain⟨cc,t,fr,hB⟩:=h.hrel.blk id b hb hd;have hk:=hB.keep (w':=w.alloc o) (hold _ hB.lt) hcells;exact⟨cc,t,fr,hk.obj,hk.room,hk.len,hk.rows,hk.cell,λho=>by
   obtain⟨g1,g2,g3⟩:=hk.own ho;exact⟨g1,⟨g2,Qan hB.lt⟩,g3⟩,hk.kept⟩
 ·refine⟨λid b hb hs hd=>?_,h.srel.apart⟩
  obtain⟨k1,k2,k3,k4,k5⟩:=h.srel.has id b hb hs hd;refine⟨k1,λhk=>k2 hk.1,k3,by omega,?_⟩
  rcases k5 with⟨e,row,vs,t,m1,m2,m3,m4⟩|⟨t,K,El,fl,es,clk,m1,m2,m3,m4,m5⟩
  ·exact .inl ⟨e,row,vs,t,m1,(hold _ k4).trans m2,m3,λc x x' hx hx'=>⟨(m4 c x x' hx hx').1,hxc _ _ (m4 c x x' hx hx').2⟩⟩
  ·exact .inr ⟨t,K,El,fl,es,clk,m1,m2,m3,(hold _ k4).trans m4,m5⟩
 ·exact⟨λhw=>(h.kept k hk).1 hw.1,by have:=(h.kept k hk).2;omega⟩
 ·exact hJ up w _ (λk hk=>hold k (h.kept k hk).2) h.jot
 ·refine⟨λd hd=>?_,h.marks.2⟩
  obtain⟨D,h1,h2,h3,h4,h5⟩:=h.marks.1 d hd
  grind
 ·cases hx with
  |w hx=>exact .w (hx.carry (λid b hb hd=>⟨b,hb,hd,Qaf _,λ_=>⟨rfl,rfl,Qaf _⟩⟩) (λ_ _ h=>h) hcells)
  |c hx=>exact .c (hxc _ _ hx)
theorem C2.adopt(h:C2 P WB K J ρ0 H0 F0 w0 H ds w ρ F W' up)(k sz:Nat)(hk:WB k)(hkW:¬ W' k)(hkF:∀o,¬ F k o)(hks:k<w.heap.size)(hap:∀(id:Nat) b,H[id]?=some b->I4 b=true->b.dead=false->(ρ id).blk≠k)
  (hkK:¬ K k) (b:c7) (hb:I4 b=true) (hbd:b.dead=false) (hc:gg1 (ρnew ρ H ⟨k,0,sz⟩) (H++[b]) F w b k\/gg2 P w b k) :
  C2 P WB K J ρ0 H0 F0 w0 (H++[b]) ds w (ρnew ρ H ⟨k,0,sz⟩) F W' up/\Tr ρ H F w (ρnew ρ H ⟨k,0,sz⟩) (H++[b]) F w:=by
 have hρ:∀id,id<H.length->ρnew ρ H ⟨k,0,sz⟩ id=ρ id:=λid hid=>by simp[ρnew,Qan hid]
 have hρn:ρnew ρ H ⟨k,0,sz⟩ H.length=⟨k,0,sz⟩:=by simp[ρnew]
 have hlook:∀(id:Nat) c,(H++[b])[id]?=some c->(id<H.length/\H[id]?=some c)\/(id=H.length/\c=b):=λid c hc=>by
  rcases Qaq id H.length with hh|hh
  ·rw[Qbb hh] at hc;exact .inl ⟨hh,hc⟩
  ·rw[Qba hh] at hc;have h0:id-H.length=0:=by
    rcases Qav (id-H.length) with h0|h0
    ·exact h0
    ·rw[Qat (by simp;omega)] at hc;cases hc
   rw[h0] at hc;exact .inr ⟨by omega,by simpa using hc.symm⟩
 have hleft:∀{id:Nat} {c:c7},H[id]?=some c->(H++[b])[id]?=some c/\id<H.length:=λ{id c} hc=>by
  have hlt:=(Qab.1 hc).1;exact⟨by rw[Qbb hlt];exact hc,hlt⟩
 have hlive:∀(id:Nat) c,(A2 (H++[b]))[id]?=some c->c.dead=false->(A2 H)[id]?=some c/\id<H.length:=λid c hc hd=>by
  obtain⟨h1,h2⟩:=la6 hc hd
  rcases hlook id c h1 with⟨hh,h3⟩|⟨_,rfl⟩
  ·exact⟨ga5 h3 h2,hh⟩
  ·rw[hb] at h2;cases h2
 have hcar:ee1 ρ (A2 H) (ρnew ρ H ⟨k,0,sz⟩) (A2 (H++[b])):=λid c hc hd=>by
  obtain⟨h1,h2⟩:=la6 hc hd;exact⟨c,ga5 (hleft h1).1 h2,hd,Qaf _,λ_=>⟨hρ id (hleft h1).2,rfl,Qaf _⟩⟩
 have hxc:∀x x',XC ρ H F w x x'->XC (ρnew ρ H ⟨k,0,sz⟩) (H++[b]) F w x x':=λx x' hx=>by
  cases hx with
  |n hx=>exact .n (hx.carry hcar (λ_ _ h=>h) (λ_ _ _=>rfl))
  |box id c g b' hb' hd he=>rw[<- hρ id (hleft hb').2];exact .box id c g b' (hleft hb').1 hd he
  |map id c g b' t hb' hd he=>rw[<- hρ id (hleft hb').2];exact .map id c g b' t (hleft hb').1 hd he
 refine⟨⟨h.sub,h.adv.trans ⟨.refl,λid c hc=>⟨c,(hleft hc).1,rfl,Qaf _,λ_=>⟨hρ id (hleft hc).2,rfl,Qaf _⟩⟩,λ_ _ h=>h,λ_ _ h=>.inl h,λid c hc hn=>?_⟩,?_,?_,h.kept,λid c hc hs hd=>?_,h.jot,h.marks⟩,λx x' hx=>?_⟩
 ·grind
 ·exact h.hrel.pull (λi=>i) (λi c hc hd=>⟨(hlive i c hc hd).1,hρ i (hlive i c hc hd).2⟩) (λ_ _ _ _ _ _ _ _ e=>e)
 ·refine⟨λid c hc' hs hd=>?_,λid id' c c' hc1 hc1' hs hs' hd hd' hne=>?_⟩
  ·rcases hlook id c hc' with⟨hlt,h1⟩|⟨rfl,rfl⟩
   ·obtain⟨k1,k2,k3,k4,k5⟩:=h.srel.has id c h1 hs hd;rw[hρ id hlt];refine⟨k1,k2,k3,k4,?_⟩
    rcases k5 with⟨e,row,vs,t,m1,m2,m3,m4⟩|k5
    ·exact .inl ⟨e,row,vs,t,m1,m2,m3,λc x x' hx hx'=>⟨(m4 c x x' hx hx').1,hxc _ _ (m4 c x x' hx hx').2⟩⟩
    ·exact .inr k5
   simp_all
  ·rcases hlook id c hc1 with⟨hlt,h1⟩|⟨rfl,rfl⟩<;>rcases hlook id' c' hc1' with⟨hlt',h1'⟩|⟨rfl,rfl⟩
   ·rw[hρ id hlt,hρ id' hlt'];exact h.srel.apart id id' c c' h1 h1' hs hs' hd hd' hne
   ·simp_all
   ·grind
   ·exact absurd rfl hne
 ·rcases hlook id c hc with⟨hlt,h1⟩|⟨rfl,rfl⟩
  ·rw[hρ id hlt];exact h.far id c h1 hs hd
  ·rw[hρn];exact hkK
 ·cases hx with
  |w hx=>exact .w (hx.carry hcar (λ_ _ h=>h) (λ_ _ _=>rfl))
  |c hx=>exact .c (hxc _ _ hx)
theorem C2.change(h:C2 P WB K J ρ0 H0 F0 w0 H ds w ρ F W' up)(k:Nat)(hk:WB k)(hkW:¬ W' k)(hkF:∀o,¬ F k o)
  (hos:w'.os=w.os) (htape:w'.tape=w.tape) (hout:w'.output=w.output) (hdrawn:w.drawn<=w'.drawn) (hsize:w'.heap.size=w.heap.size) (hold:∀j,j≠k->w'.heap[j]?=w.heap[j]?)
  (hcc:∀cc t fr,w.heap[k]?=some (.cells cc t fr)->∃cc',w'.heap[k]?=some (.cells cc' t fr)/\cc'.size=cc.size)
  (hl:H'.length=H.length) (hE:∀(id:Nat) b,H[id]?=some b->∃b',H'[id]?=some b'/\b'.et=b.et/\b'.dead=b.dead/\b'.g=b.g/\b'.es=b.es/\b.elems.length<=b'.elems.length/\(I4 b=false->b'=b))
  (hsame:∀(id:Nat) b,H[id]?=some b->I4 b=true->b.dead=false->(ρ id).blk≠k->H'[id]?=some b)
  (hnew:(∀x x',XC ρ H F w x x'->XC ρ H' F w' x x')->∀(id:Nat) b,H'[id]?=some b->I4 b=true->b.dead=false->(ρ id).blk=k->gg1 ρ H' F w' b k\/gg2 P w' b k)
  (hJ:J up' w') (hM:∀D,({ target:=.collected D,args:=#[] }:Deferred)∈ds->w.heap[D]?=some (.deferred (some []))->D=k->w'.heap[D]?=some (.deferred (some []))) :
  C2 P WB K J ρ0 H0 F0 w0 H' ds w' ρ F W' up'/\Tr ρ H F w ρ H' F w':=by
 have hne:∀b o,F b o->b≠k:=λb o hf e=>hkF o (e ▸ hf)
 have hcells:∀b o,F b o->w'.cell? ⟨b,o,none⟩=w.cell? ⟨b,o,none⟩:=λb o hf=>pc6 (a:=⟨b,o,none⟩) (hold b (hne b o hf))
 have hback:∀(id:Nat) b',H'[id]?=some b'->∃b,H[id]?=some b/\b'.et=b.et/\b'.dead=b.dead/\I4 b=I4 b':=λid b' hb'=>by
  have hlt:id<H.length:=hl ▸ (Qab.1 hb').1;obtain⟨b2,k1,k2,k3,k4,k5,_⟩:=hE id _ (Qaa hlt);obtain rfl:b2=b':=Qag (k1.symm.trans hb');exact⟨_,Qaa hlt,k2,k3,by unfold I4;rw[k5]⟩
 have hcar:ee1 ρ (A2 H) ρ (A2 H'):=λid b hb hd=>by
  obtain⟨h1,h2⟩:=la6 hb hd;obtain⟨b',k1,_,_,_,_,_,k6⟩:=hE id b h1
  have:=k6 h2
  subst this;exact⟨b',ga5 k1 h2,hd,Qaf _,λ_=>⟨rfl,rfl,Qaf _⟩⟩
 have hxc:∀x x',XC ρ H F w x x'->XC ρ H' F w' x x':=λx x' hx=>by
  cases hx with
  |n hx=>exact .n (hx.carry hcar (λ_ _ h=>h) hcells)
  |box id c g b hb hd he =>
   obtain⟨b',k1,k2,k3,k4,k5,_⟩:=hE id b hb;exact .box id c g b' k1 (k3.trans hd) ⟨k5.trans he.1,k2.trans he.2⟩
  |map id c g b t hb hd he =>
   obtain⟨b',k1,k2,k3,k4,k5,_⟩:=hE id b hb;exact .map id c g b' t k1 (k3.trans hd) ⟨k5.trans he.1,k2.trans he.2⟩
 refine⟨⟨h.sub,h.adv.trans ⟨⟨hos,htape,hout,by omega,λj _ hj=>hold j λe=>hj (e ▸ hk),hcells,hdrawn⟩,λid b hb=>?_,λ_ _ h=>h,λ_ _ h=>.inl h,λid b' hb' hn=>?_⟩,?_,?_,λj hj=>⟨(h.kept j hj).1,by rw[hsize];exact (h.kept j hj).2⟩,λid b hb hs hd=>?_,hJ,⟨λd hd=>?_,h.marks.2⟩⟩,λx x' hx=>?_⟩
 ·grind
 ·grind
 ·refine⟨λid b hb hd=>?_,λid id' b b' hb hb' hd hd' ho hne'=>h.hrel.apart id id' b b' (od7 hE hl hb hd) (od7 hE hl hb' hd') hd hd' ho hne',λb o hf=>by rw[hcells b o hf];exact h.hrel.frz b o hf,λj hj=>h.hrel.new j (by rw[<- hsize];exact hj)⟩
  obtain⟨cc,t,fr,hB⟩:=h.hrel.blk id b (od7 hE hl hb hd) hd;by_cases e:(ρ id).blk=k
  ·obtain⟨cc',h1,h2⟩:=hcc cc t fr (e ▸ hB.obj);have hno:b.own=false:=by
    cases ho:b.own with
    |false=>rfl
    |true=>exact absurd (e ▸ (hB.own ho).2.1) hkW
   have hz:b.elems.length*b.es=0:=by
    rcases Qav (b.elems.length*b.es) with h0|h0
    ·exact h0
    ·exact absurd (e ▸ hB.kept hno 0 h0) (hkF _)
   refine⟨cc',t,fr,e ▸ h1,by rw[h2];exact hB.room,hB.len,hB.rows,λi r c x hr hx=>?_,(λho=>by rw[hno] at ho;cases ho),hB.kept⟩
   have hi:=(Qab.1 hr).1;have hc:=(Qab.1 hx).1;rw[hB.rows i r hr] at hc
   have:=Nat.mul_pos (show 0<b.elems.length by omega) (show 0<b.es by omega)
   omega
  ·exact⟨cc,t,fr,hB.keep (hold _ e) hcells⟩
 ·refine⟨λid b hb hs hd=>?_,λid id' b b' hb hb' hs hs' hd hd' hne'=>?_⟩
  ·obtain⟨b0,h1,h2,h3,h4⟩:=hback id b hb;obtain⟨k1,k2,k3,k4,k5⟩:=h.srel.has id b0 h1 (by rw[h4];exact hs) (by rw[<- h3];exact hd)
   refine⟨k1,k2,k3,by rw[hsize];exact k4,?_⟩
   by_cases e:(ρ id).blk=k
   ·grind
   ·have hb0:b0=b:=Qag ((hsame id b0 h1 (by rw[h4];exact hs) (by rw[<- h3];exact hd) e).symm.trans hb)
    subst hb0
    rcases k5 with⟨e',row,vs,t,m1,m2,m3,m4⟩|⟨t,K,El,fl,es,clk,m1,m2,m3,m4,m5⟩
    ·exact .inl ⟨e',row,vs,t,m1,(hold _ e).trans m2,m3,λc x x' hx hx'=>⟨(m4 c x x' hx hx').1,hxc _ _ (m4 c x x' hx hx').2⟩⟩
    ·exact .inr ⟨t,K,El,fl,es,clk,m1,m2,m3,(hold _ e).trans m4,m5⟩
  ·obtain⟨b0,h1,h2,h3,h4⟩:=hback id b hb;obtain⟨b0',h1',h2',h3',h4'⟩:=hback id' b' hb';exact h.srel.apart id id' b0 b0' h1 h1' (by rw[h4];exact hs) (by rw[h4'];exact hs') (by rw[<- h3];exact hd) (by rw[<- h3'];exact hd') hne'
 ·obtain⟨b0,h1,h2,h3,h4⟩:=hback id b hb;exact h.far id b0 h1 (by rw[h4];exact hs) (by rw[<- h3];exact hd)
 ·obtain⟨D,h1,h2,h3,h4,h5⟩:=h.marks.1 d hd
  grind
 ·cases hx with
  |w hx=>exact .w (hx.carry hcar (λ_ _ h=>h) hcells)
  |c hx=>exact .c (hxc _ _ hx)
end
section
variable{WB K:Nat->Prop}{J:List Value->World->Prop}{ρ ρ0:Rho}{H H0 H':List c7}{F F0:Fz}{w w0 w':World}{W':Nat->Prop}{up:List Value}{E:Env}{a:List b7}{ac:Act}{x:b7}{o:Oper}
def jc5(P:Program)(WB K:Nat->Prop)(J:List Value->World->Prop)(ρ0:Rho)(H0:List c7)(F0:Fz)(w0:World)(ρ:Rho)(H:List c7)(F:Fz)(w:World)(up:List Value)(ds:List Deferred)(x:b7)(H':List c7)(x':Value)(w':World):Prop :=
 ∃ρ' F' W'',C2 P WB K J ρ0 H0 F0 w0 H' ds w' ρ' F' W'' up/\Tr ρ H F w ρ' H' F' w'/\XW ρ' H' F' w' x x'
def ltO(n:Nat):Operand->Bool
 |.tmp t=>Nat.blt t n
 |_=>true
theorem Lb6{n:Nat}(hv:VR ρ H F w a (ac.tmps.toList++up))(hn:ac.tmps.size=n)(hG:GOk E F w)(y:Operand)(hy:ltO n y=true):XW ρ H F w (c9 E a (o7 y)) (ac.eval y):=by
 cases y with
 |tmp t =>
  show XW ρ H F w (c9 E a (.t t)) (ac.tmps.getD t undef);have hlt:t<n:=by have:=hy;unfold ltO at this;rwa [Qch] at this
  rw[Mb7];have hl:=hv.1;rw[Qdc] at hl;have hsz:ac.tmps.toList.length=ac.tmps.size:=Array.length_toList;have hlt':t<ac.tmps.size:=hn ▸ hlt;have ha:t<a.length:=by rw[hl,hsz];exact Qam hlt' (Nat.le_add_right _ _)
  have h1:a[t]?=some a[t]:=Qaa ha;have h2:(ac.tmps.toList++up)[t]?=some ac.tmps[t]:=by
   grind
  have:=hv.2 t _ _ h1 h2
  simpa [h1,Array.getD,hlt'] using this
 |const v=>exact .w (K8.ofVal v)
 |func f=>exact .w (.val (.cell (.mem (.fn0 f))))
 |global g =>
  have:Ia4 (λ_=>⟨0,0,0⟩) [] F w [] #[]:=⟨rfl,λi x x' hx=>by simp at hx⟩
  have h:=A9 (ρ:=ρ) (H:=A2 H) (a:=[]) (ac:=⟨#[],[]⟩) ⟨rfl,λi x x' hx=>by simp at hx⟩ hG (.global g)
  exact .w h
theorem pc7{t:Nat}{b:c7}(h:ee7 b)(h':Ce6 t b):False:=by
 have h1:b.et=0:=h.2;have h2:b.et=t+1:=h'.2;rw[h1] at h2;cases h2
theorem jc6{id c g:Nat}{b:c7}{v:Value}(hs:Sc1 0 H x=some (id,c,g,b))(hx:XW ρ H F w x v):x=.ptr id 0 c g/\H[id]?=some b/\b.dead=false/\ee7 b/\v=.pointer (some ⟨(ρ id).blk,c,none⟩):=by
 revert hs hx
 cases x with
 |ptr id' i' c' g' =>
  intro hs hx;simp only[Sc1,F7] at hs;cases hb:H[id']? with
  |none=>simp[hb] at hs
  |some b' =>
  simp only[hb] at hs;cases hd:b'.dead with
  |true=>simp[hd] at hs
  |false =>
  simp only[hd] at hs;cases he:(I4 b'&&Nat.beq b'.et 0) with
  |false=>simp[he] at hs
  |true =>
  simp only[he] at hs;cases hg:Nat.beq b'.g g' with
  |false=>simp[hg] at hs
  |true =>
  simp only[hg] at hs;cases hi:Nat.beq i' 0 with
  |false=>simp[hi] at hs
  |true =>
  simp only[hi] at hs;injection hs with hs;injection hs with e1 hs;injection hs with e2 hs;injection hs with e3 e4
  subst e1 e2 e3 e4;rw[Qas] at he;have he:=And.intro (Qad he.1) (Qad he.2);have hi:=Qad hi;subst hi;refine⟨rfl,hb,hd,he,?_⟩;have hdead:∀q,(A2 H)[id']?=some q->q.dead=true:=λq hq=>by
   rw[Jd6 hb (pb7 he)] at hq;injection hq with hq;rw[<- hq]
  have hno:∀{v},ea9 ρ (A2 H) F w (.ptr id' 0 c' g') v->False:=λ{v} h=>by
   cases h with
   |mem h=>cases h
   |ptr _ _ _ _ ad q hq hd'=>rw[hdead q hq] at hd';cases hd'
  cases hx with
  |w h=>cases h with
   |val h=>cases h with
    |cell h=>exact (hno h).elim
  |c h =>
   cases h with
   |n h=>exact (hno h).elim
   |box=>rfl
   |map _ _ _ b2 t hb2 _ he2 =>
    have:b2=b':=Qag (hb2.symm.trans hb)
    subst this;exact (pc7 he he2).elim
 |_=>intro hs;cases hs
theorem ee9{t id c g:Nat}{b:c7}{v:Value}(hs:Sc1 (t+1) H x=some (id,c,g,b))(hx:XW ρ H F w x v):x=.ptr id 0 c g/\H[id]?=some b/\b.dead=false/\Ce6 t b/\v=.map (some (ρ id).blk):=by
 revert hs hx
 cases x with
 |ptr id' i' c' g' =>
  intro hs hx;simp only[Sc1,F7] at hs;cases hb:H[id']? with
  |none=>simp[hb] at hs
  |some b' =>
  simp only[hb] at hs;cases hd:b'.dead with
  |true=>simp[hd] at hs
  |false =>
  simp only[hd] at hs;cases he:(I4 b'&&Nat.beq b'.et (t+1)) with
  |false=>simp[he] at hs
  |true =>
  simp only[he] at hs;cases hg:Nat.beq b'.g g' with
  |false=>simp[hg] at hs
  |true =>
  simp only[hg] at hs;cases hi:Nat.beq i' 0 with
  |false=>simp[hi] at hs
  |true =>
  simp only[hi] at hs;injection hs with hs;injection hs with e1 hs;injection hs with e2 hs;injection hs with e3 e4
  subst e1 e2 e3 e4;rw[Qas] at he;have he:=And.intro (Qad he.1) (Qad he.2);have hi:=Qad hi;subst hi;refine⟨rfl,hb,hd,he,?_⟩;have hdead:∀q,(A2 H)[id']?=some q->q.dead=true:=λq hq=>by
   rw[Jd6 hb (yb1 he)] at hq;injection hq with hq;rw[<- hq]
  have hno:∀{v},ea9 ρ (A2 H) F w (.ptr id' 0 c' g') v->False:=λ{v} h=>by
   cases h with
   |mem h=>cases h
   |ptr _ _ _ _ ad q hq hd'=>rw[hdead q hq] at hd';cases hd'
  cases hx with
  |w h=>cases h with
   |val h=>cases h with
    |cell h=>exact (hno h).elim
  |c h =>
   cases h with
   |n h=>exact (hno h).elim
   |map=>rfl
   |box _ _ _ b2 hb2 _ he2 =>
    have:b2=b':=Qag (hb2.symm.trans hb)
    subst this;exact (pc7 he2 he).elim
 |_=>intro hs;cases hs
theorem Ce7(H:List c7)(et:Nat)(elems:List (List b7)):cd5 H et elems=H++[{ et,es:=0,elems,own:=true,dead:=false,g:=0 }]:=by simp[cd5,K6]
theorem Ce8{y:b7}{y':Value}(hy:XW ρ H F w y y')(hp:xb3 y=true)(hb:Za6 Oe1 (L8 y)=true) :
  (L8 y).length=y'.cells.toList.length/\∀(i:Nat) z z',(L8 y)[i]?=some z->y'.cells.toList[i]?=some z'->z'.oneCell'=true/\XC ρ H F w z z':=by
 have hone:∀{i:Nat} {z:b7} {z':Value},(L8 y)[i]?=some z->XC ρ H F w z z'->z'.oneCell'=true/\XC ρ H F w z z':=λ{i z z'} hz hx=>⟨hx.one (me1 hb z (Qbc hz)),hx⟩
 cases hy with
 |w h =>
  obtain⟨h1,h2⟩:=Oc3 h hp;exact⟨h1,λi z z' hz hz'=>hone hz (.n (h2 i z z' hz hz'))⟩
 |c h =>
  have h0:=h;cases h with
  |n h =>
   obtain⟨h1,h2⟩:=Oc3 (.val (.cell h)) hp;exact⟨h1,λi z z' hz hz'=>hone hz (.n (h2 i z z' hz hz'))⟩
  |box id c g b h1 h2 h3 =>
   refine⟨rfl,λi z z' hz hz'=>?_⟩
   cases i with
   |zero=>simp[L8,Value.cells] at hz hz';subst hz hz';exact⟨rfl,h0⟩
   |succ i=>simp[L8] at hz
  |map id c g b t h1 h2 h3 =>
   refine⟨rfl,λi z z' hz hz'=>?_⟩
   cases i with
   |zero=>simp[L8,Value.cells] at hz hz';subst hz hz';exact⟨rfl,h0⟩
   |succ i=>simp[L8] at hz
section
variable{ds:List Deferred}(hC:C2 E.P WB K J ρ0 H0 F0 w0 H ds w ρ F W' up)(hJ:Ec6 K J)
include hC hJ
theorem wf2(row:List b7)(vs:Array Value)(t:TypeId)(hl:row.length=vs.size)(hc:∀(c:Nat) x x',row[c]?=some x->vs[c]?=some x'->x'.oneCell'=true/\XC ρ H F w x x') :
  jc5 E.P WB K J ρ0 H0 F0 w0 ρ H F w up ds (.ptr H.length 0 0 0) (cd5 H 0 [row]) (.pointer (some ⟨w.heap.size,0,none⟩)) (w.alloc (.cells vs t)):=by
 obtain⟨c1,c2,c3,c4⟩:=hC.alloc hJ (.cells vs t);have hap:∀(id:Nat) b,H[id]?=some b->I4 b=true->b.dead=false->(ρ id).blk≠w.heap.size:=λid b hb hs hd=>Qan (hC.srel.has id b hb hs hd).2.2.2.1
 rw[Ce7];have hnew:(w.alloc (.cells vs t)).heap[w.heap.size]?=some (.cells vs t (0,0)):=by simp only[World.alloc,Qau];simp
 have hfirst:∀{x x'},XC ρ H F (w.alloc (.cells vs t)) x x'->XC (ρnew ρ H ⟨w.heap.size,0,0⟩) (H++[{ et:=0,es:=0,elems:=[row],own:=true,dead:=false,g:=0 }]) F (w.alloc (.cells vs t)) x x':=λ{x x'} hx=>by
  have hlt:∀{id:Nat} {b:c7},H[id]?=some b->id<H.length:=λh=>(Qab.1 h).1
  have hρ:∀id,id<H.length->ρnew ρ H ⟨w.heap.size,0,0⟩ id=ρ id:=λid hid=>by simp[ρnew,Qan hid]
  cases hx with
  |n hx =>
   refine .n (hx.carry (λid b hb hd=>?_) (λ_ _ h=>h) (λ_ _ _=>rfl))
   obtain⟨k1,k2⟩:=la6 hb hd;exact⟨b,ga5 (by rw[Qbb (hlt k1)];exact k1) k2,hd,Qaf _,λ_=>⟨hρ id (hlt k1),rfl,Qaf _⟩⟩
  |box id c g b hb hd he =>
   rw[<- hρ id (hlt hb)];exact .box id c g b (by rw[Qbb (hlt hb)];exact hb) hd he
  |map id c g b t hb hd he =>
   rw[<- hρ id (hlt hb)];exact .map id c g b t (by rw[Qbb (hlt hb)];exact hb) hd he
 obtain⟨d1,d2⟩:=c1.adopt w.heap.size 0 c3 (λh=>h.2 rfl) (λo hf=>c4 o hf) (by simp) hap (λhk=>Nat.lt_irrefl _ (hC.kept _ hk).2) { et:=0,es:=0,elems:=[row],own:=true,dead:=false,g:=0 } (pb7 ⟨rfl,rfl⟩) rfl
  (.inl ⟨⟨rfl,rfl⟩,row,vs,t,rfl,hnew,Nat.le_of_eq hl,λc x x' hx hx'=>by
   obtain⟨k1,k2⟩:=hc c x x' hx hx';have k3:=c2 x x' (.c k2);refine⟨k1,hfirst ?_⟩;cases k3 with
   |c h=>exact h
   |w h =>
    cases k2 with
    |n k2 =>
     cases h with
     |val h =>
      cases h with
      |cell h=>exact .n h
      |agg=>cases k1
      |fn f caps vs' hl' h' =>
       exact .n (k2.carry (λid b hb hd=>⟨b,hb,hd,Qaf _,λ_=>⟨rfl,rfl,Qaf _⟩⟩) (λ_ _ h=>h) λb o hf=>pc6 (a:=⟨b,o,none⟩) (by
        have:=oc6 (hC.hrel.frz b o hf)
        simp only[World.alloc,Qau];rw[if_neg (Qan this)]))
     |tup=>cases k1
    |box id c g b hb hd he=>exact .box id c g b hb hd he
    |map id c g b t hb hd he=>exact .map id c g b t hb hd he⟩)
 refine⟨_,F,_,d1,λx x' hx=>d2 _ _ (c2 _ _ hx),.c ?_⟩
 have hρn:(ρnew ρ H ⟨w.heap.size,0,0⟩ H.length).blk=w.heap.size:=by simp[ρnew]
 have:=XC.box (ρ:=ρnew ρ H ⟨w.heap.size,0,0⟩) (F:=F) (w:=w.alloc (.cells vs t)) H.length 0 0 { et:=0,es:=0,elems:=[row],own:=true,dead:=false,g:=0 } (H:=H++[{ et:=0,es:=0,elems:=[row],own:=true,dead:=false,g:=0 }]) (by simp) rfl ⟨rfl,rfl⟩
 rwa [hρn] at this
theorem mf1{t:TypeId}{z:List b7}(ho:o.op=.alloc t)(hz:zeT E.P t=some z)(he:(Hb4 E a H (.balloc z)).run=some (x,H')) :
  s4 E.P o ac w (jc5 E.P WB K J ρ0 H0 F0 w0 ρ H F w up ds x H'):=by
 have he':some (b7.ptr (len H) 0 0 0,cd5 H 0 [z])=some (x,H'):=he;injection he' with he';injection he' with e1 e2;subst e1 e2
 rw[z6];obtain⟨ti,zv,hi,hzz,rfl,hone⟩:=lb5 hz;refine .value (x':=.pointer (some ⟨w.heap.size,0,none⟩)) (w':=w.alloc (.cells zv.cells t)) (by simp[execOp,ho,Instr.alloc,zeroValue,typeInfo,hi,hzz,newVar,newRow]) ?_
 refine wf2 hC hJ _ zv.cells t (by simp) λc y y' hy hy'=>?_
 rw[Qbe] at hy;have hy'':zv.cells.toList[c]?=some y':=by simpa using hy'
 rw[hy''] at hy
 simp at hy
 subst hy;exact⟨hone y' (Qbc hy''),.n (.v _)⟩
theorem Nf2{n:Nat}{t:TypeId}{y:Operand}(hv:VR ρ H F w a (ac.tmps.toList++up))(hn:ac.tmps.size=n)(hG:GOk E F w)(ho:o.op=.box t y)(hy:ltO n y=true)(he:(Hb4 E a H (.bbox (o7 y))).run=some (x,H')) :
  s4 E.P o ac w (jc5 E.P WB K J ρ0 H0 F0 w0 ρ H F w up ds x H'):=by
 have hyr:=Lb6 hv hn hG y hy;simp only[Hb4] at he;cases hc:(xb3 (c9 E a (o7 y))&&Za6 Oe1 (L8 (c9 E a (o7 y)))) with
 |false=>rw[hc] at he;cases he
 |true =>
 rw[hc] at he;have he':some (b7.ptr (len H) 0 0 0,cd5 H 0 [L8 (c9 E a (o7 y))])=some (x,H'):=he;injection he' with he';injection he' with e1 e2;subst e1 e2
 rw[Qas] at hc;rw[z6];obtain⟨h1,h2⟩:=Ce8 hyr hc.1 hc.2;refine .value (x':=.pointer (some ⟨w.heap.size,0,none⟩)) (w':=w.alloc (.cells (ac.eval y).cells t)) (by simp[execOp,ho,Instr.box,newVar,newRow]) ?_
 exact wf2 hC hJ _ (ac.eval y).cells t (by simpa using h1) λc y y' hy hy'=>h2 c y y' hy (by simpa using hy')
end
end
section
variable{WB K:Nat->Prop}{J:List Value->World->Prop}{ρ ρ0:Rho}{H H0 H':List c7}{F F0:Fz}{w w0 w':World}{W':Nat->Prop}{up:List Value}{E:Env}{a:List b7}{ac:Act}{x:b7}{o:Oper}
variable{ds:List Deferred}{n:Nat}(hC:C2 E.P WB K J ρ0 H0 F0 w0 H ds w ρ F W' up)(hJ:Ec6 K J)(hv:VR ρ H F w a (ac.tmps.toList++up))(hn:ac.tmps.size=n)(hG:GOk E F w)
theorem af7{x:b7}{x':Value}(h:XC ρ H F w x x'):ea9 ρ (A2 H) F w (na6 H x) x':=by
 cases h with
 |n h =>
  unfold na6;split
  ·split
   ·rename_i b hb;cases I4 b with
    |true=>exact .unk _
    |false=>exact h
   ·exact .unk _
  ·exact h
 |box id c g b hb hd he =>
  unfold na6;simp only[F7,hb,pb7 he];exact .unk _
 |map id c g b t hb hd he =>
  unfold na6;simp only[F7,hb,yb1 he];exact .unk _
include hC hJ hv hn hG
omit hJ in
theorem wf3{t:TypeId}{p:Nat}(ho:o.op=.load t (.tmp p))(hp:Nat.blt p n=true)(hu:E.P.underlying t≠none)(he:(Hb4 E a H (.bload (szT E.P t) (agT E.P t) p)).run=some (x,H')) :
  s4 E.P o ac w (jc5 E.P WB K J ρ0 H0 F0 w0 ρ H F w up ds x H'):=by
 have hyr:=Lb6 hv hn hG (.tmp p) hp;simp only[Hb4] at he;cases hs:Sc1 0 H (c9 E a (.t p)) with
 |none=>rw[hs] at he;cases he
 |some q =>
 obtain⟨id,c,g,b⟩:=q;rw[hs] at he
 simp only at he
 obtain⟨h1,h2,h3,h4,h5⟩:=jc6 hs hyr;cases hle:Nat.ble (c+szT E.P t) (len (c8 b.elems 0)) with
 |false=>rw[hle] at he;cases he
 |true =>
 rw[hle] at he;obtain⟨z,hz1,hz2⟩:=pb1 he;obtain⟨e0,rfl⟩:x=z/\H=H':=by injection hz2 with e1 e2;exact⟨e1,e2.symm⟩
 rw[e0]
 clear e0 hz2
 obtain⟨_,_,_,_,hcont⟩:=hC.srel.has id b h2 (pb7 h4) h3
 rcases hcont with⟨_,row,vs,tt,m1,m2,m3,m4⟩|⟨t',K',El,fl,es,clk,m1,_⟩
 case inr=>exact (pc7 h4 m1).elim
 have hrow:c8 b.elems 0=row:=by rw[m1];rfl
 rw[hrow] at hle hz1;rw[z6] at hle;have hle:=Qae hle;have hti:∃i,E.P.info? t=some i/\i.size=szT E.P t:=by
  cases hd:E.P.underlying t with
  |none=>exact absurd hd hu
  |some d=>exact Cb4 hd
 obtain⟨ti,hi1,hi2⟩:=hti;generalize hsz:szT E.P t=k at *
 have hcell:∀j,j<k->w.cell? ⟨(ρ id).blk,c+j,none⟩=some (vs.getD (c+j) undef):=λj hj=>by
  have hlt:c+j<vs.size:=by omega
  simp[World.cell?,m2,hlt]
 have hrel:∀j,j<k->∀y,row[c+j]?=some y->XC ρ H F w y (vs.getD (c+j) undef):=λj hj y hy=>by
  have hlt:c+j<vs.size:=by omega
  exact (m4 (c+j) y _ hy (by simp[hlt])).2
 have hvals:∀(j:Nat) v,((List.range k).map λj=>vs.getD (c+j) undef)[j]?=some v->w.cell? (Addr.add ⟨(ρ id).blk,c,none⟩ j)=some v:=λj v hj=>by
  obtain⟨hj1,hj2⟩:=eb5 hj;rw[aa2 rfl];rw[<- hj2];exact hcell j hj1
 have hev:ac.eval (.tmp p)=.pointer (some ⟨(ρ id).blk,c,none⟩):=h5;cases hag:agT E.P t with
 |true =>
  rw[hag] at hz1;have hz1:some (b7.agg (s5 (na6 H) (J6 (s9 row c) k)))=some z:=hz1;injection hz1 with hz1;subst hz1;have hlc:(Go.loadCells ⟨(ρ id).blk,c,none⟩ k).run E.P w=.ok ((List.range k).map λj=>vs.getD (c+j) undef).toArray w:=by
   have:=run_loadCells_list (P:=E.P) w ⟨(ρ id).blk,c,none⟩ ((List.range k).map λj=>vs.getD (c+j) undef) hvals
   simpa using this
  refine .value (x':=.agg ((List.range k).map λj=>vs.getD (c+j) undef).toArray) (w':=w) ?_ ⟨ρ,F,W',hC,λ_ _ h=>h,.w (.val (.agg _ _ ?_ λi y y' hy hy'=>?_))⟩
  ·simp[execOp,ho,hev,Instr.loadAt,Instr.sureAddr,loadVar,xb5 hag,sizeOf,typeInfo,hi1,hi2,hlc]
  ·rw[s8,J7,I9];simp;omega
  ·rw[s8,J7,I9,Qbe] at hy;have hy':((List.range k).map λj=>vs.getD (c+j) undef)[i]?=some y':=by simpa using hy'
   obtain⟨hj1,hj2⟩:=eb5 hy';rw[Qap,if_pos hj1,Qbg] at hy;cases hq:row[c+i]? with
   |none=>rw[hq] at hy;cases hy
   |some q =>
    rw[hq] at hy;injection hy with hy;subst hy;rw[<- hj2];exact af7 (hrel i hj1 q hq)
 |false =>
  rw[hag] at hz1;have hz1:(match J6 (s9 row c) k with | [x]=>some x | _=>none:Option b7)=some z:=hz1
  rw[J7,I9] at hz1;have hk1:k=1/\row[c]?=some z:=by
   have hl:((row.drop c).take k).length=k:=by simp;omega
   split at hz1
   ·rename_i y hy;injection hz1 with hz1;subst hz1;rw[hy] at hl;have hk:k=1:=by simpa using hl.symm
    refine⟨hk,?_⟩;have h0:((row.drop c).take k)[0]?=some y:=by rw[hy];rfl
    rw[Qap,if_pos (by omega),Qbg] at h0
    simpa using h0
   ·cases hz1
  obtain⟨hk,hz⟩:=hk1;subst hk;have hc0:=hcell 0 (by omega)
  rw[Nat.add_zero] at hc0;refine .value (x':=vs.getD c undef) (w':=w) ?_ ⟨ρ,F,W',hC,λ_ _ h=>h,.c ?_⟩
  ·simp[execOp,ho,hev,Instr.loadAt,Instr.sureAddr,loadVar,lb4 hag hu,hc0]
  ·have:=hrel 0 (by omega) z (by rw[Nat.add_zero];exact hz)
   rwa [Nat.add_zero] at this
omit hJ in
theorem Nf3{s:TypeId}{p f:Nat}{fs:Array Field}{fd:Field}(ho:o.op=.fieldAddr s (.tmp p) f)(hp:Nat.blt p n=true)(hs':E.P.underlying s=some (.struct fs))(hf:fs[f]?=some fd)(hz:szT E.P fd.type≠0)
  (he:(Hb4 E a H (.bfld fd.offset p)).run=some (x,H')):s4 E.P o ac w (jc5 E.P WB K J ρ0 H0 F0 w0 ρ H F w up ds x H'):=by
 have hyr:=Lb6 hv hn hG (.tmp p) hp;simp only[Hb4] at he;cases hs:Sc1 0 H (c9 E a (.t p)) with
 |none=>rw[hs] at he;cases he
 |some q =>
 obtain⟨id,c,g,b⟩:=q;rw[hs] at he;have he':some (b7.ptr id 0 (c+fd.offset) g,H)=some (x,H'):=he;obtain⟨rfl,rfl⟩:x=b7.ptr id 0 (c+fd.offset) g/\H=H':=by injection he' with he';injection he' with e1 e2;exact⟨e1.symm,e2⟩
 obtain⟨h1,h2,h3,h4,h5⟩:=jc6 hs hyr;obtain⟨ti,hi,hi0,hi1⟩:=dd4 hz;have hev:ac.eval (.tmp p)=.pointer (some ⟨(ρ id).blk,c,none⟩):=h5;refine .value (x':=.pointer (some (Addr.add ⟨(ρ id).blk,c,none⟩ fd.offset))) (w':=w) (by simp[execOp,ho,hev,Instr.fieldAt,Instr.sureAddr,run_underlying hs',hf,fieldPlace,sizeOf,typeInfo,hi,hi1]) ⟨ρ,F,W',hC,λ_ _ h=>h,.c ?_⟩
 rw[aa2 rfl];exact .box id (c+fd.offset) g b h2 h3 h4
omit hJ in
theorem wf4{p:Nat}(ho:o.op=.move (.tmp p)\/o.op=.assign (.tmp p))(hp:Nat.blt p n=true)
  (he:(Hb4 E a H (.bmv p)).run=some (x,H')):s4 E.P o ac w (jc5 E.P WB K J ρ0 H0 F0 w0 ρ H F w up ds x H'):=by
 have hyr:=Lb6 hv hn hG (.tmp p) hp;have he':some (c9 E a (.t p),H)=some (x,H'):=he;injection he' with he';injection he' with e1 e2;subst e1 e2;refine .value (x':=ac.eval (.tmp p)) (w':=w) (by rcases ho with ho | ho<;>simp[execOp,ho]) ⟨ρ,F,W',hC,λ_ _ h=>h,hyr⟩
theorem mf2{t:TypeId}{p:Nat}{y:Operand}(ho:o.op=.store t (.tmp p) y)(hp:Nat.blt p n=true)(hy:ltO n y=true)(h0:szT E.P t≠0)(he:(Hb4 E a H (.bstore (szT E.P t) p (o7 y))).run=some (x,H')) :
  s4 E.P o ac w (jc5 E.P WB K J ρ0 H0 F0 w0 ρ H F w up ds x H'):=by
 have hpr:=Lb6 hv hn hG (.tmp p) hp;have hyr:=Lb6 hv hn hG y hy;simp only[Hb4] at he;cases hs:Sc1 0 H (c9 E a (.t p)) with
 |none=>rw[hs] at he;cases he
 |some q =>
 obtain⟨id,c,g,b⟩:=q;rw[hs] at he
 simp only at he
 obtain⟨h1,h2,h3,h4,h5⟩:=jc6 hs hpr;generalize hcs:L8 (c9 E a (o7 y))=cs at *
 cases hcc:(Nat.ble (c+szT E.P t) (len (c8 b.elems 0))&&Nat.beq (len cs) (szT E.P t)&&(xb3 (c9 E a (o7 y))&&Za6 Oe1 cs)) with
 |false=>rw[hcc] at he;cases he
 |true =>
 rw[hcc] at he;have he':some (b7.v (.tuple #[]),setAt H id { b with elems:=[Q0 (c8 b.elems 0) c cs] })=some (x,H'):=he
 injection he' with he';injection he' with e1 e2;subst e1 e2
 simp only[Qas,z6] at hcc;obtain⟨⟨hle,hlen⟩,hpo,hbo⟩:=hcc;have hle:=Qae hle;have hlen:=Qad hlen;rw[<- hcs] at hbo;obtain⟨k1,k2⟩:=Ce8 hyr hpo hbo;rw[hcs] at k1 k2;obtain⟨hWB,hnW,hnF,hlt,hcont⟩:=hC.srel.has id b h2 (pb7 h4) h3
 rcases hcont with⟨_,row,vs,tt,m1,m2,m3,m4⟩|⟨t',K',El,fl,es,clk,m1,_⟩
 case inr=>exact (pc7 h4 m1).elim
 have hrow:c8 b.elems 0=row:=by rw[m1];rfl
 rw[hrow] at hle ⊢;generalize hys:(ac.eval y).cells.toList=ys at *
 have hl2:ys.length=cs.length:=k1.symm;have hone:∀v∈ys,v.oneCell'=true:=λv hv'=>by
  obtain⟨j,hj,rfl⟩:=List.mem_iff_getElem.1 hv';have hj':j<cs.length:=by omega
  exact (k2 j _ _ (Qaa hj') (Qaa hj)).1
 have hfits:c+ys.length<=vs.size:=by omega
 have hstore:=run_storeCells_at (P:=E.P) (ρ id).blk c tt ys 0 vs w m2 (by simpa using hfits) hone
 simp only[Nat.add_zero] at hstore;obtain⟨ti,hi1,hi2⟩:=ye6 h0;have hsz0:(ac.eval y).cells.size=ti.size:=by
  grind
 have hev:ac.eval (.tmp p)=.pointer (some ⟨(ρ id).blk,c,none⟩):=h5;have hid:=(Qab.1 h2).1;rw[H6];refine .skip (w':=w.setRow (ρ id).blk (vs.toList.take c++ys++vs.toList.drop (c+ys.length)).toArray) ?_ ?_
 ·simp[execOp,ho,hev,Instr.storeAt,Instr.sureAddr,storeVar,sizeOf,typeInfo,hi1,hsz0,hys,hstore]
 ·have hheap:=setRow_heap w (ρ id).blk vs (vs.toList.take c++ys++vs.toList.drop (c+ys.length)).toArray tt (0,0) m2;have hsize:((vs.toList.take c++ys++vs.toList.drop (c+ys.length)).toArray).size=vs.size:=by simp;omega
  have hK:=λk (hk:K k)=>hC.kept k hk
  have hnK:∀k,K k->k≠(ρ id).blk:=λk hk e=>hC.far id b h2 (pb7 h4) h3 (e ▸ hk)
  obtain⟨c1,c2⟩:=hC.change (w':=w.setRow (ρ id).blk (vs.toList.take c++ys++vs.toList.drop (c+ys.length)).toArray) (H':=H.set id { b with elems:=[Q0 row c cs] }) (up':=up) (ρ id).blk hWB hnW hnF rfl rfl rfl (Qaf _) (by simp[World.setRow]) (λj hj=>setRow_other w _ j _ hj)
   (λcc t' fr hcc=>by rw[m2] at hcc;cases hcc;exact⟨_,hheap,hsize⟩) (by simp)
   (λid' b' hb'=>by
    by_cases e:id=id'
    ·subst e;obtain rfl:b'=b:=Qag (hb'.symm.trans h2);exact⟨{ b' with elems:=[Q0 row c cs] },by simp[hid],rfl,rfl,rfl,rfl,by rw[m1];simp,λhs0=>by rw[pb7 h4] at hs0;cases hs0⟩
    ·exact⟨b',by rw[Qah e];exact hb',rfl,rfl,rfl,rfl,Qaf _,λ_=>rfl⟩)
   (λid' b' hb' hs' hd' hne=>by
    have e:id≠id':=λe=>hne (by rw[e])
    rw[Qah e];exact hb')
   (λhx id' b' hb' hs' hd' hblk=>by
    have e:id=id':=Classical.byContradiction λhne=>by
     rw[Qah hne] at hb';exact hC.srel.apart id id' b b' h2 hb' (pb7 h4) hs' h3 hd' hne hblk.symm
    subst e
    have:b'={ b with elems:=[Q0 row c cs] }:=by simpa [hid] using hb'.symm
    subst this;have hfit:c+cs.length<=row.length:=by omega
    refine .inl ⟨h4,_,_,tt,rfl,hheap,by rw[Bb5 hfit,hsize];exact m3,λj u u' hu hu'=>?_⟩
    rw[Xc6 hfits] at hu'
    rcases Xc5 hfit hu with⟨g1,g2,g3⟩|⟨g1,g3⟩
    ·rw[if_pos (by omega)] at hu'
     obtain⟨q1,q2⟩:=k2 (j-c) u u' g3 hu';exact⟨q1,hx _ _ q2⟩
    ·rw[if_neg (by omega)] at hu'
     obtain⟨q1,q2⟩:=m4 j u u' g3 hu';exact⟨q1,hx _ _ q2⟩)
   (hJ up w _ (λk hk=>setRow_other w _ k _ (hnK k hk)) hC.jot)
   (λD _ hD e=>by rw[e,m2] at hD;cases hD)
  exact⟨ρ,F,W',c1,c2,.w (.ofv _)⟩
end
end Go.Ev
