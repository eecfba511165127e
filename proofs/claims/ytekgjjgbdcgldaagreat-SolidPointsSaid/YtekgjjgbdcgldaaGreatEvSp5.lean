/- Own work. -/
import Derived.Test.YtekgjjgbdcgldaaGreatEvDraw4
import Derived.CallsIn
import Derived.RangeFuncIn
import Derived.RangeFuncRecord
import Derived.RangeFuncLeaves
import Derived.ControlIn
import Derived.LoopNIn
import Derived.TacticsIn
set_option linter.all false
noncomputable section
def Qda:=@Nat.eq_of_beq_eq_true
def Qdb:=@List.getElem?_eq_getElem
def Qdc:=@Bool.and_eq_true
def Qdd:=@List.getElem?_eq_some_iff
def Qde:=@Nat.le_refl
def Qdf:=@List.getD_eq_getElem?_getD
def Qdg:=@List.getElem?_append_left
def Qdh:=@Option.some.inj
def Qdi:=@List.getElem?_map
def Qdj:=@List.getElem?_eq_none
def Qdk:=@List.drop_eq_getElem_cons
def Qdl:=@List.getElem?_append_right
def Qdm:=@Nat.lt_of_lt_of_le
def Qdn:=@Nat.ne_of_lt
def Qdo:=@Array.all_eq_true_iff_forall_mem
def Qdp:=@Array.getElem?_setIfInBounds_ne
def Qdq:=@Nat.lt_or_ge
def Qdr:=@Array.getElem?_push
def Qds:=@Nat.eq_zero_or_pos
def Qdt:=@List.length_append
def Qdu:=@Nat.zero_add
def Qdv:=@Nat.blt_eq
def Qdw:=@List.mem_of_getElem?
def Qdx:=@Nat.le_trans
namespace Go.Ev
open Go
section
variable{W:Nat->Prop}{ρ ρ':Rho}{H H':List b8}{F F':Fz}{w w':World}
def Gd4(ρ:Rho)(H:List b8)(ρ':Rho)(H':List b8):Prop:=∀(id:Nat) b,H[id]?=some b->b.dead=false->∃b',H'[id]?=some b'/\b'.dead=false/\b.g<=b'.g/\(b'.g=b.g->ρ' id=ρ id/\b'.es=b.es/\b.elems.length<=b'.elems.length)
section
variable(hk:Gd4 ρ H ρ' H')(hm:∀b o,F b o->F' b o)(hc:∀b o,F b o->w'.cell? ⟨b,o,none⟩=w.cell? ⟨b,o,none⟩)
include hk hm hc
theorem ja0.carry{x:b7}{x':Value}(h:ja0 ρ H F w x x'):ja0 ρ' H' F' w' x x':=by
 cases h with
 |mem h=>exact .mem (h.adv hm hc)
 |v=>exact .v _
 |ptr id i c g a b hb hd hg h =>
  obtain⟨b',hb',hd',hg',e⟩:=hk id b hb hd;refine .ptr id i c g a b' hb' hd' (Qdx hg hg') λhge=>?_
  have hbg:b'.g=b.g:=by omega
  obtain⟨e1,e2,e3⟩:=e hbg;rw[e1,e2];exact h (by omega)
 |sl id off n g a cap b hb hd hg hn hs hm h =>
  obtain⟨b',hb',hd',hg',e⟩:=hk id b hb hd;refine .sl id off n g a cap b' hb' hd' (Qdx hg hg') hn hs hm λhge=>?_
  have hbg:b'.g=b.g:=by omega
  obtain⟨e1,e2,e3⟩:=e hbg;obtain⟨h1,h2,h3⟩:=h (by omega)
  rw[e1,e2];exact⟨h1,h2,Qdx h3 e3⟩
 |tptr cs a vs hs hF hw hr=>exact .tptr cs a vs hs (λc hlt=>hm _ _ (hF c hlt)) (λc hlt=>(hc _ _ (hF c hlt)).trans (hw c hlt)) (λc hlt=>(hr c hlt).adv hm hc)
 |unk x'=>exact .unk x'
theorem la1.carry{x:b7}{x':Value}(h:la1 ρ H F w x x'):la1 ρ' H' F' w' x x':=by
 cases h with
 |cell h=>exact .cell (h.carry hk hm hc)
 |agg cs vs hl h=>exact .agg cs vs hl λi x x' hx hx'=>(h i x x' hx hx').carry hk hm hc
 |fn f caps vs hl h=>exact .fn f caps vs hl λi x x' hx hx'=>(h i x x' hx hx').carry hk hm hc
theorem G3.carry{x:b7}{x':Value}(h:G3 ρ H F w x x'):G3 ρ' H' F' w' x x':=by
 cases h with
 |val h=>exact .val (h.carry hk hm hc)
 |tup xs vs hl h=>exact .tup xs vs hl λi x x' hx hx'=>(h i x x' hx hx').carry hk hm hc
theorem Ca3.carry{a:List b7}{vs:Array Value}(h:Ca3 ρ H F w a vs):Ca3 ρ' H' F' w' a vs :=
 ⟨h.1,λi x x' hx hx'=>(h.2 i x x' hx hx').carry hk hm hc⟩
end
end
section
variable{W:Nat->Prop}{ρ0:Rho}{H0:List b8}{F0:Fz}{w0 w:World}
variable{tr:Nat}{E:Env}{ops:Array Oper}{M:List Nat}{ks:List (Nat×PI)}{s:St}{U T:Nat->St}
def Da6(listed:Array Bool)(j:Nat):Prop:=listed.getD j true=true
def R9(tr:Nat)(P:Program)(ops:Array Oper)(U:Nat->St)(listed:Array Bool)(id:Nat):Prop:=∃b,b<ops.size/\O2 tr P ops b=0/\¬ Da6 listed b/\id=(U b).H.length
def aa9(ops:Array Oper)(listed:Array Bool)(t:Nat):Prop:=∃i,i<ops.size/\sa0 ops i=some t/\¬ Da6 listed i
theorem ab8{listed:Array Bool}{i j:Nat}(hi:i<listed.size):Da6 (listed.setIfInBounds i true) j↔Da6 listed j\/j=i:=by
 unfold Da6;by_cases e:i=j
 ·subst e;simp[Array.getD,hi]
 ·have:j≠i:=λh=>e h.symm
  simp only[Array.getD_eq_getD_getElem?,Qdp e,this,or_false]
theorem id9{listed:Array Bool}{i:Nat}(h:i∈Region.ready .any ops listed):i<ops.size/\¬ Da6 listed i/\(listed.size=ops.size->∀e∈Ja5 (Oa1 ops i),e<ops.size->Da6 listed e):=by
 unfold Region.ready at h;rw[List.mem_filter] at h;obtain⟨h1,h2⟩:=h;have hi:=List.mem_range.1 h1;rw[Ca4 hi] at h2;simp only[Option.map_some,Option.getD_some,Qdc,Bool.not_eq_true'] at h2;refine⟨hi,λh=>?_,λhsz e he hlt=>?_⟩
 ·unfold Da6 at h;rw[h] at h2;cases h2.1
 ·obtain⟨ed,h3,h4,h5⟩:=id3.1 he;have h6:(Oa1 ops i).after.all (λe=>!Region.binds .any e||listed.getD e.on false)=true:=h2.2
  rw[Qdo] at h6;have h7:=h6 ed h3;rw[h4,h5] at h7;simp only[Bool.not_true,Bool.false_or] at h7;unfold Da6
  have:e<listed.size:=by omega
  simp only[Array.getD,this,dite_true] at h7 ⊢;exact h7
variable(hD:DC tr E.P ops M ks)(hT:Pd1 E ops ks s U T)(hin:∀j,j<ops.size->O2 tr E.P ops j=0->∀d,sa0 ops j=some d->d<s.a.length)
include hD
theorem Le0 {listed : Array Bool} (hsz : listed.size = ops.size) {i : Nat} (hi : i < ops.size) {x : b7} (hx : ∀ d, sa0 ops i = some d → d < (T ops.size).a.length → (T ops.size).a[d]? = some x) :
  ib1 (T ops.size).a s.a (aa9 ops (listed.setIfInBounds i true))=putA (ib1 (T ops.size).a s.a (aa9 ops listed)) (sa0 ops i) x:=by
 refine List.ext_getElem? λt=>?_
 have hopen:∀t,sa0 ops i≠some t->(aa9 ops (listed.setIfInBounds i true) t↔aa9 ops listed t):=λt hne=>by
  constructor
  ·rintro⟨j,h1,h2,h3⟩;exact⟨j,h1,h2,λh=>h3 ((ab8 (hsz ▸ hi)).2 (.inl h))⟩
  ·rintro⟨j,h1,h2,h3⟩;refine⟨j,h1,h2,λh=>?_⟩
   rcases (ab8 (hsz ▸ hi)).1 h with h|h
   ·exact h3 h
   ·subst h;exact hne h2
 by_cases hd:sa0 ops i=some t
 ·have hno : ¬ aa9 ops (listed.setIfInBounds i true) t := by
   rintro⟨j,h1,h2,h3⟩
   rcases (hD.slots hi h1 hd).2 with h|h
   ·exact h3 ((ab8 (hsz ▸ hi)).2 (.inr h.symm))
   ·exact h h2
  rw[jb0 hno,hd]
  rcases Qdq t (T ops.size).a.length with hlt|hge
  ·rw[dd5 (by rw[ib9];exact hlt)]
   exact hx t hd hlt
  ·rw[Qdj hge,Qdj (by rw[Ec6,ib9];exact hge)]
 ·rw[Ec7 hd];by_cases ho:aa9 ops listed t
  ·rcases Qdq t (T ops.size).a.length with hlt|hge
   ·rw[Ec2 ho hlt,Ec2 ((hopen t hd).2 ho) hlt]
   ·rw[Qdj (by rw[ib9];exact hge),Qdj (by rw[ib9];exact hge)]
  ·rw[jb0 ho,jb0 λh=>ho ((hopen t hd).1 h)]
include hT
end
section
variable{W:Nat->Prop}{ρ0:Rho}{H0:List b8}{F0:Fz}{w0 w:World}
variable{tr:Nat}{E:Env}{ops:Array Oper}{M:List Nat}{ks:List (Nat×PI)}{s:St}{U T:Nat->St}
variable(hD:DC tr E.P ops M ks)(hT:Pd1 E ops ks s U T)(hin:∀j,j<ops.size->O2 tr E.P ops j=0->∀d,sa0 ops j=some d->d<s.a.length)
variable(hpairs:mb0 E (T ops.size).a (ab5 ops.size M ks)=true)
variable(hG0:GOk E F0 w0)(hcalls:∀f,g9 E.P E.G f (E.call f))
theorem Gd5{listed:Array Bool}(hsz:listed.size=ops.size){i:Nat}(hi:i<ops.size)(hk:O2 tr E.P ops i≠0):R9 tr E.P ops U (listed.setIfInBounds i true)=R9 tr E.P ops U listed:=by
 funext id;refine propext ⟨λ⟨b,h1,h2,h3,h4⟩=>⟨b,h1,h2,λh=>h3 ((ab8 (hsz ▸ hi)).2 (.inl h)),h4⟩,λ⟨b,h1,h2,h3,h4⟩=>⟨b,h1,h2,λh=>?_,h4⟩⟩
 rcases (ab8 (hsz ▸ hi)).1 h with h|h
 ·exact h3 h
 ·subst h;exact hk h2
include hD
include hT hin hpairs hG0 hcalls
end
section
variable{W:Nat->Prop}{ρ0:Rho}{H0:List b8}{F0:Fz}{w0 w:World}
variable{tr:Nat}{E:Env}{ops:Array Oper}{M:List Nat}{ks:List (Nat×PI)}{s:St}{U T:Nat->St}
variable(hD:DC tr E.P ops M ks)(hT:Pd1 E ops ks s U T)(hin:∀j,j<ops.size->O2 tr E.P ops j=0->∀d,sa0 ops j=some d->d<s.a.length)(hlen:H0.length<=s.H.length)
include hD hT hin hlen
omit hT hin hlen in
theorem Le1{listed:Array Bool}(hsz:listed.size=ops.size)(h:Region.ready .any ops listed=[]):∀j,j<ops.size->Da6 listed j:=by
 intro j
 induction j using Nat.strongRecOn with
 |_ j ih =>
  intro hj;apply Classical.byContradiction;intro hn;have hmem:j∈Region.ready .any ops listed:=by
   unfold Region.ready;rw[List.mem_filter];refine⟨List.mem_range.2 hj,?_⟩;rw[Ca4 hj];simp only[Option.map_some,Option.getD_some,Qdc,Bool.not_eq_true'];refine⟨by unfold Da6 at hn;simpa using hn,?_⟩
   rw[Qdo];intro e he;cases hb:Region.binds .any e with
   |false=>rfl
   |true =>
    have hd:e.on∈Ja5 (Oa1 ops j):=id3.2 ⟨e,he,hb,rfl⟩;have hlt:=Ec3 hD.rows (Ca4 hj) hd
    have:=ih e.on hlt (by omega)
    unfold Da6 at this;have h2:e.on<listed.size:=by omega
    simp only[Array.getD,h2,dite_true] at this ⊢;simpa using this
  rw[h] at hmem;cases hmem
def yb9(listed:Array Bool):Nat:=(listed.toList.filter λb=>!b).length
omit hD hT hin hlen in
theorem tc8:∀(l:List Bool) (i:Nat),l[i]?=some false->((l.set i true).filter λb=>!b).length+1=(l.filter λb=>!b).length
 |[],i,h=>by simp at h
 |b::l,0,h=>by
  simp at h
  subst h;simp
 |b::l,i+1,h=>by
  have ih:=tc8 l i (by simpa using h)
  simp only[List.set_cons_succ,List.filter_cons];cases b<;>simp[ih]
omit hD hT hin hlen in
theorem jd0{listed:Array Bool}(h:yb9 listed=0)(j:Nat):Da6 listed j:=by
 unfold yb9 at h;unfold Da6;rw[List.length_eq_zero_iff,List.filter_eq_nil_iff] at h
 rcases Qdq j listed.size with hj|hj
 ·have:=h listed[j] (by simp)
  simpa [Array.getD,hj] using this
 ·simp[Array.getD,Nat.not_lt.2 hj]
variable(hpairs:mb0 E (T ops.size).a (ab5 ops.size M ks)=true)(hG0:GOk E F0 w0)(hcalls:∀f,g9 E.P E.G f (E.call f))
include hpairs hG0 hcalls
end
abbrev Sum:=List b7->List b8->DT (b7×List b8)
def ALe(x y:b7):Prop:=∀ρ H F w v,G3 ρ H F w x v->G3 ρ H F w y v
theorem ALe.refl(x:b7):ALe x x:=λ_ _ _ _ _ h=>h
inductive jd1:List b7->List b7->Prop
 |nil:jd1 [] []
 |cons {x y l r} (h:ALe x y) (t:jd1 l r):jd1 (x::l) (y::r)
theorem jd1.refl:∀l,jd1 l l
 |[]=>.nil
 |x::l=>.cons (.refl x) (jd1.refl l)
theorem jd1.length{l r}(h:jd1 l r):l.length=r.length:=by induction h<;>simp_all
theorem jd1.get{l r}(h:jd1 l r):∀(i:Nat) y,r[i]?=some y->∃x,l[i]?=some x/\ALe x y:=by
 induction h with
 |nil=>intro i y hy;simp at hy
 |cons h t ih =>
  intro i y hy;cases i with
  |zero=>simp at hy;subst hy;exact⟨_,rfl,h⟩
  |succ i=>simpa using ih i y (by simpa using hy)
theorem g9.refine {P : Program} {G : Nat → List Value} {f : FuncId} {S S' : Sum} (h : g9 P G f S)
  (hr:∀args blks r,(S' args blks).run=some r->∃bc4,jd1 args bc4/\(S bc4 blks).run=some r):g9 P G f S':=by
 intro args blks r out he W ρ F w args' hH hlen hargs hG;obtain⟨bc4,ha,he2⟩:=hr args blks _ he;refine h bc4 blks r out he2 W ρ F w args' hH (ha.length ▸ hlen) (λi y x' hy hx'=>?_) hG
 obtain⟨x,hx,hle⟩:=ha.get i y hy;exact hle _ _ _ _ _ (hargs i x x' hx hx')
def Lf0(l:List (Nat×Sum)):FuncId->Sum :=
 List.rec (motive:=λ_=>FuncId->Sum) (λ_ _ _=>.fail) (λp _ ih f=>Bool.rec (motive:=λ_=>Sum) (ih f) p.2 (Nat.beq p.1 f)) l
def i9(P:Program)(G:Nat->List Value):List (Nat×Sum)->Prop
 |[]=>True
 |p::l=>g9 P G p.1 p.2/\i9 P G l
theorem Be2{P:Program}{G:Nat->List Value}:∀{l:List (Nat×Sum)},i9 P G l->∀f,g9 P G f (Lf0 l f)
 |[],_,f=>λargs blks r out h=>by cases h
 |(n,S)::l,h,f=>by
  show g9 P G f (Bool.rec (motive:=λ_=>Sum) (Lf0 l f) S (Nat.beq n f))
  cases hb:Nat.beq n f with
  |false=>exact Be2 h.2 f
  |true=>rw[<- Qda hb];exact h.1
inductive PS where
 |pc (c:PC)
 |seq (a b:PS)
 |cond (c:Arg) (x y:PS)
 |block (id:Nat) (c:PS)
 |loop (keep:List Nat) (c:PS)
 |sum (S:St->DT (f8×St))
def Tf6(E:Env)(k:Nat)(c:PS):St->DT (f8×St) :=
 PS.rec (motive:=λ_=>St->DT (f8×St))
  (λc=>S7 E k c)
  (λ_ _ x y s=>(x s).bind λr=>f8.rec (motive:=λ_=>DT (f8×St)) (y r.2) (λid=>.ret (.exit id,r.2)) (.ret (.ret,r.2)) r.1)
  (λc _ _ x y s=>match d7 E s.a c with
   |.v (.bool b)=>.ite b (x s) (y s)
   |_=>.fail)
  (λid _ x s=>(x s).bind λr=>f8.rec (motive:=λ_=>DT (f8×St)) (.ret (.normal,r.2))
   (λid'=>Bool.rec (.ret (.exit id',r.2)) (.ret (.normal,r.2)) (Nat.beq id' id)) (.ret (.ret,r.2)) r.1)
  (λkeep _ x=>dc9 (λs=>tidy k ⟨S9 keep s.a 0,s.H⟩) x E.N)
  (λS=>S) c
def fa2{α:Type}(x y:DT α):Prop:=∀r,x.run=some r->y.run=some r
theorem fa2.refl{α:Type}(x:DT α):fa2 x x:=λ_ h=>h
theorem fa2.bind{α β:Type}{x y:DT α}{f g:α->DT β}(h:fa2 x y)(hf:∀a,fa2 (f a) (g a)):fa2 (x.bind f) (y.bind g):=λr hr=>by
 obtain⟨a,h1,h2⟩:=DT.run_bind_some hr;rw[DT.run_bind,h a h1];exact hf a r h2
theorem fa2.ite{α:Type}{b:Bool}{x y x' y':DT α}(h:fa2 x x')(h':fa2 y y'):fa2 (.ite b x y) (.ite b x' y'):=λr hr=>by
 rw[DT.run_ite] at hr ⊢
 split at hr
 ·next hb=>simpa [hb] using h r hr
 ·next hb=>simpa [hb] using h' r hr
theorem fa2.fail{α:Type}(y:DT α):fa2 .fail y:=λ_ h=>by cases h
theorem Vb2{head:St->DT St}{body body':St->DT (f8×St)}(h:∀s,fa2 (body s) (body' s)):∀n s,fa2 (dc9 head body n s) (dc9 head body' n s)
 |0,s=>.refl _
 |n+1,s=>by
  show fa2 ((head s).bind λs=>(body s).bind _) ((head s).bind λs=>(body' s).bind _)
  refine fa2.bind (.refl _) λs=>(h s).bind λr=>?_
  rcases r with⟨x,s'⟩
  cases x with
  |normal=>exact Vb2 h n s'
  |exit id=>exact .refl _
  |ret=>exact .refl _
inductive ab9 (E:Env) (k:Nat):PS->PC->Prop
 |pc (c:PC):ab9 E k (.pc c) c
 |seq {a b:PS} {a' b':PC} (h:ab9 E k a a') (h':ab9 E k b b'):ab9 E k (.seq a b) (.seq a' b')
 |cond (c:Arg) {a b:PS} {a' b':PC} (h:ab9 E k a a') (h':ab9 E k b b'):ab9 E k (.cond c a b) (.cond c a' b')
 |block (id:Nat) {a:PS} {a':PC} (h:ab9 E k a a'):ab9 E k (.block id a) (.block id a')
 |loop (keep:List Nat) {a:PS} {a':PC} (h:ab9 E k a a'):ab9 E k (.loop keep a) (.loop keep a')
 |sum {S:St->DT (f8×St)} {c:PC} (h:∀s,fa2 (S s) (S7 E k c s)):ab9 E k (.sum S) c
theorem ab9.le{E:Env}{k:Nat}{a:PS}{c:PC}(h:ab9 E k a c):∀s,fa2 (Tf6 E k a s) (S7 E k c s):=by
 induction h with
 |pc c=>exact λs=>.refl _
 |seq h h' ih ih' =>
  intro s;refine (ih s).bind λr=>?_
  rcases r with⟨x,s'⟩
  cases x with
  |normal=>exact ih' s'
  |exit id=>exact .refl _
  |ret=>exact .refl _
 |cond c h h' ih ih' =>
  intro s;show fa2 (match d7 E s.a c with | .v (.bool b)=>_ | _=>_) (match d7 E s.a c with | .v (.bool b)=>_ | _=>_)
  split
  ·exact .ite (ih s) (ih' s)
  ·exact .fail _
 |block id h ih=>exact λs=>(ih s).bind λr=>.refl _
 |loop keep h ih=>exact λs=>Vb2 ih _ s
 |sum h=>exact h
def Vb3(head:St->DT St)(body:St->DT (f8×St))(s:St):DT (f8×St) :=
 (body s).bind λr=>f8.rec (motive:=λ_=>DT (f8×St)) ((head r.2).bind λs=>.ret (.normal,s)) (λid=>.ret (.exit id,r.2)) (.ret (.ret,r.2)) r.1
def yc0(head:St->DT St)(body:St->DT (f8×St))(n:Nat)(s:St):DT (f8×St) :=
 (body s).bind λr=>f8.rec (motive:=λ_=>DT (f8×St)) (dc9 head body n r.2) (λid=>.ret (.exit id,r.2)) (.ret (.ret,r.2)) r.1
theorem qc3{head:St->DT St}{body:St->DT (f8×St)}{n:Nat}{s t:St}{r:f8×St}(h:(head s).run=some t)(h2:(yc0 head body n t).run=some r):(dc9 head body (n+1) s).run=some r:=by
 show ((head s).bind λs=>yc0 head body n s).run=some r
 rw[DT.run_bind,h];exact h2
theorem tf1{head:St->DT St}{body:St->DT (f8×St)}{n:Nat}{s t:St}{r:f8×St}(h:(Vb3 head body s).run=some (.normal,t))(h2:(yc0 head body n t).run=some r):(yc0 head body (n+1) s).run=some r:=by
 obtain⟨⟨x,s1⟩,h3,h4⟩:=DT.run_bind_some h;cases x with
 |normal =>
  obtain⟨t',h5,h6⟩:=DT.run_bind_some h4;cases h6;show ((body s).bind _).run=_;rw[DT.run_bind,h3];exact qc3 h5 h2
 |exit id=>cases h4
 |ret=>cases h4
theorem tf2{head:St->DT St}{body:St->DT (f8×St)}{n:Nat}{s t:St}{x:f8}(h:(Vb3 head body s).run=some (x,t))(hx:x≠.normal):(yc0 head body n s).run=some (x,t):=by
 obtain⟨⟨y,s1⟩,h3,h4⟩:=DT.run_bind_some h;cases y with
 |normal =>
  obtain⟨t',h5,h6⟩:=DT.run_bind_some h4;cases h6;exact absurd rfl hx
 |exit id =>
  show ((body s).bind _).run=_;rw[DT.run_bind,h3];exact h4
 |ret =>
  show ((body s).bind _).run=_;rw[DT.run_bind,h3];exact h4
@[reducible] def hc6(k:Nat)(keep:List Nat)(s:St):DT St:=tidy k ⟨S9 keep s.a 0,s.H⟩
theorem Gd6(E:Env)(k:Nat)(keep:List Nat)(c:PC)(s:St):S7 E k (.loop keep c) s=dc9 (hc6 k keep) (S7 E k c) E.N s:=rfl
inductive Sh where
 |unk
 |int
 |bool
 |tree (es:Nat)
 |ptr (id i c g:Nat)
@[reducible] def sel{α:Type}(c:Bool)(t e:α):α:=Bool.rec (motive:=λ_=>α) e t c
theorem jb1{g a:Int}(h:a>0):(Int.tmod g a).toNat<a.toNat:=by
 have:=Int.tmod_lt_of_pos g h
 omega
@[reducible] def i(n:Int):b7:=.v (.int .i64 n)
@[reducible] def b(x:Bool):b7:=.v (.bool x)
def tf3:b7->Option Int
 |.v (.int .i64 n)=>some n
 |_=>none
theorem tf4{x:b7}{n:Int}(h:tf3 x=some n):x=i n:=by
 unfold tf3 at h
 split at h
 ·cases h;rfl
 ·cases h
abbrev W(n:Int):Int:=IntKind.wrap .i64 n
structure Cod(α:Type) where
 enc:α->b7
 dec:b7->Option α
 grd:b7->Bool
 ok:∀x a,dec x=some a->grd x=true->ALe x (enc a)
def We7:b7->Option Bool
 |.v (.bool n)=>some n
 |_=>none
theorem We8{x:b7}{n:Bool}(h:We7 x=some n):x=b n:=by
 unfold We7 at h
 split at h
 ·cases h;rfl
 ·cases h
theorem ALe.of{x y:b7}(h:x=y):ALe x y:=h ▸ .refl x
def cI:Cod Int:=⟨i,tf3,λ_=>true,λ_ _ h _=>.of (tf4 h)⟩
def cB:Cod Bool:=⟨b,We7,λ_=>true,λ_ _ h _=>.of (We8 h)⟩
theorem ea6.get{F:Fz}{w:World}{es n:Nat}{get get':Nat->List b7}{v:Value}(h:ea6 F w (.tree es n get) v)(he:∀k,k<n->get' k=get k):ea6 F w (.tree es n get') v:=by
 cases h with
 |tree _ _ _ a cap cs hs hcap hes hF hw hr =>
  refine .tree es n get' a cap cs hs hcap (λi hi=>by rw[he i hi];exact hes i hi) hF hw (λi c hi hc=>?_)
  have e:=he i hi;have hc':c<(get i).length:=by rw[<- e];exact hc
  have:=hr i c hi hc'
  have e2:(get' i)[c]=(get i)[c]:=by congr 1
  rw[e2];exact this
 |nil=>exact .nil _ _
theorem ALe.tree{es n:Nat}{get get':Nat->List b7}(he:∀k,k<n->get' k=get k):ALe (.tree es n get) (.tree es n get'):=λρ H F w v h=>.val (.cell (.mem ((Da4 h).get he)))
def g3(x y z:Int):Nat->List b7
 |0=>[i x]
 |1=>[i y]
 |_=>[i z]
def tf5:List b7->Option Int
 |[x]=>tf3 x
 |_=>none
def d3(x:b7):Option (Int×Int×Int):=match x with
 |.tree 1 3 get=>Option.rec (motive:=λ_=>Option (Int×Int×Int)) none (λa=>Option.rec (motive:=λ_=>Option (Int×Int×Int)) none (λb=>Option.rec (motive:=λ_=>Option (Int×Int×Int)) none (λc=>some (a,b,c)) (tf5 (get 2))) (tf5 (get 1))) (tf5 (get 0))
 |_=>none
def d1(x:b7):Option Int:=match x with
 |.tree 1 1 get=>tf5 (get 0)
 |_=>none
structure IL where
 n:Nat
 g:Nat->Int
structure LL where
 a:IL
 b:IL
def onO{α:Type}(x:Option α)(k:α->DT (b7×List b8)):DT (b7×List b8):=Option.rec (motive:=λ_=>DT (b7×List b8)) .fail k x
theorem H5{α:Type}{x:Option α}{k:α->DT (b7×List b8)}{r:b7×List b8}(h:(onO x k).run=some r):∃a,x=some a/\(k a).run=some r:=by
 cases x with
 |none=>cases h
 |some a=>exact⟨a,rfl,h⟩
section
variable{α β γ δ:Type}
def te5(k:DT (b7×List b8)):Sum:=λargs blks=>match args,blks with
 |[],[]=>k
 |_,_=>.fail
def X6(c:Cod α)(k:α->DT (b7×List b8)):Sum:=λargs blks=>match args,blks with
 |[x],[]=>onO (c.dec x) λa=>.guard (c.grd x) (k a)
 |_,_=>.fail
def oa5(c:Cod α)(d:Cod β)(k:α->β->DT (b7×List b8)):Sum:=λargs blks=>match args,blks with
 |[x,y],[]=>onO (c.dec x) λa=>onO (d.dec y) λb=>.guard (c.grd x) (.guard (d.grd y) (k a b))
 |_,_=>.fail
def yc1(c:Cod α)(d:Cod β)(e:Cod γ)(k:α->β->γ->DT (b7×List b8)):Sum:=λargs blks=>match args,blks with
 |[x,y,z],[]=>onO (c.dec x) λa=>onO (d.dec y) λb=>onO (e.dec z) λg=>.guard (c.grd x) (.guard (d.grd y) (.guard (e.grd z) (k a b g)))
 |_,_=>.fail
variable{P:Program}{G:Nat->List Value}{f:FuncId}{R:Sum}{c:Cod α}{d:Cod β}{e:Cod γ}{c4:Cod δ}
theorem g9.le{S':Sum}(h:g9 P G f R)(hr:∀args blks r,(S' args blks).run=some r->(R args blks).run=some r):g9 P G f S' :=
 h.refine λargs blks r hh=>⟨args,.refl _,hr args blks r hh⟩
theorem tf6{k}(hb:g9 P G f R)(h:∀r,k.run=some r->(R [] []).run=some r):g9 P G f (te5 k):=hb.le λargs blks r hr=>by
 unfold te5 at hr
 split at hr
 ·exact h r hr
 ·cases hr
theorem Ib6{k:α->_}(hb:g9 P G f R)(h:∀a r,(k a).run=some r->(R [c.enc a] []).run=some r):g9 P G f (X6 c k):=hb.refine λargs blks r hr=>by
 unfold X6 at hr
 split at hr
 ·obtain⟨a,h1,hr⟩:=H5 hr;obtain⟨g1,hr⟩:=DT.run_guard_some hr;exact⟨_,.cons (c.ok _ a h1 g1) .nil,h a r hr⟩
 ·cases hr
theorem Ia3{k:α->β->_}(hb:g9 P G f R)(h:∀a b r,(k a b).run=some r->(R [c.enc a,d.enc b] []).run=some r):g9 P G f (oa5 c d k):=hb.refine λargs blks r hr=>by
 unfold oa5 at hr
 split at hr
 ·obtain⟨a,h1,hr⟩:=H5 hr;obtain⟨b,h2,hr⟩:=H5 hr;obtain⟨g1,hr⟩:=DT.run_guard_some hr;obtain⟨g2,hr⟩:=DT.run_guard_some hr;exact⟨_,.cons (c.ok _ a h1 g1) (.cons (d.ok _ b h2 g2) .nil),h a b r hr⟩
 ·cases hr
theorem tf7{k:α->β->γ->_}(hb:g9 P G f R)(h:∀a b g r,(k a b g).run=some r->(R [c.enc a,d.enc b,e.enc g] []).run=some r):g9 P G f (yc1 c d e k):=hb.refine λargs blks r hr=>by
 unfold yc1 at hr
 split at hr
 ·obtain⟨a,h1,hr⟩:=H5 hr;obtain⟨b,h2,hr⟩:=H5 hr;obtain⟨g,h3,hr⟩:=H5 hr;obtain⟨g1,hr⟩:=DT.run_guard_some hr;obtain⟨g2,hr⟩:=DT.run_guard_some hr;obtain⟨g3,hr⟩:=DT.run_guard_some hr;exact⟨_,.cons (c.ok _ a h1 g1) (.cons (d.ok _ b h2 g2) (.cons (e.ok _ g h3 g3) .nil)),h a b g r hr⟩
 ·cases hr
end
inductive Stp (σ:Type) where
 |fail
 |next (s:σ)
 |exit (t:Nat)
@[reducible] def hc7{σ α:Type}(f:σ->α)(x:Nat->α)(z:α)(r:Stp σ):α:=Stp.rec (motive:=λ_=>α) z f x r
def lp0{σ:Type}(step:σ->Stp σ)(n:Nat):σ->Nat×σ :=
 Nat.rec (motive:=λ_=>σ->Nat×σ) (λs=>hc7 (λ_=>(0,s)) (λt=>(t,s)) (0,s) (step s))
  (λ_ ih s=>hc7 (λs'=>ih s') (λt=>(t,s)) (0,s) (step s)) n
def lpS:{ f:(σ:Type)->(σ->Stp σ)->Nat->σ->Nat×σ // f=λ_=>lp0 }:=Classical.choice ⟨⟨_,rfl⟩⟩
def rounds:Nat:=18446744073709551615
def lp{σ:Type}(step:σ->Stp σ)(s:σ):Nat×σ:=lpS.1 σ step rounds s
theorem We9{σ:Type}(step:σ->Stp σ)(s:σ):lp step s=lp0 step rounds s:=by
 unfold lp;rw[lpS.2]
theorem ce7{σ:Type}{step:σ->Stp σ}{n:Nat}{s s':σ}(h:step s=.next s'):lp0 step (n+1) s=lp0 step n s':=by
 show hc7 (λs'=>lp0 step n s') _ _ (step s)=_
 rw[h]
theorem jd2{σ:Type}{step:σ->Stp σ}{n t:Nat}{s:σ}(h:step s=.exit t):lp0 step n s=(t,s):=by
 cases n with
 |zero=>show hc7 _ _ _ (step s)=_;rw[h]
 |succ n=>show hc7 _ _ _ (step s)=_;rw[h]
inductive Sk where
 |unk
 |u
 |nil
 |bool
 |int (k:IntKind)
 |lit (k:IntKind) (n:Int)
 |blit (x:Bool)
 |tree (es:Nat)
 |ptr (id i c g:Nat)
 |sl (id g:Nat) (off n:Option Nat)
 |fn (f:Nat)
def slO:b7->Nat
 |.sl _ off _ _=>off
 |_=>0
def slN:b7->Nat
 |.sl _ _ n _=>n
 |_=>0
@[reducible] def oN(o:Option Nat)(x:Nat):Nat:=Option.rec (motive:=λ_=>Nat) x (λy=>y) o
@[reducible] def okN(o:Option Nat)(x:Nat):Bool:=Option.rec (motive:=λ_=>Bool) true (λy=>Nat.beq y x) o
def Lf1:Sk->b7->Bool
 |.unk,.unk=>true
 |.u,.v (.tuple a)=>List.rec (motive:=λ_=>Bool) true (λ_ _ _=>false) a.toList
 |.nil,.v (.slice none 0 0)=>true
 |.bool,.v (.bool _)=>true
 |.int k,.v (.int k' _)=>decide (k=k')
 |.lit k n,.v (.int k' m)=>Bool.and (decide (k=k')) (decide (n=m))
 |.blit x,.v (.bool y)=>Bool.rec (!y) y x
 |.tree es,.tree es' _ _=>Nat.beq es es'
 |.ptr id i c g,.ptr id' i' c' g'=>Bool.and (Bool.and (Nat.beq id id') (Nat.beq i i')) (Bool.and (Nat.beq c c') (Nat.beq g g'))
 |.sl id g off n,.sl id' off' n' g'=>Bool.and (Bool.and (Nat.beq id id') (Nat.beq g g')) (Bool.and (okN off off') (okN n n'))
 |.fn f,.fn f' []=>Nat.beq f f'
 |_,_=>false
def Tf7:Sk->b7->b7
 |.unk,_=>.unk
 |.u,_=>.v (.tuple #[])
 |.nil,_=>.v (.slice none 0 0)
 |.bool,x=>.v (.bool (toB x))
 |.int k,x=>.v (.int k (toI x))
 |.lit k n,_=>.v (.int k n)
 |.blit y,_=>.v (.bool y)
 |.tree es,x=>.tree es (toN x) (toG x)
 |.ptr id i c g,_=>.ptr id i c g
 |.sl id g off n,x=>.sl id (oN off (slO x)) (oN n (slN x)) g
 |.fn f,_=>.fn f []
theorem Ef3{o:Option Nat}{x:Nat}(h:okN o x=true):oN o x=x:=by
 cases o with
 |none=>rfl
 |some y=>exact Qda h
theorem tf8{k:Sk}{x:b7}(h:Lf1 k x=true):x=Tf7 k x:=by
 unfold Lf1 at h
 split at h<;>first | rfl | (cases h;done) | skip
 ·rename_i a;obtain⟨l⟩:=a;cases l with
  |nil=>rfl
  |cons=>cases h
 ·rw[of_decide_eq_true h];rfl
 ·simp only[Qdc,decide_eq_true_eq] at h;rw[h.1,h.2];rfl
 ·rename_i a c;cases a<;>cases c<;>first | rfl | cases h
 ·rw[Qda h];rfl
 ·simp only[Qdc] at h;obtain⟨⟨h1,h2⟩,h3,h4⟩:=h;rw[Qda h1,Qda h2,Qda h3,Qda h4];rfl
 ·rename_i id g off n id' off' n' g';simp only[Qdc] at h;obtain⟨⟨h1,h2⟩,h3,h4⟩:=h;rw[<- Qda h1,<- Qda h2];show b7.sl id off' n' g=.sl id (oN off off') (oN n n') g;rw[Ef3 h3,Ef3 h4]
 ·rw[Qda h];rfl
inductive Sl where
 |s (k:Sk)
 |agg (l:List Sk)
 |tup (l:List Sk)
 |fn (f:Nat) (l:List Sk)
def cellsOf:b7->List b7
 |.agg l=>l
 |.tup l=>l
 |.fn _ l=>l
 |_=>[]
@[reducible] def hdR(l:List (List b7)):List b7:=List.rec (motive:=λ_=>List b7) [] (λx _ _=>x) l
@[reducible] def tlR(l:List (List b7)):List (List b7):=List.rec (motive:=λ_=>List (List b7)) [] (λ_ r _=>r) l
structure Bk where
 et:Nat
 es:Nat
 own:Bool
 rows:Option (List (List Sk))
@[reducible] def eqB(a c:Bool):Bool:=Bool.rec (!c) c a
@[reducible] def hdB(l:List b8):List (List b7):=List.rec (motive:=λ_=>List (List b7)) [] (λx _ _=>x.elems) l
@[reducible] def tlB(l:List b8):List b8:=List.rec (motive:=λ_=>List b8) [] (λ_ r _=>r) l
inductive bb0 {α:Type} (P:α->Prop):List α->Prop
 |nil:bb0 P []
 |cons {x:α} {l:List α} (h:P x) (t:bb0 P l):bb0 P (x::l)
theorem bb0.mem{α:Type}{P:α->Prop}{l:List α}(h:bb0 P l):∀x,x∈l->P x:=by
 induction h with
 |nil=>intro x h;cases h
 |cons h t ih =>
  intro x hx;cases hx with
  |head=>exact h
  |tail _ hx=>exact ih x hx
structure Alt(π σ:Type) where
 sh:List Sl
 bl:List Bk
 rd:List b7->List b8->π×σ
def ra(n:Nat)(l:List b7):List b7:=Nat.rec (motive:=λ_=>List b7) l (λ_ ih=>.unk::ih) n
def Lf2(k:Nat)(res:List Mc5)(s:St):DT (b7×List b8) :=
 match nb7 (rb8 s.a s.H) res with
 |some l=>fc6 k s.H (Lb5 l)
 |none=>.fail
def cut(k:Nat)(res:List Mc5)(r:f8×St):DT (f8×St) :=
 f8.rec (motive:=λ_=>DT (f8×St)) (.ret (.normal,r.2)) (λid=>.ret (.exit id,r.2)) ((Lf2 k res r.2).bind λq=>.ret (.ret,⟨[q.1],q.2⟩)) r.1
def Be3(E:Env)(k:Nat)(res:List Mc5)(c:PS):St->DT (f8×St) :=
 PS.rec (motive:=λ_=>St->DT (f8×St))
  (λc s=>(S7 E k c s).bind (cut k res))
  (λ_ _ x y s=>(x s).bind λr=>f8.rec (motive:=λ_=>DT (f8×St)) (y r.2) (λid=>.ret (.exit id,r.2)) (.ret (.ret,r.2)) r.1)
  (λc _ _ x y s=>match d7 E s.a c with
   |.v (.bool b)=>.ite b (x s) (y s)
   |_=>.fail)
  (λid _ x s=>(x s).bind λr=>f8.rec (motive:=λ_=>DT (f8×St)) (.ret (.normal,r.2))
   (λid'=>Bool.rec (.ret (.exit id',r.2)) (.ret (.normal,r.2)) (Nat.beq id' id)) (.ret (.ret,r.2)) r.1)
  (λkeep _ x=>dc9 (λs=>tidy k ⟨S9 keep s.a 0,s.H⟩) x E.N)
  (λS=>S) c
section
variable{k:Nat}{res:List Mc5}
inductive FR (k:Nat) (res:List Mc5):f8×St->f8×St->Prop
 |same (x:f8) (s:St) (h:x≠.ret):FR k res (x,s) (x,s)
 |ret (s:St) (q:b7×List b8) (h:(Lf2 k res s).run=some q):FR k res (.ret,⟨[q.1],q.2⟩) (.ret,s)
def la2(k:Nat)(res:List Mc5)(x y:DT (f8×St)):Prop:=∀r,x.run=some r->∃r',y.run=some r'/\FR k res r r'
theorem la2.bind{x y:DT (f8×St)}{f g:f8×St->DT (f8×St)}(h:la2 k res x y)(hf:∀r r',FR k res r r'->la2 k res (f r) (g r')):la2 k res (x.bind f) (y.bind g):=λr hr=>by
 obtain⟨a,h1,h2⟩:=DT.run_bind_some hr;obtain⟨a',h3,h4⟩:=h a h1;obtain⟨r',h5,h6⟩:=hf a a' h4 r h2;exact⟨r',by rw[DT.run_bind,h3];exact h5,h6⟩
theorem la2.ite{b:Bool}{x y x' y':DT (f8×St)}(h:la2 k res x x')(h':la2 k res y y'):la2 k res (.ite b x y) (.ite b x' y'):=λr hr=>by
 rw[DT.run_ite] at hr;rw[DT.run_ite]
 split at hr
 ·next hb=>simpa [hb] using h r hr
 ·next hb=>simpa [hb] using h' r hr
theorem la2.one{r r':f8×St}(h:FR k res r r'):la2 k res (.ret r) (.ret r'):=λa ha=>by
 cases ha;exact⟨r',rfl,h⟩
theorem la2.cut(x:DT (f8×St)):la2 k res (x.bind (cut k res)) x:=λr hr=>by
 obtain⟨⟨a,s⟩,h1,h2⟩:=DT.run_bind_some hr;refine⟨(a,s),h1,?_⟩;cases a with
 |normal=>cases h2;exact .same _ _ (λh=>by cases h)
 |exit id=>cases h2;exact .same _ _ (λh=>by cases h)
 |ret =>
  obtain⟨q,h3,h4⟩:=DT.run_bind_some h2;cases h4;exact .ret s q h3
theorem hc8{head:St->DT St}{body body':St->DT (f8×St)}(h:∀s,la2 k res (body s) (body' s)):∀n s,la2 k res (dc9 head body n s) (dc9 head body' n s)
 |0,s=>λr hr=>by cases hr
 |n+1,s=>by
  intro r hr;obtain⟨t,h1,h2⟩:=DT.run_bind_some hr
  have:la2 k res ((body t).bind λr=>f8.rec (motive:=λ_=>DT (f8×St)) (dc9 head body n r.2) (λid=>.ret (.exit id,r.2)) (.ret (.ret,r.2)) r.1) ((body' t).bind λr=>f8.rec (motive:=λ_=>DT (f8×St)) (dc9 head body' n r.2) (λid=>.ret (.exit id,r.2)) (.ret (.ret,r.2)) r.1):=by
   refine (h t).bind λa a' ha=>?_
   cases ha with
   |same x s hx =>
    cases x with
    |normal=>exact hc8 h n s
    |exit id=>exact .one (.same _ _ hx)
    |ret=>exact absurd rfl hx
   |ret s q hq=>exact .one (.ret s q hq)
  obtain⟨r',h3,h4⟩:=this r h2;refine⟨r',?_,h4⟩;show ((head s).bind λs=>(body' s).bind _).run=_
  rw[DT.run_bind,h1];exact h3
inductive ta6 (E:Env) (k:Nat) (res:List Mc5):PS->PC->Prop
 |pc (c:PC):ta6 E k res (.pc c) c
 |seq {a b:PS} {a' b':PC} (h:ta6 E k res a a') (h':ta6 E k res b b'):ta6 E k res (.seq a b) (.seq a' b')
 |cond (c:Arg) {a b:PS} {a' b':PC} (h:ta6 E k res a a') (h':ta6 E k res b b'):ta6 E k res (.cond c a b) (.cond c a' b')
 |block (id:Nat) {a:PS} {a':PC} (h:ta6 E k res a a'):ta6 E k res (.block id a) (.block id a')
 |loop (keep:List Nat) {a:PS} {a':PC} (h:ta6 E k res a a'):ta6 E k res (.loop keep a) (.loop keep a')
 |sum {S:St->DT (f8×St)} {c:PC} (h:∀s,la2 k res (S s) (S7 E k c s)):ta6 E k res (.sum S) c
theorem ta6.le{E:Env}{a:PS}{c:PC}(h:ta6 E k res a c):∀s,la2 k res (Be3 E k res a s) (S7 E k c s):=by
 induction h with
 |pc c=>exact λs=>.cut _
 |seq h h' ih ih' =>
  intro s;refine (ih s).bind λr r' hr=>?_
  cases hr with
  |same x s hx =>
   cases x with
   |normal=>exact ih' s
   |exit id=>exact .one (.same _ _ hx)
   |ret=>exact absurd rfl hx
  |ret s q hq=>exact .one (.ret s q hq)
 |cond c h h' ih ih' =>
  intro s;show la2 k res (match d7 E s.a c with | .v (.bool b)=>_ | _=>_) (match d7 E s.a c with | .v (.bool b)=>_ | _=>_)
  split
  ·exact .ite (ih s) (ih' s)
  ·exact λr hr=>by cases hr
 |block id h ih =>
  intro s;refine (ih s).bind λr r' hr=>?_
  cases hr with
  |same x s hx =>
   cases x with
   |normal=>exact .one (.same _ _ λh=>by cases h)
   |exit id' =>
    show la2 k res (Bool.rec (.ret (.exit id',s)) (.ret (.normal,s)) (Nat.beq id' id)) (Bool.rec (.ret (.exit id',s)) (.ret (.normal,s)) (Nat.beq id' id));cases Nat.beq id' id with
    |false=>exact .one (.same _ _ hx)
    |true=>exact .one (.same _ _ λh=>by cases h)
   |ret=>exact absurd rfl hx
  |ret s q hq=>exact .one (.ret s q hq)
 |loop keep h ih=>exact λs=>hc8 ih _ s
 |sum h=>exact h
end
def Tf8(E:Env)(fn:PFn)(body:PS)(args:List b7)(blks:List b8):DT (b7×List b8) :=
 (Be3 E (len blks) fn.res body ⟨app args (List.replicate (fn.ntmps-len args) (.v (.tuple #[]))),blks⟩).bind λr =>
  f8.rec (motive:=λ_=>DT (b7×List b8)) (Lf2 (len blks) fn.res r.2) (λ_=>.fail) (.ret (hdA r.2.a,r.2.H)) r.1
theorem te6{E:Env}{fn:PFn}{body:PS}{args:List b7}{blks:List b8}(h:ta6 E (len blks) fn.res body fn.body):fa2 (Tf8 E fn body args blks) (Pb4 E fn args blks):=λr hr=>by
 obtain⟨a,h1,h2⟩:=DT.run_bind_some hr;obtain⟨a',h3,h4⟩:=h.le _ a h1;show ((S7 E (len blks) fn.body _).bind _).run=_;rw[DT.run_bind,h3];cases h4 with
 |same x s hx =>
  cases x with
  |normal=>exact h2
  |exit id=>cases h2
  |ret=>exact absurd rfl hx
 |ret s q hq =>
  cases h2;exact hq
theorem ALe.nilTree(es:Nat)(get:Nat->List b7):ALe (.v (.slice none 0 0)) (.tree es 0 get):=λρ H F w v h=>by
 have:=ka2 h
 subst this;exact .val (.cell (.mem (.nil es get)))
theorem ALe.emptyTree(es:Nat)(get:Nat->List b7)(a:Addr)(c:Nat):ALe (.v (.slice (some a) 0 c)) (.tree es 0 get):=λρ H F w v h=>by
 have:=ka2 h
 subst this;exact .val (.cell (.mem (.tree es 0 get a c (λ_ _=>.tuple #[]) (λh=>absurd h (by omega)) (Nat.zero_le _) (λi h=>absurd h (by omega)) (λi c h=>absurd h (by omega)) (λi c h=>absurd h (by omega)) (λi c h=>absurd h (by omega)))))
section
variable{α:Type}{row:α->List b7}{isr:List b7->Bool}{rd:List b7->α}{d:α}
theorem Xe0{β:Type}(f:α->β)(l:List α):len (p5 f l)=l.length:=by rw[o0,p6,List.length_map]
theorem ce8(row:α->List b7)(d:α){l:List α}{k:Nat}(h:k<l.length):l9 (p5 row l) k=row (l.getD k d):=by
 unfold l9;rw[C5,p6,Qdi,Qdf,Qdb h];rfl
theorem Xe1(row:α->List b7)(l r:List α):app (p5 row l) (p5 row r)=p5 row (l++r):=by
 rw[G9,p6,p6,p6,List.map_append]
theorem te7(row:α->List b7)(l:List α)(k:Nat)(x:α):setAt (p5 row l) k (row x)=p5 row (l.set k x):=by
 rw[F5,p6,p6,List.map_set]
end
section
variable{α β γ δ ε ζ:Type}
def Le2(c:Cod α)(d:Cod β)(e:Cod γ)(f:Cod δ)(c5:Cod ε)(c6:Cod ζ)(k:α->β->γ->δ->ε->ζ->DT (b7×List b8)):Sum:=λargs blks=>match args,blks with
 |[x,y,z,w,v,u],[]=>onO (c.dec x) λa=>onO (d.dec y) λb=>onO (e.dec z) λg=>onO (f.dec w) λj=>onO (c5.dec v) λm=>onO (c6.dec u) λn=>.guard (c.grd x) (.guard (d.grd y) (.guard (e.grd z) (.guard (f.grd w) (.guard (c5.grd v) (.guard (c6.grd u) (k a b g j m n))))))
 |_,_=>.fail
variable{P:Program}{G:Nat->List Value}{f:FuncId}{R:Sum}{c:Cod α}{d:Cod β}{e:Cod γ}{c4:Cod δ}{c5:Cod ε}{c6:Cod ζ}
theorem tf9{k:α->β->γ->δ->ε->ζ->_}(hb:g9 P G f R)(h:∀a b g j m n r,(k a b g j m n).run=some r->(R [c.enc a,d.enc b,e.enc g,c4.enc j,c5.enc m,c6.enc n] []).run=some r):g9 P G f (Le2 c d e c4 c5 c6 k):=hb.refine λargs blks r hr=>by
 unfold Le2 at hr
 split at hr
 ·obtain⟨a,h1,hr⟩:=H5 hr;obtain⟨b,h2,hr⟩:=H5 hr;obtain⟨g,h3,hr⟩:=H5 hr;obtain⟨j,h4,hr⟩:=H5 hr;obtain⟨m,h5,hr⟩:=H5 hr;obtain⟨n,h6,hr⟩:=H5 hr;obtain⟨g1,hr⟩:=DT.run_guard_some hr;obtain⟨g2,hr⟩:=DT.run_guard_some hr;obtain⟨g3,hr⟩:=DT.run_guard_some hr;obtain⟨g4,hr⟩:=DT.run_guard_some hr;obtain⟨g5,hr⟩:=DT.run_guard_some hr;obtain⟨g6,hr⟩:=DT.run_guard_some hr;exact⟨_,.cons (c.ok _ a h1 g1) (.cons (d.ok _ b h2 g2) (.cons (e.ok _ g h3 g3) (.cons (c4.ok _ j h4 g4) (.cons (c5.ok _ m h5 g5) (.cons (c6.ok _ n h6 g6) .nil))))),h a b g j m n r hr⟩
 ·cases hr
end
section
variable{W:Nat->Prop}{ρ:Rho}{H H':List b8}{F:Fz}{w:World}
def Ia4(H:List b8):b7->Option (b7×List b8)
 |.agg cs=>match freezeCells H cs with
  |some (zs,H')=>some (.agg zs,H')
  |none=>none
 |x=>freezeCell H x
theorem jd3 (hH : C6 W ρ H F w) {y z : b7} {y' : Value} (hy : la1 ρ H F w y y') (he : Ia4 H y = some (z, H')) :
  ∃F',Adv W ρ H F w ρ H' F' w/\C6 W ρ H' F' w/\∀ρ2 H2 F2,(∀b o,F' b o->F2 b o)->la1 ρ2 H2 F2 w z y':=by
 have cell:∀{y:b7},ja0 ρ H F w y y'->freezeCell H y=some (z,H')->∃F',Adv W ρ H F w ρ H' F' w/\C6 W ρ H' F' w/\∀ρ2 H2 F2,(∀b o,F' b o->F2 b o)->la1 ρ2 H2 F2 w z y':=λ{y} hy he=>by
  obtain⟨F',h1,h2,h3,_⟩:=tc4 hH hy he;exact⟨F',h1,h2,λρ2 H2 F2 hF=>.cell (.mem (h3.adv hF λ_ _ _=>rfl))⟩
 cases y with
 |agg cs =>
  simp only[Ia4] at he;cases hf:freezeCells H cs with
  |none=>rw[hf] at he;cases he
  |some q =>
   obtain⟨zs,H1⟩:=q;rw[hf] at he;have he:some (b7.agg zs,H1)=some (z,H'):=he;injection he with he;injection he with e1 e2
   subst e1 e2;obtain⟨vs,rfl,hl,hr⟩:=Na8 (.val hy);obtain⟨F',h1,h2,h3,h4,_⟩:=zb9 hH (vs:=vs.toList) (by simpa using hl) (λi y y' h h'=>hr i y y' h (by simpa using h')) hf
   refine⟨F',h1,h2,λρ2 H2 F2 hF=>.agg _ _ (by simpa [h3] using hl) λi x x' hx hx'=>.mem ((h4 i x x' hx (by simpa using hx')).adv hF λ_ _ _=>rfl)⟩
 |v u=>cases hy with | cell h=>exact cell h he
 |tree es n get=>cases hy with | cell h=>exact cell h he
 |sl id off n g=>cases hy with | cell h=>exact cell h he
 |ptr id i c g=>cases he
 |tptr cs=>cases he
 |unk=>cases he
 |tup l=>cases he
 |fn f caps =>
  cases caps with
  |cons=>cases he
  |nil =>
   cases hy with
   |cell h=>exact cell h he
   |fn f caps vs hl h =>
    injection he with he;injection he with e1 e2
    subst e1 e2
    have:vs=#[]:=by
     have:vs.size=0:=by simpa using hl.symm
     exact Array.eq_empty_of_size_eq_zero this
    subst this;rw[yb5];exact⟨F,.refl,hH,λρ2 H2 F2 hF=>.cell (.mem (.fn f))⟩
def nb9(H:List b8):List b7->Option (List b7×List b8)
 |[]=>some ([],H)
 |x::r=>match Ia4 H x with
  |some (y,H1)=>match nb9 H1 r with
   |some (l,H2)=>some (y::l,H2)
   |none=>none
  |none=>none
theorem Uc6 : ∀ {ys zs : List b7} {vs : List Value} {H H' : List b8} {F : Fz}, C6 W ρ H F w → ys.length = vs.length → (∀ (i : Nat) y y', ys[i]? = some y → vs[i]? = some y' → la1 ρ H F w y y') → nb9 H ys = some (zs, H') →
  ∃F',Adv W ρ H F w ρ H' F' w/\C6 W ρ H' F' w/\zs.length=ys.length/\∀(i:Nat) z y',zs[i]?=some z->vs[i]?=some y'->∀ρ2 H2 F2,(∀b o,F' b o->F2 b o)->la1 ρ2 H2 F2 w z y'
 |[],zs,vs,H,H',F,hH,hl,hy,he=>by
  injection he with he;injection he with e1 e2
  subst e1 e2;exact⟨F,.refl,hH,rfl,λi z y' h=>by simp at h⟩
 |y::r,zs,[],H,H',F,hH,hl,hy,he=>by simp at hl
 |y::r,zs,v::vs,H,H',F,hH,hl,hy,he=>by
  simp only[nb9] at he;cases h1:Ia4 H y with
  |none=>rw[h1] at he;cases he
  |some q =>
  obtain⟨z,H1⟩:=q;rw[h1] at he;cases h2:nb9 H1 r with
  |none=>simp only[h2] at he;cases he
  |some q2 =>
  obtain⟨zs2,H2⟩:=q2;simp only[h2] at he;injection he with he;injection he with e1 e2
  subst e1 e2;obtain⟨F1,a1,a2,a3⟩:=jd3 hH (hy 0 y v rfl rfl) h1;obtain⟨F2,b1,b2,b3,b4⟩:=Uc6 (ys:=r) (vs:=vs) a2 (by simpa using hl) (λi y y' hy1 hy2=>(hy (i+1) y y' (by simpa using hy1) (by simpa using hy2)).adv a1) h2
  refine⟨F2,a1.trans b1,b2,by simp[b3],λi z' y' hz hy'=>?_⟩
  cases i with
  |zero =>
   simp at hz hy'
   subst hz hy';exact λρ3 H3 F3 hF=>a3 ρ3 H3 F3 λb o hb=>hF b o (b1.more b o hb)
  |succ i=>exact b4 i z' y' (by simpa using hz) (by simpa using hy')
def yc2(H:List b8):b7->Option b7
 |.tup l=>match nb9 H l with
  |some (zs,_)=>some (.tup zs)
  |none=>none
 |x=>match Ia4 H x with
  |some (z,_)=>some z
  |none=>none
theorem C6.less(hH:C6 W ρ H F w):C6 W ρ [] F w:=⟨λid b h=>by simp at h,λid id' b b' h=>by simp at h,hH.frz,hH.new⟩
theorem Adv.less{ρ':Rho}{F':Fz}{w':World}(h:Adv W ρ [] F w ρ' H' F' w'):Adv W ρ [] F w ρ' [] F' w' :=
 ⟨h.ext,λid b hb=>by simp at hb,h.more,h.new,λid b hb=>by simp at hb⟩
theorem Le3{out:List b8}{x z:b7}{x':Value}{w':World}(hp:R5 W ρ [] F w x out x' w')(he:yc2 out x=some z):R5 W ρ [] F w z [] x' w':=by
 obtain⟨ρ',F',h1,h2,h3⟩:=hp;have one:∀{y:b7},la1 ρ' out F' w' y x'->(match Ia4 out y with | some (z,_)=>some z | none=>none)=some z->R5 W ρ [] F w z [] x' w':=λ{y} hy he=>by
  cases hf:Ia4 out y with
  |none=>rw[hf] at he;cases he
  |some q =>
   obtain⟨z1,H1⟩:=q;rw[hf] at he;have he:some z1=some z:=he;injection he with he;subst he;obtain⟨F2,a1,a2,a3⟩:=jd3 h2 hy hf;exact⟨ρ',F2,(h1.trans a1).less,a2.less,.val (a3 _ _ _ λ_ _ h=>h)⟩
 cases h3 with
 |val h =>
  cases x with
  |tup l=>cases h with | cell h=>cases h with | mem h=>cases h
  |_=>exact one h he
 |tup xs vs hl h =>
  simp only[yc2] at he;cases hf:nb9 out xs with
  |none=>rw[hf] at he;cases he
  |some q =>
   obtain⟨zs,H1⟩:=q;rw[hf] at he;have he:some (b7.tup zs)=some z:=he;injection he with he;subst he;obtain⟨F2,a1,a2,a3,a4⟩:=Uc6 (vs:=vs.toList) h2 (by simpa using hl) (λi y y' hy hy'=>h i y y' hy (by simpa using hy')) hf
   exact⟨ρ',F2,(h1.trans a1).less,a2.less,.tup _ _ (by simpa [a3] using hl) λi x x' hx hx'=>a4 i x x' hx (by simpa using hx') _ _ _ λ_ _ h=>h⟩
theorem R5.le{out:List b8}{x y:b7}{x':Value}{w':World}(hp:R5 W ρ H F w x out x' w')(h:ALe x y):R5 W ρ H F w y out x' w':=by
 obtain⟨ρ',F',h1,h2,h3⟩:=hp;exact⟨ρ',F',h1,h2,h _ _ _ _ _ h3⟩
end
def jd4(x:b7)(out:List b8)(y:b7):Prop:=∃z,yc2 out x=some z/\ALe z y
theorem g9.conv {P : Program} {G : Nat → List Value} {f : FuncId} {S S' : Sum} (h : g9 P G f S)
  (hr:∀args blks y out,(S' args blks).run=some (y,out)->blks=[]/\out=[]/\∃x o,(S args []).run=some (x,o)/\jd4 x o y):g9 P G f S':=by
 intro args blks y out he W ρ F w args' hH hlen hargs hG;obtain⟨rfl,rfl,x,o,h1,z,h2,h3⟩:=hr args blks y out he;obtain⟨h4,h5⟩:=h args [] x o h1 W ρ F w args' hH hlen hargs hG;exact⟨h4,h5.mono λe w' ⟨r',h6,h7⟩=>⟨r',h6,(Le3 h7 h2).le h3⟩⟩
section
variable{α β γ:Type}{P:Program}{G:Nat->List Value}{f:FuncId}{c:Cod α}{d:Cod β}{e:Cod γ}
theorem Le4{k k':DT (b7×List b8)}(h:g9 P G f (te5 k))(hk:∀y out,k'.run=some (y,out)->out=[]/\∃x o,k.run=some (x,o)/\jd4 x o y):g9 P G f (te5 k'):=h.conv λargs blks y out hr=>by
 unfold te5 at hr
 split at hr
 ·obtain⟨e1,e2⟩:=hk y out hr;exact⟨rfl,e1,e2⟩
 ·cases hr
theorem Le5{k k':α->DT (b7×List b8)}(h:g9 P G f (X6 c k))(hk:∀a y out,(k' a).run=some (y,out)->out=[]/\∃x o,(k a).run=some (x,o)/\jd4 x o y):g9 P G f (X6 c k'):=h.conv λargs blks y out hr=>by
 unfold X6 at hr
 split at hr
 ·obtain⟨a,h1,hr⟩:=H5 hr;obtain⟨g1,hr⟩:=DT.run_guard_some hr;obtain⟨e1,x,o,e2,e3⟩:=hk a y out hr;refine⟨rfl,e1,x,o,?_,e3⟩;simp only[X6,h1,onO,g1];exact e2
 ·cases hr
theorem Le6{k k':α->β->DT (b7×List b8)}(h:g9 P G f (oa5 c d k))(hk:∀a b y out,(k' a b).run=some (y,out)->out=[]/\∃x o,(k a b).run=some (x,o)/\jd4 x o y):g9 P G f (oa5 c d k'):=h.conv λargs blks y out hr=>by
 unfold oa5 at hr
 split at hr
 ·obtain⟨a,h1,hr⟩:=H5 hr;obtain⟨b,h2,hr⟩:=H5 hr;obtain⟨g1,hr⟩:=DT.run_guard_some hr;obtain⟨g2,hr⟩:=DT.run_guard_some hr;obtain⟨e1,x,o,e2,e3⟩:=hk a b y out hr;refine⟨rfl,e1,x,o,?_,e3⟩;simp only[oa5,h1,h2,onO,g1,g2];exact e2
 ·cases hr
theorem Le7{k k':α->β->γ->DT (b7×List b8)}(h:g9 P G f (yc1 c d e k))(hk:∀a b g y out,(k' a b g).run=some (y,out)->out=[]/\∃x o,(k a b g).run=some (x,o)/\jd4 x o y):g9 P G f (yc1 c d e k'):=h.conv λargs blks y out hr=>by
 unfold yc1 at hr
 split at hr
 ·obtain⟨a,h1,hr⟩:=H5 hr;obtain⟨b,h2,hr⟩:=H5 hr;obtain⟨g,h3,hr⟩:=H5 hr;obtain⟨g1,hr⟩:=DT.run_guard_some hr;obtain⟨g2,hr⟩:=DT.run_guard_some hr;obtain⟨g3,hr⟩:=DT.run_guard_some hr;obtain⟨e1,x,o,e2,e3⟩:=hk a b g y out hr;refine⟨rfl,e1,x,o,?_,e3⟩;simp only[yc1,h1,h2,h3,onO,g1,g2,g3];exact e2
 ·cases hr
end
theorem ALe.tup{xs ys:List b7}(hl:xs.length=ys.length)(h:∀(i:Nat) x y,xs[i]?=some x->ys[i]?=some y->∀ρ H F w v,la1 ρ H F w x v->la1 ρ H F w y v):ALe (.tup xs) (.tup ys):=λρ H F w v hv=>by
 cases hv with
 |val hv=>cases hv with | cell hv=>cases hv with | mem hv=>cases hv
 |tup _ vs hl2 hv =>
  refine .tup _ _ (hl ▸ hl2) λi y v' hy hv'=>?_
  have hi:i<xs.length:=by
   have:=(Qdd.1 hy).1
   omega
  exact h i _ y (Qdb hi) hy ρ H F w v' (hv i _ v' (Qdb hi) hv')
theorem la1.treeLe{es n:Nat}{get get':Nat->List b7}(he:∀k,k<n->get' k=get k){ρ:Rho}{H:List b8}{F:Fz}{w:World}{v:Value}(h:la1 ρ H F w (.tree es n get) v):la1 ρ H F w (.tree es n get') v :=
 .cell (.mem ((Da4 (.val h)).get he))
end Go.Ev
namespace Go.Ev.L
open Go Go.Ev
def cl(p:Prop):Bool:=@decide p (Classical.propDecidable p)
theorem uf0{p:Prop}(h:p):cl p=true:=@decide_eq_true _ (Classical.propDecidable p) h
theorem Tf9{p:Prop}(h:cl p=true):p:=@of_decide_eq_true _ (Classical.propDecidable p) h
def sl{α:Type}(c:Bool)(t e:α):α:=Bool.rec (motive:=λ_=>α) e t c
theorem g7{α:Type}(t e:α):sl true t e=t:=rfl
theorem J7{α:Type}(t e:α):sl false t e=e:=rfl
theorem Ab6{α:Type}(c:Bool)(t e:α):sl c t e=if c=true then t else e:=by cases c<;>rfl
theorem l6{α β:Type}{f:α->β}{c:Bool}{A B:α}{a b:β}(hA:f A=a)(hB:f B=b):f (sl c A B)=sl c a b:=by cases c<;>assumption
structure CLe(x y:b7):Prop where
 m:∀F w v,ea6 F w x v->ea6 F w y v
 c:∀ρ H F w v,ja0 ρ H F w x v->ja0 ρ H F w y v
theorem CLe.refl(x:b7):CLe x x:=⟨λ_ _ _ h=>h,λ_ _ _ _ _ h=>h⟩
theorem CLe.of{x y:b7}(h:x=y):CLe x y:=h ▸ .refl x
inductive sc2:List b7->List b7->Prop
 |nil:sc2 [] []
 |cons {x y l r} (h:CLe x y) (t:sc2 l r):sc2 (x::l) (y::r)
theorem sc2.refl:∀l,sc2 l l
 |[]=>.nil
 |x::l=>.cons (.refl x) (sc2.refl l)
theorem sc2.of{l r:List b7}(h:l=r):sc2 l r:=h ▸ .refl l
theorem sc2.length{l r}(h:sc2 l r):l.length=r.length:=by induction h<;>simp_all
theorem sc2.get{l r}(h:sc2 l r):∀(i:Nat) y,r[i]?=some y->∃x,l[i]?=some x/\CLe x y:=by
 induction h with
 |nil=>intro i y hy;simp at hy
 |cons h t ih =>
  intro i y hy;cases i with
  |zero=>simp at hy;subst hy;exact⟨_,rfl,h⟩
  |succ i=>simpa using ih i y (by simpa using hy)
theorem Xe2{F:Fz}{w:World}{es n:Nat}{get get':Nat->List b7}{v:Value}(h:ea6 F w (.tree es n get) v)(he:∀k,k<n->sc2 (get k) (get' k)):ea6 F w (.tree es n get') v:=by
 cases h with
 |tree _ _ _ a cap cs hs hcap hes hF hw hr =>
  refine .tree es n get' a cap cs hs hcap (λi hi=>by rw[<- (he i hi).length];exact hes i hi) hF hw (λi c hi hc=>?_)
  obtain⟨x,hx,hle⟩:=(he i hi).get c _ (Qdb hc);have hc':c<(get i).length:=(Qdd.1 hx).1
  have:=hr i c hi hc'
  have e:(get i)[c]=x:=by
   have:=(Qdd.1 hx).2
   exact this
  rw[e] at this;exact hle.m _ _ _ this
 |nil=>exact .nil _ _
theorem CLe.tree{es n:Nat}{get get':Nat->List b7}(he:∀k,k<n->sc2 (get k) (get' k)):CLe (.tree es n get) (.tree es n get') :=
 ⟨λ_ _ _ h=>Xe2 h he,λ_ _ _ _ _ h=>by cases h with | mem h=>exact .mem (Xe2 h he)⟩
theorem CLe.nilTree(es:Nat)(get:Nat->List b7):CLe (.v (.slice none 0 0)) (.tree es 0 get) :=
 ⟨λ_ _ _ h=>by cases h;exact .nil es get,λ_ _ _ _ _ h=>by cases h with
  |mem h=>cases h;exact .mem (.nil es get)
  |v=>exact .mem (.nil es get)⟩
theorem CLe.ale{x y:b7}(h:CLe x y)(hx:∀(ρ:Rho) H F w v,G3 ρ H F w x v->ja0 ρ H F w x v):ALe x y:=λρ H F w v hv=>.val (.cell (h.c _ _ _ _ _ (hx ρ H F w v hv)))
theorem ALe.rows{es n:Nat}{get get':Nat->List b7}(he:∀k,k<n->sc2 (get k) (get' k)):ALe (.tree es n get) (.tree es n get'):=λ_ _ _ _ _ h=>.val (.cell (.mem (Xe2 (Da4 h) he)))
structure Ty(α:Type) where
 es:Nat
 row:α->List b7
 rd:List b7->α
 ok:List b7->Bool
 cks:List CK
 d:α
 h0:∀x,len (row x)=es
 h1:∀x,rd (row x)=x
 h2:∀x,ok (row x)=true
 h3:∀r,ok r=true->sc2 r (row (rd r))
 h4:∀x,ka1 cks (row x)=true
 h5:∀x,j7 (row x) 0=row x
section
variable{α:Type}(t:Ty α)
@[reducible] def gL(l:List α)(k:Nat):α:=l.getD k t.d
@[reducible] def eL(l:List α):b7:=.tree t.es l.length (λk=>t.row (gL t l k))
def lsL(n:Nat)(get:Nat->List b7):List α:=(List.range n).map λk=>t.rd (get k)
def okL(n:Nat)(get:Nat->List b7):Bool:=(List.range n).all λk=>t.ok (get k)
def rL(v:b7):List α:=lsL t (toN v) (toG v)
def nL(v:b7):b7:=eL t (rL t v)
def Lf3(f:b7->b7)(x:b7):Bool:=cl (x=f x)
def rt(l:List α):List α:=rL t (eL t l)
def okE(l:List α):Bool:=okL t (toN (eL t l)) (toG (eL t l))
def cnE(l:List α):Bool:=Lf3 (nL t) (eL t l)
def bL(l:List α):List (List b7):=p5 t.row l
def rdR(el:List (List b7))(j:Nat):α:=t.rd (j7 (l9 el j) 0)
def ldR(el:List (List b7))(j:Nat):Bool:=Bool.and (Bool.and (Nat.blt j (len el)) (Nat.ble (0+t.es) (len (l9 el j)))) (ka1 t.cks (j7 (l9 el j) 0))
def slR(el:List (List b7))(off n:Nat):List α:=lsL t n λk=>l9 el (off+k)
def okS(el:List (List b7))(off n:Nat):Bool:=okL t n λk=>l9 el (off+k)
theorem Qd0(n:Nat)(get:Nat->List b7):(lsL t n get).length=n:=by simp[lsL]
theorem Be4{n k:Nat}(get:Nat->List b7)(h:k<n):gL t (lsL t n get) k=t.rd (get k):=by
 simp[gL,lsL,Qdf,Qdi,List.getElem?_range h]
theorem Nc6{n:Nat}{get:Nat->List b7}{l:List α}(hn:n=l.length)(h:∀k,k<n->get k=t.row (gL t l k)):lsL t n get=l:=by
 apply List.ext_getElem
 ·simp[lsL,hn]
 ·intro k h1 h2;have hk:k<n:=by omega
  simp[lsL,h k hk,t.h1,gL,Qdf,Qdb h2]
theorem jb2{n:Nat}{get:Nat->List b7}{f:Nat->α}(h:∀k,k<n->get k=t.row (f k)):okL t n get=true:=by
 unfold okL;rw[List.all_eq_true];intro k hk;have hk:k<n:=by simpa using hk
 rw[h k hk];exact t.h2 _
theorem g8(l:List α):rt t l=l:=Nc6 t rfl λ_ _=>rfl
theorem o5(l:List α):okE t l=true:=jb2 t (f:=λk=>gL t l k) λ_ _=>rfl
theorem i7(l:List α):cnE t l=true:=uf0 (by unfold nL;rw[show rL t (eL t l)=l from g8 t l])
theorem U9(l:List α):len (bL t l)=l.length:=Xe0 _ _
theorem ea8{l:List α}{k:Nat}(h:k<l.length):l9 (bL t l) k=t.row (gL t l k):=ce8 t.row t.d h
theorem te8{l:List α}{k:Nat}(h:k<l.length):rdR t (bL t l) k=gL t l k:=by unfold rdR;rw[ea8 t h,t.h5,t.h1]
theorem te9{l:List α}{k:Nat}(h:k<l.length):ldR t (bL t l) k=true:=by
 unfold ldR;rw[ea8 t h,t.h5,t.h4,U9,t.h0,Qdu,Bool.and_true];simp[Qdv,Nat.ble_eq,h]
theorem Xa2(l r:List α):app (bL t l) (bL t r)=bL t (l++r):=Xe1 _ _ _
theorem hc9(l:List α):slR t (bL t l) 0 l.length=l:=Nc6 t rfl λk hk=>by rw[Qdu,ea8 t hk]
theorem ic0(l:List α):okS t (bL t l) 0 l.length=true:=jb2 t (f:=λk=>gL t l k) λk hk=>by rw[Qdu,ea8 t hk]
theorem Qb0(l:List α):p5 (λk=>t.row (gL t l k)) (List.range l.length)=bL t l:=by
 unfold bL;rw[p6,p6];apply List.ext_getElem
 ·simp
 ·intro k h1 h2;have h:k<l.length:=by simpa using h1
  simp[gL,Qdf,Qdb h]
theorem ic1(l:List α)(k:Nat)(x:α):setAt (bL t l) k (t.row x)=bL t (l.set k x):=te7 _ _ _ _
theorem treeLe{n:Nat}{get:Nat->List b7}(h:okL t n get=true):CLe (.tree t.es n get) (eL t (lsL t n get)):=by
 unfold eL;rw[Qd0];refine .tree λk hk=>?_
 rw[Be4 t get hk];exact t.h3 _ (List.all_eq_true.1 h k (by simpa using hk))
theorem Be5{n:Nat}{get:Nat->List b7}(h:okL t n get=true):ALe (.tree t.es n get) (eL t (lsL t n get)):=(treeLe t h).ale λ_ _ _ _ _ h=>.mem (Da4 h)
def O3:Cod (List α) where
 enc l:=eL t l
 dec x:=match x with
  |.tree e n get=>Bool.rec (motive:=λ_=>Option (List α)) none (some (lsL t n get)) (Nat.beq e t.es)
  |.v (.slice none 0 0)=>some []
  |.v (.slice (some _) 0 _)=>some []
  |_=>none
 grd x:=match x with
  |.tree _ n get=>okL t n get
  |_=>true
 ok x a hx hg:=by
  split at hx
  ·rename_i e n get;cases hb:Nat.beq e t.es with
   |false=>rw[hb] at hx;cases hx
   |true =>
    rw[hb] at hx;have hx:some (lsL t n get)=some a:=hx;injection hx with hx;subst hx
    have:=Qda hb
    subst this;exact Be5 t hg
  ·injection hx with hx;subst hx;exact .nilTree _ _
  ·injection hx with hx;subst hx;exact .emptyTree _ _ _ _
  ·cases hx
def hC(get:Nat->List b7):α:=t.rd (get 0)
def tC(n:Nat)(get:Nat->List b7):List α:=lsL t n λk=>get (k+1)
theorem Uf0(a:α)(l:List α):hC t (λk=>t.row (gL t (a::l) k))=a:=t.h1 _
theorem Uf1(a:α)(l:List α):tC t l.length (λk=>t.row (gL t (a::l) k))=l:=Nc6 t rfl λk _=>rfl
theorem ce9(n:Nat)(get:Nat->List b7):lsL t (n+1) get=hC t get::tC t n get:=by
 unfold lsL hC tC lsL;rw[List.range_succ_eq_map];simp
def Xe3:Cod (α×List α) where
 enc x:=eL t (x.1::x.2)
 dec x:=match x with
  |.tree e (n+1) get=>Bool.rec (motive:=λ_=>Option (α×List α)) none (some (hC t get,tC t n get)) (Nat.beq e t.es)
  |_=>none
 grd x:=match x with
  |.tree _ n get=>okL t n get
  |_=>false
 ok x a hx hg:=by
  split at hx
  ·rename_i e n get;cases hb:Nat.beq e t.es with
   |false=>rw[hb] at hx;cases hx
   |true =>
    rw[hb] at hx;have hx:some (hC t get,tC t n get)=some a:=hx;injection hx with hx;subst hx
    have:=Qda hb
    subst this;show ALe _ (eL t (hC t get::tC t n get));rw[<- ce9];exact Be5 t hg
  ·cases hx
def ba6:Cod α where
 enc x:=.agg (t.row x)
 dec x:=match x with
  |.agg cs=>Bool.rec (motive:=λ_=>Option α) none (some (t.rd cs)) (t.ok cs)
  |_=>none
 grd _:=true
 ok x a hx _:=by
  split at hx
  ·rename_i cs;cases hb:t.ok cs with
   |false=>rw[hb] at hx;cases hx
   |true =>
    rw[hb] at hx;have hx:some (t.rd cs)=some a:=hx;injection hx with hx;subst hx;have h3:=t.h3 cs hb;intro ρ H F w v hv;obtain⟨vs,rfl,hl,hr⟩:=Na8 hv;refine .val (.agg _ _ (by rw[<- h3.length];exact hl) λi y v' hy hv'=>?_)
    obtain⟨x,hx,hle⟩:=h3.get i y hy;exact hle.c _ _ _ _ _ (hr i x v' hx hv')
  ·cases hx
end
def tLs{α:Type}(t:Ty α):Ty (List α) where
 es:=1
 row l:=[eL t l]
 rd r:=rL t (hdA r)
 ok r:=match r with
  |[.tree e n get]=>Bool.and (Nat.beq e t.es) (okL t n get)
  |[.v (.slice none 0 0)]=>true
  |_=>false
 cks:=[.sl t.es]
 d:=[]
 h0 _:=rfl
 h1 l:=g8 t l
 h2 l:=by
  show Bool.and (Nat.beq t.es t.es) (okL t l.length λk=>t.row (gL t l k))=true
  rw[Nat.beq_refl,Bool.true_and];exact jb2 t (f:=λk=>gL t l k) λ_ _=>rfl
 h3 r h:=by
  split at h
  ·rename_i e n get;rw[Qdc] at h
   have:=Qda h.1
   subst this;exact .cons (treeLe t h.2) .nil
  ·exact .cons (CLe.nilTree _ _) .nil
  ·cases h
 h4 l:=by
  show Bool.and (Nat.beq t.es t.es) true=true;rw[Nat.beq_refl];rfl
 h5 _:=rfl
def tI:Ty Int where
 es:=1
 row n:=[i n]
 rd r:=toI (hdA r)
 ok r:=match r with
  |[.v (.int .i64 _)]=>true
  |_=>false
 cks:=[.int .i64]
 d:=0
 h0 _:=rfl
 h1 _:=rfl
 h2 _:=rfl
 h3 r h:=by
  split at h
  ·exact .refl _
  ·cases h
 h4 _:=rfl
 h5 _:=rfl
def Ja7(n:Nat)(l:List b7):Bool:=Nat.rec (motive:=λ_=>List b7->Bool)
 (λl=>List.rec (motive:=λ_=>Bool) true (λ_ _ _=>false) l)
 (λ_ ih l=>List.rec (motive:=λ_=>Bool) false (λx r _=>Bool.and (rc9 (.int .i64) x) (ih r)) l) n l
def Xe4(n:Nat)(l:List b7):List b7:=Nat.rec (motive:=λ_=>List b7->List b7) (λ_=>[]) (λ_ ih l=>i (toI (hdA l))::ih (tlA l)) n l
theorem jb3:∀{n:Nat} {l:List b7},Ja7 n l=true->l=Xe4 n l
 |0,[],_=>rfl
 |0,x::r,h=>by cases h
 |n+1,[],h=>by cases h
 |n+1,x::r,h=>by
  have h:Bool.and (rc9 (.int .i64) x) (Ja7 n r)=true:=h;rw[Qdc] at h;show x::r=i (toI x)::Xe4 n r;rw[<- jb3 h.2];have h1:=h.1;cases x with
  |v y=>cases y with
   |int k m =>
    have h1:decide (IntKind.i64=k)=true:=h1;rw[<- of_decide_eq_true h1];rfl
   |_=>cases h1
  |_=>cases h1
inductive Dis (H:List b8):List b8->Prop
 |refl:Dis H H
 |step {H'} (id:Nat) (h:Dis H H'):Dis H (disown H' id)
theorem Qd1(H:List b8)(id j g:Nat):blkAt (disown H id) j g=(blkAt H j g).map λb=>if j=id then { b with own:=false } else b:=by
 unfold blkAt disown modAt;cases hb:nth H id with
 |none =>
  simp only[];cases hj:nth H j with
  |none=>rfl
  |some b =>
   have:j≠id:=λh=>by subst h;rw[hb] at hj;cases hj
   simp only[this,if_false];cases b.dead<;>simp only[]<;>first | rfl | (cases Nat.beq b.g g<;>rfl)
 |some c =>
  simp only[C5,F5];by_cases h:j=id
  ·subst h;have hb':H[j]?=some c:=by rw[<- C5];exact hb
   have hlt:j<H.length:=(Qdd.1 hb').1;simp only[List.getElem?_set_self hlt,hb',if_true];obtain⟨et,es,el,ow,de,g'⟩:=c;cases de<;>simp only[]<;>first | rfl | (cases Nat.beq g' g<;>rfl)
  ·rw[List.getElem?_set_ne (λe=>h e.symm)]
   cases hj:H[j]? with
   |none=>rfl
   |some b =>
    simp only[h,if_false];cases b.dead<;>simp only[]<;>first | rfl | (cases Nat.beq b.g g<;>rfl)
structure R1(ρ:Type) where
 enc:ρ->b7
 rd:List b8->b7->Option ρ
 d:ρ
 le:∀H x r,rd H x=some r->∃z H',Ia4 H x=some (z,H')/\Dis H H'/\∀ρ' H2 F w v,la1 ρ' H2 F w z v->la1 ρ' H2 F w (enc r) v
 dis:∀H id x,rd (disown H id) x=rd H x
theorem R1.diss{ρ:Type}(R:R1 ρ){H H':List b8}(h:Dis H H')(x:b7):R.rd H' x=R.rd H x:=by
 induction h with
 |refl=>rfl
 |step id h ih=>rw[R.dis,ih]
theorem CLe.v{x y:b7}(h:CLe x y)(hx:∀(ρ:Rho) H F w v,la1 ρ H F w x v->ja0 ρ H F w x v):∀ρ' H2 F w v,la1 ρ' H2 F w x v->la1 ρ' H2 F w y v:=λ_ _ _ _ _ hv=>.cell (h.c _ _ _ _ _ (hx _ _ _ _ _ hv))
def r1K(k:IntKind):R1 Int where
 enc n:=.v (.int k n)
 rd _ x:=match x with
  |.v (.int k' n)=>Bool.rec (motive:=λ_=>Option Int) none (some n) (decide (k=k'))
  |_=>none
 d:=0
 le H x r h:=by
  split at h
  ·rename_i k' n;cases hb:decide (k=k') with
   |false=>rw[hb] at h;cases h
   |true =>
    rw[hb] at h;have h:some n=some r:=h;injection h with h;subst h
    have:=of_decide_eq_true hb
    subst this;exact⟨_,H,rfl,.refl,λ_ _ _ _ _ h=>h⟩
  ·cases h
 dis _ _ _:=rfl
def r1I:R1 Int:=r1K .i64
def r1B:R1 Bool where
 enc n:=b n
 rd _ x:=match x with
  |.v (.bool n)=>some n
  |_=>none
 d:=false
 le H x r h:=by
  split at h
  ·injection h with h;subst h;exact⟨_,H,rfl,.refl,λ_ _ _ _ _ h=>h⟩
  ·cases h
 dis _ _ _:=rfl
theorem jd5(H:List b8):∀(n:Nat) (l:List b7),Ja7 n l=true->freezeCells H l=some (l,H)
 |0,[],_=>rfl
 |0,x::r,h=>by cases h
 |n+1,[],h=>by cases h
 |n+1,x::r,h=>by
  have e:=jb3 h;have h:Bool.and (rc9 (.int .i64) x) (Ja7 n r)=true:=h;rw[Qdc] at h;have e1:x=i (toI x):=(List.cons.inj e).1;simp only[freezeCells];rw[e1];simp only[freezeCell,xd0,jd5 H n r h.2]
section
variable{α:Type}(t:Ty α)
def r1A(n:Nat)(ht:∀r,Ja7 n r=true->t.ok r=true):R1 α where
 enc x:=.agg (t.row x)
 rd _ x:=match x with
  |.agg cs=>Bool.rec (motive:=λ_=>Option α) none (some (t.rd cs)) (Ja7 n cs)
  |_=>none
 d:=t.d
 le H x r h:=by
  split at h
  ·rename_i cs;cases hb:Ja7 n cs with
   |false=>rw[hb] at h;cases h
   |true =>
    rw[hb] at h;have h:some (t.rd cs)=some r:=h;injection h with h;subst h;have h3:=t.h3 cs (ht cs hb);refine⟨.agg cs,H,?_,.refl,λρ' H2 F w v hv=>?_⟩
    ·simp only[Ia4,jd5 H n cs hb]
    ·obtain⟨vs,rfl,hl,hr⟩:=Na8 (.val hv);refine .agg _ _ (by rw[<- h3.length];exact hl) λi y v' hy hv'=>?_
     obtain⟨x,hx,hle⟩:=h3.get i y hy;exact hle.c _ _ _ _ _ (hr i x v' hx hv')
  ·cases h
 dis _ _ _:=rfl
def r1L:R1 (List α) where
 enc l:=eL t l
 rd H x:=match x with
  |.v (.slice none 0 0)=>some []
  |.tree e n get=>Bool.rec (motive:=λ_=>Option (List α)) none (some (lsL t n get)) (Bool.and (Nat.beq e t.es) (okL t n get))
  |.sl id off n g=>match blkAt H id g with
   |some b=>Bool.rec (motive:=λ_=>Option (List α)) none (some (slR t b.elems off n)) (Bool.and (Nat.beq b.es t.es) (okS t b.elems off n))
   |none=>none
  |_=>none
 d:=[]
 le H x r h:=by
  split at h
  ·injection h with h;subst h;exact⟨_,H,rfl,.refl,(CLe.nilTree _ _).v λ_ _ _ _ _ h=>by cases h with | cell h=>exact h⟩
  ·rename_i e n get;cases hb:Bool.and (Nat.beq e t.es) (okL t n get) with
   |false=>rw[hb] at h;cases h
   |true =>
    rw[hb] at h;have h:some (lsL t n get)=some r:=h;injection h with h;subst h;rw[Qdc] at hb
    have:=Qda hb.1
    subst this;exact⟨_,H,rfl,.refl,(treeLe t hb.2).v λ_ _ _ _ _ h=>by cases h with | cell h=>exact h⟩
  ·rename_i id off n g;cases hk:blkAt H id g with
   |none=>simp only[hk] at h;cases h
   |some b =>
    simp only[hk] at h;cases hb:Bool.and (Nat.beq b.es t.es) (okS t b.elems off n) with
    |false=>rw[hb] at h;cases h
    |true =>
     rw[hb] at h;have h:some (slR t b.elems off n)=some r:=h;injection h with h;subst h;rw[Qdc] at hb
     have:=Qda hb.1
     refine⟨fc1 b off n,disown H id,?_,.step id .refl,?_⟩
     ·simp only[Ia4,freezeCell,hk]
     ·unfold fc1;rw[this];exact (treeLe t hb.2).v λ_ _ _ _ _ h=>by cases h with | cell h=>exact h
  ·cases h
 dis H id x:=by
  cases x with
  |sl id' off n g =>
   simp only[Qd1];cases blkAt H id' g with
   |none=>rfl
   |some b =>
    simp only[Option.map]
    split<;>rfl
  |v y=>cases y with
   |slice a n c=>cases a<;>cases n<;>cases c<;>rfl
   |_=>rfl
  |_=>rfl
end
structure RR(ρ:Type) where
 enc:ρ->b7
 rd:b7×List b8->Option ρ
 d:ρ
 le:∀x o r,rd (x,o)=some r->jd4 x o (enc r)
theorem de0{H:List b8}{l:List b7}{z:b7×List b8}(h:Ia4 H (.tup l)=some z):False:=by cases h
theorem de1{H:List b8}{x z:b7}{H':List b8}(h:Ia4 H x=some (z,H')):yc2 H x=some z:=by
 cases x with
 |tup l=>exact (de0 h).elim
 |_=>simp only[yc2,h]
theorem Lf4{x y:b7}(h:∀ρ' H2 F w v,la1 ρ' H2 F w x v->la1 ρ' H2 F w y v)(hx:∀l,x≠.tup l):ALe x y:=λρ H F w v hv=>by
 cases hv with
 |val hv=>exact .val (h _ _ _ _ _ hv)
 |tup xs=>exact absurd rfl (hx xs)
theorem Qd2{H H':List b8}{x z:b7}(h:Ia4 H x=some (z,H')):∀l,z≠.tup l:=λl e=>by
 subst e;unfold Ia4 at h
 split at h
 ·split at h<;>cases h
 ·unfold freezeCell at h
  split at h
  ·split at h<;>cases h
  ·cases h
  ·cases h
  ·split at h
   ·simp only[fc1] at h;cases h
   ·cases h
  ·cases h
def one{ρ:Type}(a:R1 ρ):RR ρ where
 enc:=a.enc
 rd r:=a.rd r.2 r.1
 d:=a.d
 le x o r h:=by
  obtain⟨z,H',h1,_,h2⟩:=a.le o x r h;exact⟨z,de1 h1,Lf4 h2 (Qd2 h1)⟩
def two{ρ σ:Type}(a:R1 ρ)(c:R1 σ):RR (ρ×σ) where
 enc r:=.tup [a.enc r.1,c.enc r.2]
 rd r:=match r.1 with
  |.tup [x,y]=>Option.rec (motive:=λ_=>Option (ρ×σ)) none (λu=>Option.rec (motive:=λ_=>Option (ρ×σ)) none (λv=>some (u,v)) (c.rd r.2 y)) (a.rd r.2 x)
  |_=>none
 d:=(a.d,c.d)
 le q o r h:=by
  split at h
  ·rename_i x y e
   simp only at e
   subst e;cases hu:a.rd o x with
   |none=>rw[hu] at h;cases h
   |some u =>
   cases hv:c.rd o y with
   |none=>rw[hu,hv] at h;cases h
   |some v =>
   rw[hu,hv] at h;have h:some (u,v)=some r:=h;injection h with h;subst h;obtain⟨z1,H1,h1,d1,l1⟩:=a.le o x u hu;obtain⟨z2,H2,h2,d2,l2⟩:=c.le H1 y v (by rw[c.diss d1];exact hv)
   refine⟨.tup [z1,z2],by simp only[yc2,nb9,h1,h2],ALe.tup rfl λk p q hp hq=>?_⟩
   match k,hp,hq with
   |0,hp,hq=>cases hp;cases hq;exact l1
   |1,hp,hq=>cases hp;cases hq;exact l2
  ·cases h
def Uf2{ρ σ τ:Type}(a:R1 ρ)(c:R1 σ)(e:R1 τ):RR (ρ×σ×τ) where
 enc r:=.tup [a.enc r.1,c.enc r.2.1,e.enc r.2.2]
 rd r:=match r.1 with
  |.tup [x,y,z]=>Option.rec (motive:=λ_=>Option (ρ×σ×τ)) none (λu=>Option.rec (motive:=λ_=>Option (ρ×σ×τ)) none (λv=>Option.rec (motive:=λ_=>Option (ρ×σ×τ)) none (λw=>some (u,v,w)) (e.rd r.2 z)) (c.rd r.2 y)) (a.rd r.2 x)
  |_=>none
 d:=(a.d,c.d,e.d)
 le q o r h:=by
  split at h
  ·rename_i x y z e0
   simp only at e0
   subst e0;cases hu:a.rd o x with
   |none=>rw[hu] at h;cases h
   |some u =>
   cases hv:c.rd o y with
   |none=>rw[hu,hv] at h;cases h
   |some v =>
   cases hw:e.rd o z with
   |none=>rw[hu,hv,hw] at h;cases h
   |some w =>
   rw[hu,hv,hw] at h;have h:some (u,v,w)=some r:=h;injection h with h;subst h;obtain⟨z1,H1,h1,d1,l1⟩:=a.le o x u hu;obtain⟨z2,H2,h2,d2,l2⟩:=c.le H1 y v (by rw[c.diss d1];exact hv)
   obtain⟨z3,H3,h3,d3,l3⟩:=e.le H2 z w (by rw[e.diss d2,e.diss d1];exact hw)
   refine⟨.tup [z1,z2,z3],by simp only[yc2,nb9,h1,h2,h3],ALe.tup rfl λk p q hp hq=>?_⟩
   match k,hp,hq with
   |0,hp,hq=>cases hp;cases hq;exact l1
   |1,hp,hq=>cases hp;cases hq;exact l2
   |2,hp,hq=>cases hp;cases hq;exact l3
  ·cases h
def okO{ρ:Type}(R:RR ρ)(o:Option (b7×List b8)):Bool:=Option.rec (motive:=λ_=>Bool) false (λr=>Option.rec (motive:=λ_=>Bool) false (λ_=>true) (R.rd r)) o
def J8{ρ:Type}(R:RR ρ)(o:Option (b7×List b8)):ρ:=Option.rec (motive:=λ_=>ρ) R.d (λr=>Option.rec (motive:=λ_=>ρ) R.d (λx=>x) (R.rd r)) o
@[reducible] def rdO{ρ:Type}(R:RR ρ)(o:Option (b7×List b8)):DT (b7×List b8):=.guard (okO R o) (.ret (R.enc (J8 R o),[]))
theorem jd6{ρ:Type}{R:RR ρ}{o:Option (b7×List b8)}{y:b7}{out:List b8}(h:(rdO R o).run=some (y,out)):out=[]/\∃x o',o=some (x,o')/\jd4 x o' y:=by
 obtain⟨h1,h2⟩:=DT.run_guard_some h;have h2:some (R.enc (J8 R o),([]:List b8))=some (y,out):=h2;injection h2 with h2;injection h2 with e1 e2;subst e1 e2
 refine⟨rfl,?_⟩;cases o with
 |none=>cases h1
 |some r =>
  obtain⟨x,o'⟩:=r;refine⟨x,o',rfl,?_⟩;cases hr:R.rd (x,o') with
  |none=>simp only[okO,hr] at h1;cases h1
  |some q =>
   simp only[J8,hr];exact R.le x o' q hr
theorem mb4{α:Type}(o:Option α):(DT.ofOption o).run=o:=by cases o<;>rfl
section
variable{α β γ δ ε ζ:Type}{P:Program}{G:Nat->List Value}{f:FuncId}{R0:Sum}{c:Cod α}{d:Cod β}{e:Cod γ}{c4:Cod δ}{c5:Cod ε}{c6:Cod ζ}{ρ:Type}
theorem dg9(hb:g9 P G f R0)(R:RR ρ){o:Option (b7×List b8)}(h:∀r,o=some r->(R0 [] []).run=some r):g9 P G f (te5 (rdO R o)) :=
 Le4 (tf6 hb (k:=DT.ofOption o) λr hr=>h r (by rw[mb4] at hr;exact hr)) λy out hr=>by
  obtain⟨e,x,o',h1,h2⟩:=jd6 hr;exact⟨e,x,o',by rw[mb4,h1],h2⟩
theorem Ia9(hb:g9 P G f R0)(R:RR ρ){o:α->Option (b7×List b8)}(h:∀a r,o a=some r->(R0 [c.enc a] []).run=some r):g9 P G f (X6 c λa=>rdO R (o a)) :=
 Le5 (Ib6 hb (k:=λa=>DT.ofOption (o a)) λa r hr=>h a r (by rw[mb4] at hr;exact hr)) λa y out hr=>by
  obtain⟨e,x,o',h1,h2⟩:=jd6 hr;exact⟨e,x,o',by rw[mb4,h1],h2⟩
theorem hb8(hb:g9 P G f R0)(R:RR ρ){o:α->β->Option (b7×List b8)}(h:∀a b r,o a b=some r->(R0 [c.enc a,d.enc b] []).run=some r):g9 P G f (oa5 c d λa b=>rdO R (o a b)) :=
 Le6 (Ia3 hb (k:=λa b=>DT.ofOption (o a b)) λa b r hr=>h a b r (by rw[mb4] at hr;exact hr)) λa b y out hr=>by
  obtain⟨e,x,o',h1,h2⟩:=jd6 hr;exact⟨e,x,o',by rw[mb4,h1],h2⟩
theorem Le8(hb:g9 P G f R0)(R:RR ρ){o:α->β->γ->Option (b7×List b8)}(h:∀a b g r,o a b g=some r->(R0 [c.enc a,d.enc b,e.enc g] []).run=some r):g9 P G f (yc1 c d e λa b g=>rdO R (o a b g)) :=
 Le7 (tf7 hb (k:=λa b g=>DT.ofOption (o a b g)) λa b g r hr=>h a b g r (by rw[mb4] at hr;exact hr)) λa b g y out hr=>by
  obtain⟨e,x,o',h1,h2⟩:=jd6 hr;exact⟨e,x,o',by rw[mb4,h1],h2⟩
end
inductive K where
 |o (k:Sk)
 |c (es:Nat) (f:b7->b7)
def isK:K->b7->Bool
 |.o k,x=>Lf1 k x
 |.c es _,.tree es' _ _=>Nat.beq es es'
 |.c _ _,_=>false
def asK:K->b7->b7
 |.o k,x=>Tf7 k x
 |.c _ f,x=>f x
def cnK(k:K)(x:b7)(z:Bool):Bool:=match k with
 |.o _=>z
 |.c _ f=>Bool.and (Lf3 f x) z
theorem Xe5{k:K}{x:b7}{z:Bool}(h:isK k x=true)(hc:cnK k x z=true):x=asK k x/\z=true:=by
 cases k with
 |o k=>exact⟨tf8 h,hc⟩
 |c es f =>
  have hc:Bool.and (Lf3 f x) z=true:=hc;rw[Qdc] at hc;exact⟨Tf9 hc.1,hc.2⟩
def ue0(ks:List K):List b7->Bool :=
 List.rec (motive:=λ_=>List b7->Bool) (λl=>List.rec (motive:=λ_=>Bool) true (λ_ _ _=>false) l)
  (λk _ ih l=>List.rec (motive:=λ_=>Bool) false (λx r _=>Bool.and (isK k x) (ih r)) l) ks
def de2(ks:List K):List b7->List b7 :=
 List.rec (motive:=λ_=>List b7->List b7) (λ_=>[]) (λk _ ih l=>asK k (hdA l)::ih (tlA l)) ks
def ue1(z:Bool)(ks:List K):List b7->Bool :=
 List.rec (motive:=λ_=>List b7->Bool) (λ_=>z) (λk _ ih l=>cnK k (hdA l) (ih (tlA l))) ks
theorem Fc1{z:Bool}:∀{ks:List K} {l:List b7},ue0 ks l=true->ue1 z ks l=true->l=de2 ks l/\z=true
 |[],[],_,hc=>⟨rfl,hc⟩
 |[],x::r,h,_=>by cases h
 |k::ks,[],h,_=>by cases h
 |k::ks,x::r,h,hc=>by
  have h:Bool.and (isK k x) (ue0 ks r)=true:=h;rw[Qdc] at h;have hc:cnK k x (ue1 z ks r)=true:=hc;obtain⟨e1,h2⟩:=Xe5 h.1 hc;obtain⟨e2,h3⟩:=Fc1 h.2 h2;refine⟨?_,h3⟩;show x::r=asK k x::de2 ks r;rw[<- e1,<- e2]
inductive S2 where
 |s (k:K)
 |agg (l:List K)
 |tup (l:List K)
 |fn (f:Nat) (l:List K)
def isS:S2->b7->Bool
 |.s k,x=>isK k x
 |.agg l,.agg r=>ue0 l r
 |.tup l,.tup r=>ue0 l r
 |.fn f l,.fn f' r=>Bool.and (Nat.beq f f') (ue0 l r)
 |_,_=>false
def asS:S2->b7->b7
 |.s k,x=>asK k x
 |.agg l,x=>.agg (de2 l (cellsOf x))
 |.tup l,x=>.tup (de2 l (cellsOf x))
 |.fn f l,x=>.fn f (de2 l (cellsOf x))
def cnS(k:S2)(x:b7)(z:Bool):Bool:=match k with
 |.s k=>cnK k x z
 |.agg l=>ue1 z l (cellsOf x)
 |.tup l=>ue1 z l (cellsOf x)
 |.fn _ l=>ue1 z l (cellsOf x)
theorem Lf5{k:S2}{x:b7}{z:Bool}(h:isS k x=true)(hc:cnS k x z=true):x=asS k x/\z=true:=by
 unfold isS at h
 split at h
 ·exact Xe5 h hc
 ·rename_i l r;obtain⟨e,hz⟩:=Fc1 h hc;exact⟨congrArg b7.agg e,hz⟩
 ·rename_i l r;obtain⟨e,hz⟩:=Fc1 h hc;exact⟨congrArg b7.tup e,hz⟩
 ·rename_i f l f' r;rw[Qdc] at h;obtain⟨e,hz⟩:=Fc1 h.2 hc;refine⟨?_,hz⟩;show b7.fn f' r=.fn f (de2 l r);rw[<- e,Qda h.1]
 ·cases h
def Xe6(ks:List S2):List b7->Bool :=
 List.rec (motive:=λ_=>List b7->Bool) (λl=>List.rec (motive:=λ_=>Bool) true (λ_ _ _=>false) l)
  (λk _ ih l=>List.rec (motive:=λ_=>Bool) false (λx r _=>Bool.and (isS k x) (ih r)) l) ks
def Le9(ks:List S2):List b7->List b7 :=
 List.rec (motive:=λ_=>List b7->List b7) (λ_=>[]) (λk _ ih l=>asS k (hdA l)::ih (tlA l)) ks
def uf1(z:Bool)(ks:List S2):List b7->Bool :=
 List.rec (motive:=λ_=>List b7->Bool) (λ_=>z) (λk _ ih l=>cnS k (hdA l) (ih (tlA l))) ks
theorem Be6{z:Bool}:∀{ks:List S2} {l:List b7},Xe6 ks l=true->uf1 z ks l=true->l=Le9 ks l/\z=true
 |[],[],_,hc=>⟨rfl,hc⟩
 |[],x::r,h,_=>by cases h
 |k::ks,[],h,_=>by cases h
 |k::ks,x::r,h,hc=>by
  have h:Bool.and (isS k x) (Xe6 ks r)=true:=h;rw[Qdc] at h;have hc:cnS k x (uf1 z ks r)=true:=hc;obtain⟨e1,h2⟩:=Lf5 h.1 hc;obtain⟨e2,h3⟩:=Be6 h.2 h2;refine⟨?_,h3⟩;show x::r=asS k x::Le9 ks r;rw[<- e1,<- e2]
def Lf6(ks:List (List K)):List (List b7)->Bool :=
 List.rec (motive:=λ_=>List (List b7)->Bool) (λl=>List.rec (motive:=λ_=>Bool) true (λ_ _ _=>false) l)
  (λk _ ih l=>List.rec (motive:=λ_=>Bool) false (λx r _=>Bool.and (ue0 k x) (ih r)) l) ks
def uf2(ks:List (List K)):List (List b7)->List (List b7) :=
 List.rec (motive:=λ_=>List (List b7)->List (List b7)) (λ_=>[]) (λk _ ih l=>de2 k (hdR l)::ih (tlR l)) ks
def Lf7(z:Bool)(ks:List (List K)):List (List b7)->Bool :=
 List.rec (motive:=λ_=>List (List b7)->Bool) (λ_=>z) (λk _ ih l=>ue1 (ih (tlR l)) k (hdR l)) ks
theorem Be7{z:Bool}:∀{ks:List (List K)} {l:List (List b7)},Lf6 ks l=true->Lf7 z ks l=true->l=uf2 ks l/\z=true
 |[],[],_,hc=>⟨rfl,hc⟩
 |[],x::r,h,_=>by cases h
 |k::ks,[],h,_=>by cases h
 |k::ks,x::r,h,hc=>by
  have h:Bool.and (ue0 k x) (Lf6 ks r)=true:=h;rw[Qdc] at h;have hc:ue1 (Lf7 z ks r) k x=true:=hc;obtain⟨e1,h2⟩:=Fc1 h.1 hc;obtain⟨e2,h3⟩:=Be7 h.2 h2;refine⟨?_,h3⟩;show x::r=de2 k x::uf2 ks r;rw[<- e1,<- e2]
def ru2(n:Nat)(l:List S2):List S2:=Nat.rec (motive:=λ_=>List S2) l (λ_ ih=>.s (.o .unk)::ih) n
structure B2 where
 et:Nat
 es:Nat
 own:Bool
 rows:Option (List (List K))
@[reducible] def isE(o:Option (List (List K)))(l:List (List b7)):Bool:=Option.rec (motive:=λ_=>Bool) true (λks=>Lf6 ks l) o
@[reducible] def asE(o:Option (List (List K)))(l:List (List b7)):List (List b7):=Option.rec (motive:=λ_=>List (List b7)) l (λks=>uf2 ks l) o
@[reducible] def cnO(o:Option (List (List K)))(l:List (List b7))(z:Bool):Bool:=Option.rec (motive:=λ_=>Bool) z (λks=>Lf7 z ks l) o
def isB(k:B2)(x:b8):Bool :=
 Bool.and (Bool.and (Nat.beq k.et x.et) (Nat.beq k.es x.es)) (Bool.and (eqB k.own x.own) (Bool.and (!x.dead) (Bool.and (Nat.beq x.g 0) (isE k.rows x.elems))))
theorem Lf8{k:B2}{x:b8}{z:Bool}(h:isB k x=true)(hc:cnO k.rows x.elems z=true):x=⟨k.et,k.es,asE k.rows x.elems,k.own,false,0⟩/\z=true:=by
 unfold isB at h;simp only[Qdc] at h;obtain⟨⟨h1,h2⟩,h3,h4,h5,h6⟩:=h;have h1:=Qda h1;have h2:=Qda h2;have h5:=Qda h5;have h4:x.dead=false:=by simpa using h4
 obtain⟨et,es,el,ow,de,g⟩:=x;obtain⟨et',es',ow',rows⟩:=k
 simp only at *
 subst h1 h2 h4 h5;have h3:ow'=ow:=by cases ow'<;>cases ow<;>first | rfl | cases h3
 subst h3;cases rows with
 |none=>exact⟨rfl,hc⟩
 |some ks =>
  obtain⟨e,hz⟩:=Be7 h6 hc;refine⟨?_,hz⟩;show _=(⟨et',es',uf2 ks el,ow',false,0⟩:b8);rw[<- e]
def Xe7(ks:List B2):List b8->Bool :=
 List.rec (motive:=λ_=>List b8->Bool) (λl=>List.rec (motive:=λ_=>Bool) true (λ_ _ _=>false) l)
  (λk _ ih l=>List.rec (motive:=λ_=>Bool) false (λx r _=>Bool.and (isB k x) (ih r)) l) ks
def Me0(ks:List B2):List b8->List b8 :=
 List.rec (motive:=λ_=>List b8->List b8) (λ_=>[]) (λk _ ih l=>⟨k.et,k.es,asE k.rows (hdB l),k.own,false,0⟩::ih (tlB l)) ks
def uf3(z:Bool)(ks:List B2):List b8->Bool :=
 List.rec (motive:=λ_=>List b8->Bool) (λ_=>z) (λk _ ih l=>cnO k.rows (hdB l) (ih (tlB l))) ks
theorem Be8{z:Bool}:∀{ks:List B2} {l:List b8},Xe7 ks l=true->uf3 z ks l=true->l=Me0 ks l/\z=true
 |[],[],_,hc=>⟨rfl,hc⟩
 |[],x::r,h,_=>by cases h
 |k::ks,[],h,_=>by cases h
 |k::ks,x::r,h,hc=>by
  have h:Bool.and (isB k x) (Xe7 ks r)=true:=h;rw[Qdc] at h;have hc:cnO k.rows x.elems (uf3 z ks r)=true:=hc;obtain⟨e1,h2⟩:=Lf8 h.1 hc;obtain⟨e2,h3⟩:=Be8 h.2 h2;refine⟨?_,h3⟩;show x::r=⟨k.et,k.es,asE k.rows x.elems,k.own,false,0⟩::Me0 ks r;rw[<- e1,<- e2]
structure Al2(π σ:Type) where
 sh:List S2
 bl:List B2
 rd:List b7->List b8->π×σ
def uf4{π σ:Type}(l:List (Al2 π σ))(t:St):DT (π×σ) :=
 List.rec (motive:=λ_=>DT (π×σ)) .fail
  (λx _ ih=>Bool.rec (motive:=λ_=>DT (π×σ)) ih (.guard (uf1 (uf3 true x.bl t.H) x.sh t.a) (.ret (x.rd t.a t.H))) (Bool.and (Xe6 x.sh t.a) (Xe7 x.bl t.H))) l
theorem Qd3 {π σ : Type} {enc : π → σ → St} {t : St} {q : π × σ} : ∀ {l : List (Al2 π σ)}, (∀ x, x ∈ l → ∀ a H, (⟨Le9 x.sh a, Me0 x.bl H⟩ : St) = enc (x.rd a H).1 (x.rd a H).2) →
  (uf4 l t).run=some q->t=enc q.1 q.2
 |[],_,h=>by cases h
 |x::l,hl,h=>by
  have h:(Bool.rec (motive:=λ_=>DT (π×σ)) (uf4 l t) (.guard (uf1 (uf3 true x.bl t.H) x.sh t.a) (.ret (x.rd t.a t.H))) (Bool.and (Xe6 x.sh t.a) (Xe7 x.bl t.H))).run=some q:=h
  cases hb:Bool.and (Xe6 x.sh t.a) (Xe7 x.bl t.H) with
  |false=>rw[hb] at h;exact Qd3 (λy hy=>hl y (.tail _ hy)) h
  |true =>
   rw[hb] at h;obtain⟨h1,h2⟩:=DT.run_guard_some h;cases h2;rw[Qdc] at hb;obtain⟨e1,h3⟩:=Be6 hb.1 h1;obtain⟨e2,_⟩:=Be8 hb.2 h3;rw[<- hl x (.head _) t.a t.H,<- e1,<- e2]
def bb1{π:Type}(x:Al2 π Unit)(k:π->DT (b7×List b8)):Sum:=λargs blks=>(uf4 [x] ⟨args,blks⟩).bind λq=>k q.1
theorem N9 {P : Program} {G : Nat → List Value} {f : FuncId} {R : Sum} {π : Type} {x : Al2 π Unit} {enc : π → St} {k : π → DT (b7 × List b8)}
  (hx:∀a H,(⟨Le9 x.sh a,Me0 x.bl H⟩:St)=enc (x.rd a H).1) (hb:g9 P G f R)
  (h:∀p r,(k p).run=some r->(R (enc p).a (enc p).H).run=some r):g9 P G f (bb1 x k):=hb.le λargs blks r hr=>by
 obtain⟨q,h1,h2⟩:=DT.run_bind_some hr;have e:=Qd3 (enc:=λp _=>enc p) (bb0.mem (.cons hx .nil)) h1
 have:=h q.1 r h2
 rw[<- e] at this;exact this
@[reducible] def slT(l:List b7)(n:Nat):b7:=hdA (Nat.rec (motive:=λ_=>List b7->List b7) (λl=>l) (λ_ ih l=>ih (tlA l)) n l)
@[reducible] def rwT(l:List (List b7))(n:Nat):List b7:=hdR (Nat.rec (motive:=λ_=>List (List b7)->List (List b7)) (λl=>l) (λ_ ih l=>ih (tlR l)) n l)
@[reducible] def elT(l:List b8)(n:Nat):List (List b7):=hdB (Nat.rec (motive:=λ_=>List b8->List b8) (λl=>l) (λ_ ih l=>ih (tlB l)) n l)
@[reducible] def xit(o:Option Nat):f8:=Option.rec (motive:=λ_=>f8) .ret (λid=>.exit id) o
theorem Lf9(o:Option Nat):xit o≠.normal:=by cases o<;>exact λh=>by cases h
abbrev Xs(π σ:Type):=List (Option Nat×(π->σ->St))
def xOf{π σ:Type}(xs:Xs π σ)(p:π)(s:σ)(t:Nat):Nat->Option (f8×St) :=
 List.rec (motive:=λ_=>Nat->Option (f8×St)) (λ_=>none) (λx _ ih k=>sel (Nat.beq t k) (some (xit x.1,x.2 p s)) (ih (k+1))) xs
def Mf0{π σ:Type}(xs:Xs π σ)(p:π)(r:Nat×σ):Nat->DT (f8×St) :=
 List.rec (motive:=λ_=>Nat->DT (f8×St)) (λ_=>.fail) (λx _ ih k=>.ite (Nat.beq r.1 k) (.ret (xit x.1,x.2 p r.2)) (ih (k+1))) xs
theorem de3{π σ:Type}(p:π)(r:Nat×σ):∀(xs:Xs π σ) (k:Nat),(Mf0 xs p r k).run=xOf xs p r.2 r.1 k
 |[],k=>rfl
 |x::xs,k=>by
  show (DT.ite (Nat.beq r.1 k) (.ret (xit x.1,x.2 p r.2)) (Mf0 xs p r (k+1))).run=sel (Nat.beq r.1 k) (some (xit x.1,x.2 p r.2)) (xOf xs p r.2 r.1 (k+1));rw[DT.run_ite,de3 p r xs (k+1)];cases Nat.beq r.1 k<;>rfl
theorem jd7{π σ:Type}(p:π)(s:σ):∀(xs:Xs π σ) (k:Nat),xOf xs p s 0 (k+1)=none
 |[],_=>rfl
 |_::xs,k=>jd7 p s xs (k+1)
theorem Be9{π σ:Type}{p:π}{s:σ}{t:Nat}{e:f8×St}:∀{xs:Xs π σ} {k:Nat},xOf xs p s t k=some e->e.1≠.normal
 |[],_,h=>by cases h
 |x::xs,k,h=>by
  have h:sel (Nat.beq t k) (some (xit x.1,x.2 p s)) (xOf xs p s t (k+1))=some e:=h;cases hb:Nat.beq t k with
  |true=>rw[hb] at h;cases h;exact Lf9 _
  |false=>rw[hb] at h;exact Be9 h
theorem de4 {π σ : Type} {head : St → DT St} {body : St → DT (f8 × St)} {enc : σ → St} {step : σ → Stp σ} {xs : Xs π σ} {p : π}
  (h:∀s,(Vb3 head body (enc s)).run=hc7 (λs'=>some (.normal,enc s')) (λt=>xOf xs p s t 1) none (step s)) :
  ∀(n:Nat) (s:σ) (e:f8×St),xOf xs p (lp0 step n s).2 (lp0 step n s).1 1=some e->(yc0 head body n (enc s)).run=some e
 |n,s,e,he=>by
  have hr:=h s;cases hs:step s with
  |fail =>
   have h0:lp0 step n s=(0,s):=by
    cases n with
    |zero=>show hc7 _ _ _ (step s)=_;rw[hs]
    |succ n=>show hc7 _ _ _ (step s)=_;rw[hs]
   rw[h0] at he;rw[show xOf xs p s 0 1=none from jd7 p s xs 0] at he
   cases he
  |exit t =>
   rw[jd2 hs] at he;rw[hs] at hr;have hr:(Vb3 head body (enc s)).run=xOf xs p s t 1:=hr;have he:xOf xs p s t 1=some e:=he;rw[he] at hr;obtain⟨x,t'⟩:=e;exact tf2 hr (Be9 he)
  |next s' =>
   cases n with
   |zero =>
    have h0:lp0 step 0 s=(0,s):=by show hc7 _ _ _ (step s)=_;rw[hs]
    rw[h0] at he;rw[show xOf xs p s 0 1=none from jd7 p s xs 0] at he
    cases he
   |succ n =>
    rw[ce7 hs] at he;rw[hs] at hr;exact tf1 hr (de4 h n s' e he)
section
variable{π σ:Type}
def Gd7(head:Nat->List Nat->St->DT St)(k:Nat)(keep:List Nat)(alts:List (Al2 π σ))(step:π->σ->Stp σ)(xs:Xs π σ)(s:St):DT (f8×St) :=
 (head k keep s).bind λt=>(uf4 alts t).bind λq=>Mf0 xs q.1 (lp (step q.1) q.2) 1
structure ic2(head:Nat->List Nat->St->DT St)(k:Nat)(keep:List Nat)(body:St->DT (f8×St))(alts:List (Al2 π σ))(step:π->σ->Stp σ)(xs:Xs π σ)(enc:π->σ->St):Prop where
 ha:bb0 (λx=>∀a H,(⟨Le9 x.sh a,Me0 x.bl H⟩:St)=enc (x.rd a H).1 (x.rd a H).2) alts
 h:∀p s,(Vb3 (head k keep) body (enc p s)).run=hc7 (λs'=>some (.normal,enc p s')) (λt=>xOf xs p s t 1) none (step p s)
variable{E:Env}{k:Nat}{res:List Mc5}{keep:List Nat}{alts:List (Al2 π σ)}{enc:π->σ->St}{step:π->σ->Stp σ}{xs:Xs π σ}{body:PS}{c:PC}{head:Nat->List Nat->St->DT St}{bd:St->DT (f8×St)}
theorem ic2.go(w:ic2 head k keep bd alts step xs enc){s:St}{r:f8×St}(hr:(Gd7 head k keep alts step xs s).run=some r):∃t,(head k keep s).run=some t/\(yc0 (head k keep) bd rounds t).run=some r:=by
 obtain⟨t,h1,h2⟩:=DT.run_bind_some hr;obtain⟨q,h3,h4⟩:=DT.run_bind_some h2;rw[de3,We9] at h4;have e:=Qd3 w.ha.mem h3;refine⟨t,h1,?_⟩;rw[e];exact de4 (w.h q.1) rounds q.2 r h4
theorem ic2.belowC(hb:ta6 E k res body c)(hN:E.N=rounds+1)(w:ic2 hc6 k keep (Be3 E k res body) alts step xs enc)(s:St):la2 k res (Gd7 hc6 k keep alts step xs s) (S7 E k (.loop keep c) s):=λr hr=>by
 obtain⟨t,h1,h2⟩:=w.go hr;rw[Gd6,hN];exact hc8 hb.le _ _ r (qc3 h1 h2)
end
inductive RT where
 |p
 |s (a c:RT)
 |c (x y:RT)
 |b (c:RT)
 |l (c:RT)
 |i (c:RT)
 |u (S:St->DT (f8×St))
def xd6:RT->PC->PS
 |.s a b,.seq x y=>.seq (xd6 a x) (xd6 b y)
 |.c a b,.cond g x y=>.cond g (xd6 a x) (xd6 b y)
 |.b a,.block id x=>.block id (xd6 a x)
 |.l a,.loop keep x=>.loop keep (xd6 a x)
 |.u S,_=>.sum S
 |_,c=>.pc c
def sc3:RT->PC->List ((St->DT (f8×St))×PC)
 |.s a b,.seq x y=>app (sc3 a x) (sc3 b y)
 |.c a b,.cond _ x y=>app (sc3 a x) (sc3 b y)
 |.b a,.block _ x=>sc3 a x
 |.l a,.loop _ x=>sc3 a x
 |.i a,.inner _ _ _ x=>sc3 a x
 |.u S,c=>[(S,c)]
 |_,_=>[]
theorem bb0.app{α:Type}{Q:α->Prop}:∀{l r:List α},bb0 Q (Go.Ev.app l r)->bb0 Q l/\bb0 Q r
 |[],_,h=>⟨.nil,h⟩
 |_::l,_,.cons h t=>⟨.cons h (bb0.app t).1,(bb0.app t).2⟩
theorem Ce0{E:Env}{k:Nat}{res:List Mc5}(rt:RT)(c:PC):bb0 (λx=>∀s,la2 k res (x.1 s) (S7 E k x.2 s)) (sc3 rt c)->ta6 E k res (xd6 rt c) c:=by
 induction rt generalizing c with
 |p=>intro h;cases c<;>exact .pc _
 |s a b iha ihb =>
  intro h;cases c with
  |seq x y=>exact .seq (iha x (bb0.app h).1) (ihb y (bb0.app h).2)
  |_=>exact .pc _
 |c a b iha ihb =>
  intro h;cases c with
  |cond g x y=>exact .cond g (iha x (bb0.app h).1) (ihb y (bb0.app h).2)
  |_=>exact .pc _
 |b a iha =>
  intro h;cases c with
  |block id x=>exact .block id (iha x h)
  |_=>exact .pc _
 |l a iha =>
  intro h;cases c with
  |loop keep x=>exact .loop keep (iha x h)
  |_=>exact .pc _
 |i a iha=>intro h;cases c<;>exact .pc _
 |u S =>
  intro h
  have:sc3 (.u S) c=[(S,c)]:=by cases c<;>rfl
  rw[this] at h;cases h with
  |cons h t =>
   have e:xd6 (.u S) c=.sum S:=by cases c<;>rfl
   rw[e];exact .sum h
def eg0(l:List Nat)(c:PC):PC :=
 List.rec (motive:=λ_=>PC->PC) (λc=>c) (λn _ ih c=>match c with
  |.seq x y=>ih (match n with | 0=>x | _=>y)
  |.cond _ x y=>ih (match n with | 2=>x | _=>y)
  |.block _ x=>ih x
  |.loop _ x=>ih x
  |.loopM _ x=>ih x
  |.inner _ _ _ x=>ih x
  |c=>c) l c
theorem Xe8(n:Int):W n=(n+9223372036854775808) % 18446744073709551616-9223372036854775808:=IntKind.wrap_i64 n
theorem ka3{n:Int}(h1:-9223372036854775808<=n)(h2:n<=9223372036854775807):W n=n:=by rw[Xe8];omega
theorem Ce1(n:Int):∃k,W n=n+18446744073709551616*k:=⟨-((n+9223372036854775808) / 18446744073709551616),by rw[Xe8];omega⟩
theorem qc4(n k:Int):W (n+18446744073709551616*k)=W n:=by rw[Xe8,Xe8];omega
theorem sb1(a b:Int):W (W a+b)=W (a+b):=by
 obtain⟨k,hk⟩:=Ce1 a;rw[hk,show a+18446744073709551616*k+b=a+b+18446744073709551616*k by omega,qc4]
theorem Vb4(a b:Int):W (a+W b)=W (a+b):=by rw[Int.add_comm,sb1,Int.add_comm]
theorem jd8(a b:Int):W (W a-b)=W (a-b):=by
 obtain⟨k,hk⟩:=Ce1 a;rw[hk,show a+18446744073709551616*k-b=a-b+18446744073709551616*k by omega,qc4]
theorem Qd4(a b:Int):W (a-W b)=W (a-b):=by
 obtain⟨k,hk⟩:=Ce1 b;rw[hk,show a-(b+18446744073709551616*k)=a-b+18446744073709551616*(-k) by omega,qc4]
theorem ue2(a b:Int):W (W a*b)=W (a*b):=by
 obtain⟨k,hk⟩:=Ce1 a;rw[hk,show (a+18446744073709551616*k)*b=a*b+18446744073709551616*(k*b) by grind,qc4]
theorem Xe9(a b:Int):W (a*W b)=W (a*b):=by rw[Int.mul_comm,ue2,Int.mul_comm]
theorem n8{j n:Nat}(h:j<n)(hn:n<=4611686018427387904):W ((j:Int)+1)=((j+1:Nat):Int):=by
 rw[ka3 (by omega) (by omega)];omega
theorem ic3{j n:Nat}(h:j<n):decide ((j:Int)<(n:Int))=true:=decide_eq_true (by omega)
theorem Vb5{j n:Nat}(h:¬ j<n):decide ((j:Int)<(n:Int))=false:=decide_eq_false (by omega)
theorem e8{j n:Nat}(h:j<n):inB (j:Int) n=true:=by
 show Nat.blt j n=true;rw[Qdv];exact h
theorem Qd5(m:Int)(n:Nat):inB m n=decide (0<=m/\m<n):=by
 unfold inB;cases m with
 |ofNat k =>
  rw[Bool.eq_iff_iff,decide_eq_true_eq];show Nat.blt k n=true↔_;rw[Qdv];constructor
  ·intro h;exact⟨Int.natCast_nonneg k,Int.ofNat_lt.2 h⟩
  ·intro h;exact Int.ofNat_lt.1 h.2
 |negSucc k=>exact (decide_eq_false (λh=>by omega)).symm
theorem bt{c:Bool}(h:c=true){α:Type}(t e:α):sl c t e=t:=by rw[h];rfl
theorem bf{c:Bool}(h:c=false){α:Type}(t e:α):sl c t e=e:=by rw[h];rfl
theorem fa4{n:Nat}(h:n<=1000000000000):Nat.ble (n*32) room=true:=by
 rw[Nat.ble_eq];unfold room;omega
theorem Ye0 {σ : Type} {step : σ → Stp σ} {I : Nat → σ → Prop} {Q : Nat → σ → Prop} (h : ∀ m s, I m s → (∃ t, step s = .exit t ∧ Q t s) ∨ ∃ s' m', m = m' + 1 ∧ step s = .next s' ∧ I m' s') :
  ∀(m n:Nat) (s:σ),m<=n->I m s->Q (lp0 step n s).1 (lp0 step n s).2
 |m,n,s,hn,hi=>by
  rcases h m s hi with⟨t,h1,h2⟩|⟨s',m',rfl,h1,h2⟩
  ·rw[jd2 h1];exact h2
  ·cases n with
   |zero=>omega
   |succ n =>
    rw[ce7 h1];exact Ye0 h m' n s' (by omega) h2
theorem yc3 {σ : Type} {step : σ → Stp σ} {I : Nat → σ → Prop} {Q : Nat → σ → Prop} (h : ∀ m s, I m s → (∃ t, step s = .exit t ∧ Q t s) ∨ ∃ s' m', m = m' + 1 ∧ step s = .next s' ∧ I m' s')
  (m:Nat) (s:σ) (hm:m<=18446744073709551615) (hi:I m s):Q (lp step s).1 (lp step s).2:=by
 rw[We9];exact Ye0 h m rounds s (by unfold rounds;omega) hi
section
variable{σ τ α:Type}{step:σ->Stp σ}
theorem Fc2 {mk : Nat → τ → σ} {f : τ → α → τ} {fin : Nat} (t : Ty α) (l : List α) (I : Nat → τ → Prop) (hl : l.length ≤ 1000000000)
  (h:∀j a,j<l.length->I j a->step (mk j a)=.next (mk (j+1) (f a (gL t l j)))/\I (j+1) (f a (gL t l j)))
  (hf:∀a,I l.length a->step (mk l.length a)=.exit fin) (j0:Nat) (hj:j0<=l.length) (a:τ) (hi:I j0 a) :
  lp step (mk j0 a)=(fin,mk l.length ((l.drop j0).foldl f a))/\I l.length ((l.drop j0).foldl f a):=by
 have key:=yc3 (step:=step) (I:=λm s=>∃j b,m=l.length-j/\j<=l.length/\s=mk j b/\I j b/\(l.drop j).foldl f b=(l.drop j0).foldl f a)
  (Q:=λu s=>u=fin/\s=mk l.length ((l.drop j0).foldl f a)/\I l.length ((l.drop j0).foldl f a)) (λm s ⟨j,b,hm,hj,hs,hb,he⟩=>by
   subst hs;by_cases hlt:j<l.length
   ·obtain⟨h1,h2⟩:=h j b hlt hb;refine .inr ⟨_,l.length-(j+1),by omega,h1,j+1,_,rfl,by omega,rfl,h2,?_⟩
    rw[<- he,Qdk hlt,List.foldl_cons];simp[gL,Qdf,Qdb hlt]
   ·have:j=l.length:=by omega
    subst this;have he:b=(l.drop j0).foldl f a:=by rw[<- he];simp
    subst he;exact .inl ⟨fin,hf _ hb,rfl,rfl,hb⟩) (l.length-j0) (mk j0 a) (by omega) ⟨j0,a,rfl,hj,rfl,hi,rfl⟩
 exact⟨by rw[<- key.2.1,<- key.1],key.2.2⟩
theorem Xa3 {mk : Nat → σ} {c : α → Bool} {u fin : Nat} (t : Ty α) (l : List α) (hl : l.length ≤ 1000000000)
  (h:∀j,j<l.length->step (mk j)=sl (c (gL t l j)) (.exit u) (.next (mk (j+1)))) (hf:step (mk l.length)=.exit fin) (j0:Nat) (hj:j0<=l.length) :
  (lp step (mk j0)).1=if (l.drop j0).any c then u else fin :=
 yc3 (step:=step) (I:=λm s=>∃j,m=l.length-j/\j<=l.length/\s=mk j/\(l.drop j).any c=(l.drop j0).any c)
  (Q:=λv _=>v=if (l.drop j0).any c then u else fin) (λm s ⟨j,hm,hj,hs,he⟩=>by
   subst hs;by_cases hlt:j<l.length
   ·have h1:=h j hlt;have e:gL t l j=l[j]:=by simp[gL,Qdf,Qdb hlt]
    have e2:(l.drop j).any c=(c l[j]||(l.drop (j+1)).any c):=by rw[Qdk hlt,List.any_cons]
    rw[e] at h1;cases hc:c l[j] with
    |true =>
     rw[hc] at h1;refine .inl ⟨u,h1,?_⟩;rw[<- he,e2,hc];rfl
    |false =>
     rw[hc] at h1;refine .inr ⟨_,l.length-(j+1),by omega,h1,j+1,rfl,by omega,rfl,?_⟩
     rw[<- he,e2,hc];rfl
   ·have:j=l.length:=by omega
    subst this;refine .inl ⟨fin,hf,?_⟩;rw[<- he];simp) (l.length-j0) (mk j0) (by omega) ⟨j0,rfl,hj,rfl,rfl⟩
theorem Va6 {mk : Nat → σ} {c : α → Bool} {u fin : Nat} (t : Ty α) (l : List α) (hl : l.length ≤ 1000000000)
  (h:∀j,j<l.length->step (mk j)=sl (c (gL t l j)) (.exit u) (.next (mk (j+1)))) (hf:step (mk l.length)=.exit fin) (j0:Nat) (hj:j0<=l.length) :
  lp step (mk j0)=if (l.drop j0).any c then (u,mk (j0+(l.drop j0).findIdx c)) else (fin,mk l.length):=by
 have key:=yc3 (step:=step) (I:=λm s=>∃j,m=l.length-j/\j<=l.length/\j0<=j/\s=mk j/\(l.drop j).any c=(l.drop j0).any c/\j+(l.drop j).findIdx c=j0+(l.drop j0).findIdx c)
  (Q:=λv s=>(v,s)=if (l.drop j0).any c then (u,mk (j0+(l.drop j0).findIdx c)) else (fin,mk l.length)) (λm s ⟨j,hm,hj,hj0,hs,he,hi⟩=>by
   subst hs;by_cases hlt:j<l.length
   ·have h1:=h j hlt;have e:gL t l j=l[j]:=by simp[gL,Qdf,Qdb hlt]
    have e2:(l.drop j).any c=(c l[j]||(l.drop (j+1)).any c):=by rw[Qdk hlt,List.any_cons]
    have e3:(l.drop j).findIdx c=if c l[j] then 0 else (l.drop (j+1)).findIdx c+1:=by rw[Qdk hlt,List.findIdx_cons];cases c l[j]<;>rfl
    rw[e] at h1;cases hc:c l[j] with
    |true =>
     rw[hc] at h1;refine .inl ⟨u,h1,?_⟩;rw[<- he,e2,hc,<- hi,e3,hc];rfl
    |false =>
     rw[hc] at h1;refine .inr ⟨_,l.length-(j+1),by omega,h1,j+1,rfl,by omega,by omega,rfl,?_,?_⟩
     ·rw[<- he,e2,hc];rfl
     ·rw[<- hi,e3,hc];simp only[Bool.false_eq_true,if_false];omega
   ·have:j=l.length:=by omega
    subst this;refine .inl ⟨fin,hf,?_⟩;rw[<- he];simp) (l.length-j0) (mk j0) (by omega) ⟨j0,rfl,hj,Qde _,rfl,rfl,rfl⟩
 exact key
end
theorem ya6{α:Type}(t:Ty α){l:List α}{j:Nat}(h:j<l.length):gL t l j∈l:=by
 simp[gL,Qdf,Qdb h]
theorem Ya7{α:Type}(t:Ty α){l:List α}{j:Nat}(h:j<l.length):gL t l j=l[j]:=by
 simp[gL,Qdf,Qdb h]
def euF:Nat->Int->Int->Int
 |0,g,_=>g
 |k+1,g,n=>if n=0 then g else euF k n (Int.tmod g n)
def eu(g n:Int):Int:=euF (n.natAbs+1) g n
theorem jb1{g n:Int}(h:n≠0):(Int.tmod g n).natAbs<n.natAbs:=by
 rw[Int.natAbs_tmod];exact Nat.mod_lt _ (by omega)
theorem de5:∀(k m:Nat) {g n:Int},n.natAbs<k->n.natAbs<m->euF k g n=euF m g n
 |0,_,_,_,h,_=>by omega
 |_+1,0,_,_,_,h=>by omega
 |k+1,m+1,g,n,h1,h2=>by
  unfold euF;by_cases h:n=0
  ·rw[if_pos h,if_pos h]
  ·rw[if_neg h,if_neg h]
   have:=jb1 (g:=g) h
   exact de5 k m (by omega) (by omega)
theorem qc5(g:Int):eu g 0=g:=by simp[eu,euF]
theorem dd7{g n:Int}(h:n≠0):eu g n=eu n (Int.tmod g n):=by
 have:=jb1 (g:=g) h
 unfold eu
 conv=>lhs;unfold euF
 rw[if_neg h];exact de5 _ _ (by omega) (by omega)
theorem Mf1:∀(k:Nat) (g n:Int),n.natAbs<=k->(eu g n).natAbs=Int.gcd g n:=by
 intro k
 induction k with
 |zero =>
  intro g n h
  have:n=0:=by omega
  subst this;rw[qc5];simp
 |succ k ih =>
  intro g n h;by_cases h0:n=0
  ·subst h0;rw[qc5];simp
  ·have:=jb1 (g:=g) h0
   rw[dd7 h0,ih n (Int.tmod g n) (by omega)]
   unfold Int.gcd;rw[Int.natAbs_tmod,Nat.gcd_comm g.natAbs,Nat.gcd_comm n.natAbs,<- Nat.gcd_rec]
theorem Ye1(g n:Int):(eu g n).natAbs=Int.gcd g n:=Mf1 _ g n (Qde _)
theorem Me1:∀(k:Nat) (g n:Int),n.natAbs<=k->0<=g->0<=n->0<=eu g n:=by
 intro k
 induction k with
 |zero =>
  intro g n h hg _
  have:n=0:=by omega
  subst this;rw[qc5];exact hg
 |succ k ih =>
  intro g n h hg hn;by_cases h0:n=0
  ·subst h0;rw[qc5];exact hg
  ·have:=jb1 (g:=g) h0
   rw[dd7 h0];exact ih n _ (by omega) hn (Int.tmod_nonneg _ hg)
theorem Ye2{g n:Int}(hg:0<=g)(hn:0<=n):eu g n=(Int.gcd g n:Int):=by
 have h1:=Me1 _ g n (Qde _) hg hn;have h2:=Ye1 g n;omega
section
variable{σ:Type}{step:σ->Stp σ}{mk:Int->Int->σ}
theorem Ce2(h:∀g n,n≠0->step (mk g n)=.next (mk n (Int.tmod g n)))(h0:∀g,step (mk g 0)=.exit 1)(g n:Int)(hn:n.natAbs<=9223372036854775808):lp step (mk g n)=(1,mk (eu g n) 0):=by
 have:=yc3 (step:=step) (I:=λm s=>∃a c,s=mk a c/\c.natAbs<=m/\eu a c=eu g n) (Q:=λu s=>(u,s)=(1,mk (eu g n) 0)) (λm s ⟨a,c,hs,hm,he⟩=>by
  subst hs;by_cases hc:c=0
  ·subst hc;rw[qc5] at he;subst he;exact .inl ⟨1,h0 _,rfl⟩
  ·have ht:=jb1 (g:=a) hc;exact .inr ⟨_,m-1,by omega,h a c hc,c,_,rfl,by omega,by rw[<- he,dd7 hc]⟩) n.natAbs (mk g n) (by omega) ⟨g,n,rfl,Qde _,rfl⟩
 exact this
theorem Uc7(h:∀g n,0<n->step (mk g n)=.next (mk n (Int.tmod g n)))(h0:∀g,step (mk g 0)=.exit 1)(g n:Int)(hg:0<=g)(h1:0<=n)(hn:n<=9223372036854775808):lp step (mk g n)=(1,mk (eu g n) 0):=by
 have:=yc3 (step:=step) (I:=λm s=>∃a c,s=mk a c/\c.natAbs<=m/\0<=a/\0<=c/\eu a c=eu g n) (Q:=λu s=>(u,s)=(1,mk (eu g n) 0)) (λm s ⟨a,c,hs,hm,ha,hc0,he⟩=>by
  subst hs;by_cases hc:c=0
  ·subst hc;rw[qc5] at he;subst he;exact .inl ⟨1,h0 _,rfl⟩
  ·have ht:=jb1 (g:=a) hc;exact .inr ⟨_,m-1,by omega,h a c (by omega),c,_,rfl,by omega,hc0,Int.tmod_nonneg _ ha,by rw[<- he,dd7 hc]⟩) n.natAbs (mk g n) (by omega) ⟨g,n,rfl,Qde _,hg,h1,rfl⟩
 exact this
end
theorem mb{a c A C:Int}(h1:-A<=a)(h2:a<=A)(h3:-C<=c)(h4:c<=C):-(A*C)<=a*c/\a*c<=A*C:=by
 have hA:a.natAbs<=A.natAbs:=by omega
 have hC:c.natAbs<=C.natAbs:=by omega
 have h5:=Nat.mul_le_mul hA hC;rw[<- Int.natAbs_mul,<- Int.natAbs_mul] at h5;have h6:0<=A*C:=Int.mul_nonneg (by omega) (by omega)
 omega
end Go.Ev.L
namespace Go.Ev
open Go
def FW(F:Fence):Prop:=∃r,F={ Fence.wide with round:=r }
theorem FW.wide:FW Fence.wide:=⟨none,rfl⟩
theorem FW.inRound(l:Nat):FW (Fence.wide.inRound l):=⟨some l,rfl⟩
section
variable{F:Fence}{n:Nat}{P:Program}
theorem FW.fn(h:FW F)(f:FuncId):F.fn f:=by obtain⟨r,rfl⟩:=h;trivial
theorem FW.dep(h:FW F):F.depth=none:=by obtain⟨r,rfl⟩:=h;rfl
theorem FW.depS(h:FW F){p:Prop}:F.depth.isSome=true->p:=λhd=>by rw[h.dep] at hd;cases hd
theorem FW.fenced(h:FW F):Machine.fenced P F=Machine.fenced P Fence.wide:=by obtain⟨r,rfl⟩:=h;rfl
theorem FW.room(h:FW F)(k:Nat):F.room k:=λd hd=>by rw[h.dep] at hd;cases hd
theorem FW.calls(h:FW F){f:FuncId}{args:Array Value}{w:World}{R:Ending->World->Prop}:CallsIn F n P f args w R↔Calls P f args w R:=by
 refine Iff.trans ?_ (callsIn_wide (n:=n));obtain⟨r,rfl⟩:=h;exact⟨λh=>h,λh=>h⟩
theorem FW.rows(h:FW F){row:String}{args:Array Value}{w:World}{R:Value->World->Prop}(hr:Rows P row args w R):RowsIn F n P row args w R:=λc cs _=>by
 obtain⟨v,w',h1,h2⟩:=hr c cs;refine⟨v,w',h1,?_⟩;rw[h.fenced];exact stepsIn_wide.2 h2
end
section
variable{P:Program}{o:Oper}{ac:Act}{w:World}{post:Value->World->Prop}
theorem j9.inAny(h:j9 P o { ac with defers:=[] } w post){F:Fence}(hF:FW F)(n:Nat)(next:Act->World->Prop)(Q:Exit->Act->World->Prop)(hp:∀x' w',post x' w'->next (ac.put o.dst x') w'):o.wpIn F n P ac w next Q:=by
 have hput:∀v,({ ac with defers:=[] }:Act).put o.dst v={ ac.put o.dst v with defers:=[] }:=λv=>by cases o.dst<;>rfl
 have hinj:∀v x',({ ac with defers:=[] }:Act).put o.dst v=({ ac with defers:=[] }:Act).put o.dst x'->ac.put o.dst v=ac.put o.dst x':=λv x' e=>by
  rw[hput,hput] at e;have e1:=congrArg Act.tmps e
  revert e1
  cases o.dst with
  |none=>intro _;rfl
  |some d=>intro e1;show ({ ac with tmps:=_ }:Act)={ ac with tmps:=_ };congr 1
 have hnd:∀c,o.op≠.defer c:=λc hc=>by
  have h0:=h (λa' _=>a'.defers=[]) (λ_ _ _=>False) (λx' w' _=>by rw[hput])
  unfold Oper.wp at h0;have e:execOp ({ ac with defers:=[] }:Act).eval o=(do return .defer (<- resolve ({ ac with defers:=[] }:Act).eval c o.type)):=by unfold execOp;simp[hc]
  rw[e] at h0;simp only[Sem.run_bind] at h0;cases hr:(resolve ({ ac with defers:=[] }:Act).eval c o.type).run P w with
  |ok d w1 =>
   rw[hr] at h0;have h0:({ ({ ac with defers:=[] }:Act) with defers:=d::[] }.put o.dst undef).defers=[]:=h0
   revert h0
   cases o.dst<;>intro h0<;>cases h0
  |halt x w1 =>
   rw[hr] at h0;cases x<;>exact h0
 have h0:=h (λa' w'=>∃x',post x' w'/\a'=({ ac with defers:=[] }:Act).put o.dst x') (λ_ _ _=>False) (λx' w' hx=>⟨x',hx,rfl⟩)
 unfold Oper.wp at h0;refine⟨λf _=>hF.fn f,?_⟩
 rw[Oper.semAt_eq _ _ _ hnd];have hev:(execOp ac.eval o)=execOp ({ ac with defers:=[] }:Act).eval o:=rfl
 rw[hev]
 revert h0
 generalize (execOp ({ ac with defers:=[] }:Act).eval o).run P w=r
 intro h0;have hnext:∀v w',(∃x',post x' w'/\({ ac with defers:=[] }:Act).put o.dst v=({ ac with defers:=[] }:Act).put o.dst x')->next (ac.put o.dst v) w':=λv w' ⟨x',h1,h2⟩=>by
  rw[hinj v x' h2];exact hp x' w' h1
 cases r with
 |ok q w' =>
  cases q with
  |value v=>exact hnext v w' h0
  |skip=>exact hnext undef w' h0
  |defer d =>
   obtain⟨x',_,h2⟩:=h0;rw[hput] at h2
   have:=congrArg Act.defers h2
   revert this
   cases o.dst<;>intro h<;>cases h
  |enter f args =>
   refine⟨λhd=>hF.depS hd,hF.calls.2 ?_⟩
   have h0:Calls P f args w' _:=h0;refine h0.mono λe w'' he=>?_
   cases e with
   |returned v=>exact hnext v w'' he
   |panicked ch=>exact he.elim
   |outgrown=>obtain⟨a0,w0,hq⟩:=he;exact hq.elim
  |row row args =>
   refine⟨λhd=>hF.depS hd,hF.rows ?_⟩
   have h0:Rows P row args w' _:=h0;exact λc cs=>by
    obtain⟨v,w'',h1,h2⟩:=h0 c cs;exact⟨v,w'',hnext v w'' h1,h2⟩
  |round l f tmps asq body=>exact h0.elim
  |_=>exact h0.elim
 |halt x w' =>
  cases x with
  |panic v=>exact h0.elim
  |_=>exact h0.elim
end
section
variable{W W' WB:Nat->Prop}{ρ ρ0 ρ':Rho}{H H0 H1:List b8}{F F0 F':Fz}{w w0 w':World}{P:Program}
theorem Ab7(H:List b8):q9 H=H.map λb=>Bool.rec (motive:=λ_=>b8) b { b with dead:=true } (G8 b):=by unfold q9;rw[p6]
theorem Me2:(q9 H).length=H.length:=by rw[Ab7];simp
theorem sa9{id:Nat}{b:b8}(hb:H[id]?=some b)(hs:G8 b=false):(q9 H)[id]?=some b:=by
 rw[Ab7,Qdi,hb];simp[hs]
theorem jd9{id:Nat}{b:b8}(hb:H[id]?=some b)(hs:G8 b=true):(q9 H)[id]?=some { b with dead:=true }:=by
 rw[Ab7,Qdi,hb];simp[hs]
theorem wa4{id:Nat}{b:b8}(hb:(q9 H)[id]?=some b)(hd:b.dead=false):H[id]?=some b/\G8 b=false:=by
 rw[Ab7,Qdi] at hb;cases h:H[id]? with
 |none=>rw[h] at hb;cases hb
 |some c =>
  rw[h] at hb;cases hs:G8 c with
  |false=>simp[hs] at hb;subst hb;exact⟨rfl,hs⟩
  |true=>simp[hs] at hb;subst hb;cases hd
def Fc3(H:List b8)(id:Nat):Prop:=∃b,H[id]?=some b/\G8 b=true
def ρsp(H:List b8)(ρ ρ':Rho):Rho:=λid=>@ite _ (Fc3 H id) (Classical.propDecidable _) (ρ id) (ρ' id)
theorem ρsp_on{id:Nat}(h:Fc3 H id):ρsp H ρ ρ' id=ρ id:=by unfold ρsp;rw[if_pos h]
theorem ρsp_off{id:Nat}(h:¬ Fc3 H id):ρsp H ρ ρ' id=ρ' id:=by unfold ρsp;rw[if_neg h]
theorem de6:∀(H1:List b8),Cc2 [] H1=true->∀(id:Nat) c,H1[id]?=some c->G8 c=false
 |[],_,id,c,hc=>by simp at hc
 |d::r,ho,id,c,hc=>by
  have ho:Bool.and (Bool.rec (motive:=λ_=>Bool) true false (G8 d)) (Cc2 [] r)=true:=ho
  simp only[Qdc] at ho;cases id with
  |zero =>
   simp at hc;subst hc
   have:=ho.1
   cases h:G8 d with
   |false=>rfl
   |true=>rw[h] at this;cases this
  |succ id=>exact de6 r ho.2 id c (by simpa using hc)
theorem kd0 : ∀ (H H1 : List b8), H.length ≤ H1.length → Cc2 H H1 = true → (C4 H H1).length = H1.length ∧
  (∀(id:Nat) b,H[id]?=some b->G8 b=true->(C4 H H1)[id]?=some b) /\
  (∀(id:Nat),¬ Fc3 H id->(C4 H H1)[id]?=H1[id]?/\∀c,H1[id]?=some c->G8 c=false)
 |[],H1,_,ho=>by
  refine⟨rfl,λid b hb=>by simp at hb,λid _=>⟨rfl,λc hc=>?_⟩⟩
  exact de6 H1 ho id c hc
 |b::H,[],hl,_=>by simp at hl
 |b::H,c::H1,hl,ho=>by
  have ho:Bool.and (Bool.rec (motive:=λ_=>Bool) (Bool.rec true false (G8 c)) true (G8 b)) (Cc2 H H1)=true:=ho
  simp only[Qdc] at ho;obtain⟨h1,h2,h3⟩:=kd0 H H1 (by simpa using hl) ho.2
  have e:C4 (b::H) (c::H1)=Bool.rec (motive:=λ_=>b8) c b (G8 b)::C4 H H1:=rfl
  rw[e];refine⟨by simp[h1],λid d hd hs=>?_,λid hn=>?_⟩
  ·cases id with
   |zero=>simp at hd;subst hd;simp[hs]
   |succ id=>simpa using h2 id d (by simpa using hd) hs
  ·cases id with
   |zero =>
    have hb:G8 b=false:=by
     cases h:G8 b with
     |false=>rfl
     |true=>exact absurd ⟨b,rfl,h⟩ hn
    rw[hb] at ho ⊢;refine⟨rfl,λd hd=>?_⟩
    simp at hd;subst hd
    have:=ho.1
    cases h:G8 c with
    |false=>rfl
    |true=>rw[h] at this;cases this
   |succ id =>
    obtain⟨k1,k2⟩:=h3 id λ⟨d,hd,hs⟩=>hn ⟨d,by simpa using hd,hs⟩
    exact⟨by simpa using k1,λd hd=>k2 d (by simpa using hd)⟩
def de7(b:b8):Prop:=b.es=0/\b.et=0
def de8(t:Nat)(b:b8):Prop:=b.es=0/\b.et=t+1
inductive XC (ρ:Rho) (H:List b8) (F:Fz) (w:World):b7->Value->Prop
 |n {x:b7} {x':Value} (h:ja0 ρ (q9 H) F w x x'):XC ρ H F w x x'
 |box (id c g:Nat) (b:b8) (hb:H[id]?=some b) (hd:b.dead=false) (he:de7 b):XC ρ H F w (.ptr id 0 c g) (.pointer (some ⟨(ρ id).blk,c,none⟩))
 |map (id c g:Nat) (b:b8) (t:Nat) (hb:H[id]?=some b) (hd:b.dead=false) (he:de8 t b):XC ρ H F w (.ptr id 0 c g) (.map (some (ρ id).blk))
inductive XW (ρ:Rho) (H:List b8) (F:Fz) (w:World):b7->Value->Prop
 |w {x:b7} {x':Value} (h:G3 ρ (q9 H) F w x x'):XW ρ H F w x x'
 |c {x:b7} {x':Value} (h:XC ρ H F w x x'):XW ρ H F w x x'
theorem Ab8{b:b8}(h:de7 b):G8 b=true:=by unfold G8;rw[h.1];rfl
theorem Ab9{b:b8}{t:Nat}(h:de8 t b):G8 b=true:=by unfold G8;rw[h.1];rfl
theorem XC.one{x:b7}{x':Value}(h:XC ρ H F w x x')(hb:Je1 x=true):x'.oneCell'=true:=by
 cases h with
 |n h =>
  cases h with
  |mem h=>exact h.one
  |v=>exact (by rw[<- Cc9];exact hb)
  |ptr=>rfl
  |sl=>rfl
  |tptr=>cases hb
  |unk=>cases hb
 |box=>rfl
 |map=>rfl
structure Mf2(ρ:Rho)(H:List b8)(F:Fz)(w:World)(b:b8)(blk:Nat):Prop where
 et:de7 b
 has:∃row vs t,b.elems=[row]/\w.heap[blk]?=some (.cells vs t (0,0))/\row.length=vs.size/\∀(c:Nat) x x',row[c]?=some x->vs[c]?=some x'->x'.oneCell'=true/\XC ρ H F w x x'
def kd1(fl:List (Nat×CK))(kl:Nat)(r:List b7)(e:MapEntry):Prop:=∃(ks:Array Value) (v:Bool),r=ks.toList.map .v++[.v (.bool v)]/\ks.size=kl/\e.key=.agg ks/\e.val=.bool v/\∀p∈fl,Na9 ks p
structure Mf3(P:Program)(w:World)(b:b8)(blk:Nat):Prop where
 has:∃t K El fl es clk,de8 t b/\P.underlying t=some (.map K El)/\ga6 P 9 K=some fl/\w.heap[blk]?=some (.map es clk)/\b.elems.length=es.size /\
  ∀(i:Nat) r e,b.elems[i]?=some r->es[i]?=some e->kd1 fl (szT P K) r e
structure Ye3(P:Program)(WB W':Nat->Prop)(ρ:Rho)(H:List b8)(F:Fz)(w:World):Prop where
 has:∀(id:Nat) b,H[id]?=some b->G8 b=true->b.dead=false->WB (ρ id).blk/\¬ W' (ρ id).blk/\(∀o,¬ F (ρ id).blk o)/\(ρ id).blk<w.heap.size/\(Mf2 ρ H F w b (ρ id).blk\/Mf3 P w b (ρ id).blk)
 apart:∀(id id':Nat) b b',H[id]?=some b->H[id']?=some b'->G8 b=true->G8 b'=true->b.dead=false->b'.dead=false->id≠id'->(ρ id).blk≠(ρ id').blk
theorem Adv.mono(h:Adv W ρ H F w ρ' H1 F' w')(hW:∀k,W k->WB k):Adv WB ρ H F w ρ' H1 F' w' :=
 ⟨⟨h.ext.os,h.ext.tape,h.ext.output,h.ext.size,λk hk hn=>h.ext.block k hk λhw=>hn (hW k hw),h.ext.cells,h.ext.drawn⟩,h.heap,h.more,λb o hf=>(h.new b o hf).imp id (hW b),λid b' hb' hn=>hW _ (h.fresh id b' hb' hn)⟩
section
variable(hA:Adv W' ρ (q9 H) F w ρ' H1 F' w')(ho:Cc2 H H1=true)
include hA ho
theorem Ye4:H.length<=H1.length:=by
 rcases Qds H.length with h|h
 ·omega
 ·have hlt:H.length-1<(q9 H).length:=by rw[Me2];omega
  obtain⟨b',hb',_⟩:=hA.heap (H.length-1) _ (Qdb hlt)
  have:=(Qdd.1 hb').1
  omega
theorem qc6 : (C4 H H1).length = H1.length ∧
  (∀(id:Nat) b,H[id]?=some b->G8 b=true->(C4 H H1)[id]?=some b) /\
  (∀(id:Nat),¬ Fc3 H id->(C4 H H1)[id]?=H1[id]?/\∀c,H1[id]?=some c->G8 c=false):=kd0 H H1 (Ye4 hA ho) ho
theorem Me3{id:Nat}{b:b8}(hb:(q9 (C4 H H1))[id]?=some b)(hd:b.dead=false):H1[id]?=some b/\¬ Fc3 H id:=by
 obtain⟨h1,h2,h3⟩:=qc6 hA ho;obtain⟨k1,k2⟩:=wa4 hb hd;by_cases hs:Fc3 H id
 ·obtain⟨c,hc,hcs⟩:=hs;rw[h2 id c hc hcs] at k1;cases k1;rw[hcs] at k2;cases k2
 ·rw[(h3 id hs).1] at k1;exact⟨k1,hs⟩
theorem Me4{id:Nat}{b:b8}(hb:H1[id]?=some b)(hd:b.dead=false):(q9 (C4 H H1))[id]?=some b/\ρsp H ρ ρ' id=ρ' id:=by
 obtain⟨h1,h2,h3⟩:=qc6 hA ho;by_cases hs:Fc3 H id
 ·obtain⟨c,hc,hcs⟩:=hs;obtain⟨b',hb',hd',_⟩:=hA.heap id _ (jd9 hc hcs)
  have:b'=b:=Qdh (hb'.symm.trans hb)
  subst this;rw[hd] at hd';cases hd'
 ·obtain⟨k1,k2⟩:=h3 id hs;exact⟨sa9 (k1.trans hb) (k2 b hb),ρsp_off hs⟩
theorem kd2:Gd4 ρ' H1 (ρsp H ρ ρ') (q9 (C4 H H1)):=λid b hb hd=>by
 obtain⟨h1,h2⟩:=Me4 hA ho hb hd;exact⟨b,h1,hd,Qde _,λ_=>⟨h2,rfl,Qde _⟩⟩
theorem ue3{x:b7}{x':Value}(h:G3 ρ' H1 F' w' x x'):G3 (ρsp H ρ ρ') (q9 (C4 H H1)) F' w' x x':=h.carry (kd2 hA ho) (λ_ _ h=>h) (λ_ _ _=>rfl)
theorem Me5(hH:C6 W' ρ' H1 F' w'):C6 W' (ρsp H ρ ρ') (q9 (C4 H H1)) F' w' :=
 hH.pull (λi=>i) (λi b hb hd=>by
  obtain⟨h1,h2⟩:=Me3 hA ho hb hd;exact⟨h1,ρsp_off h2⟩) (λ_ _ _ _ _ _ _ _ e=>e)
theorem Ce3{x:b7}{x':Value}(h:XC ρ H F w x x'):XC (ρsp H ρ ρ') (C4 H H1) F' w' x x':=by
 obtain⟨h1,h2,h3⟩:=qc6 hA ho;cases h with
 |n h=>exact .n ((h.adv hA).carry (kd2 hA ho) (λ_ _ h=>h) (λ_ _ _=>rfl))
 |box id c g b hb hd he =>
  have e:ρsp H ρ ρ' id=ρ id:=ρsp_on ⟨b,hb,Ab8 he⟩;rw[<- e];exact .box id c g b (h2 id b hb (Ab8 he)) hd he
 |map id c g b t hb hd he =>
  have e:ρsp H ρ ρ' id=ρ id:=ρsp_on ⟨b,hb,Ab9 he⟩;rw[<- e];exact .map id c g b t (h2 id b hb (Ab9 he)) hd he
theorem uf5{x:b7}{x':Value}(h:XW ρ H F w x x'):XW (ρsp H ρ ρ') (C4 H H1) F' w' x x':=by
 cases h with
 |w h=>exact .w (ue3 hA ho (h.adv hA))
 |c h=>exact .c (Ce3 hA ho h)
theorem Me6(hS:Ye3 P WB W' ρ H F w):Ye3 P WB W' (ρsp H ρ ρ') (C4 H H1) F' w':=by
 obtain⟨h1,h2,h3⟩:=qc6 hA ho;have hold:∀(id:Nat) b,(C4 H H1)[id]?=some b->G8 b=true->H[id]?=some b/\Fc3 H id:=λid b hb hs=>by
  by_cases hsp:Fc3 H id
  ·obtain⟨c,hc,hcs⟩:=hsp;rw[h2 id c hc hcs] at hb;obtain rfl:c=b:=Qdh hb;exact⟨hc,c,hc,hcs⟩
  ·obtain⟨k1,k2⟩:=h3 id hsp;rw[k1] at hb;rw[k2 b hb] at hs;cases hs
 refine⟨λid b hb hs hd=>?_,λid id' b b' hb hb' hs hs' hd hd' hne=>?_⟩
 ·obtain⟨hb0,hsp⟩:=hold id b hb hs;obtain⟨k1,k2,k3,k4,k5⟩:=hS.has id b hb0 hs hd;have hblk:w'.heap[(ρ id).blk]?=w.heap[(ρ id).blk]?:=hA.ext.block _ k4 k2;rw[ρsp_on hsp];refine⟨k1,k2,λo hf=>?_,Qdm k4 hA.ext.size,?_⟩
  ·rcases hA.new _ _ hf with h|h
   ·exact k3 o h
   ·exact k2 h
  ·rcases k5 with⟨e,row,vs,t,m1,m2,m3,m4⟩|⟨t,K,El,fl,es,clk,m1,m2,m3,m4,m5,m6⟩
   ·exact .inl ⟨e,row,vs,t,m1,hblk.trans m2,m3,λc x x' hx hx'=>⟨(m4 c x x' hx hx').1,Ce3 hA ho (m4 c x x' hx hx').2⟩⟩
   ·exact .inr ⟨t,K,El,fl,es,clk,m1,m2,m3,hblk.trans m4,m5,m6⟩
 ·obtain⟨hb0,hsp⟩:=hold id b hb hs;obtain⟨hb0',hsp'⟩:=hold id' b' hb' hs';rw[ρsp_on hsp,ρsp_on hsp'];exact hS.apart id id' b b' hb0 hb0' hs hs' hd hd' hne
theorem Ye5{id:Nat}{b:b8}(hb:(C4 H H1)[id]?=some b)(hs:G8 b=true):H[id]?=some b/\Fc3 H id:=by
 obtain⟨h1,h2,h3⟩:=qc6 hA ho;by_cases hsp:Fc3 H id
 ·obtain⟨c,hc,hcs⟩:=hsp;rw[h2 id c hc hcs] at hb;obtain rfl:c=b:=Qdh hb;exact⟨hc,c,hc,hcs⟩
 ·obtain⟨k1,k2⟩:=h3 id hsp;rw[k1] at hb;rw[k2 b hb] at hs;cases hs
theorem Ye6{K:Nat->Prop}(h:∀(id:Nat) b,H[id]?=some b->G8 b=true->b.dead=false->¬ K (ρ id).blk):∀(id:Nat) b,(C4 H H1)[id]?=some b->G8 b=true->b.dead=false->¬ K (ρsp H ρ ρ' id).blk:=λid b hb hs hd=>by
 obtain⟨k1,k2⟩:=Ye5 hA ho hb hs;rw[ρsp_on k2];exact h id b k1 hs hd
theorem Ye7(hW:∀k,W' k->WB k):Adv WB ρ H F w (ρsp H ρ ρ') (C4 H H1) F' w':=by
 obtain⟨h1,h2,h3⟩:=qc6 hA ho;have hm:=hA.mono hW;refine⟨hm.ext,λid b hb=>?_,hm.more,hm.new,λid b' hb' hn=>?_⟩
 ·cases hs:G8 b with
  |true=>exact⟨b,h2 id b hb hs,rfl,Qde _,λ_=>⟨ρsp_on ⟨b,hb,hs⟩,rfl,Qde _⟩⟩
  |false =>
   have hnsp:¬ Fc3 H id:=λ⟨c,hc,hcs⟩=>by
    rw[hb] at hc;cases hc;rw[hs] at hcs;cases hcs
   obtain⟨b',k1,k2,k3,k4⟩:=hm.heap id b (sa9 hb hs);exact⟨b',(h3 id hnsp).1.trans k1,k2,k3,λhg=>by rw[ρsp_off hnsp];exact k4 hg⟩
 ·by_cases hsp:Fc3 H id
  ·obtain⟨c,hc,hcs⟩:=hsp;rw[h2 id c hc hcs] at hb';obtain rfl:c=b':=Qdh hb';exact absurd rfl (hn c hc)
  ·rw[ρsp_off hsp];rw[(h3 id hsp).1] at hb';refine hm.fresh id b' hb' λb hb=>?_
   cases h:H[id]? with
   |none =>
    rw[Ab7,Qdi,h] at hb;cases hb
   |some c =>
    cases hs:G8 c with
    |true=>exact absurd ⟨c,h,hs⟩ hsp
    |false =>
     rw[sa9 h hs] at hb;cases hb;exact hn b h
end
end
def tc9(WB W':Nat->Prop)(ds:List Deferred)(w:World):Prop:=(∀d∈ds,∃D,d={ target:=.collected D,args:=#[] }/\w.heap[D]?=some (.deferred (some []))/\¬ W' D/\D<w.heap.size/\WB D)/\ds.Nodup
def VR(ρ:Rho)(H:List b8)(F:Fz)(w:World)(a:List b7)(vs:List Value):Prop:=a.length=vs.length/\∀(i:Nat) x x',a[i]?=some x->vs[i]?=some x'->XW ρ H F w x x'
structure C2(P:Program)(WB:Nat->Prop)(K:Nat->Prop)(J:List Value->World->Prop)(ρ0:Rho)(H0:List b8)(F0:Fz)(w0:World)(H:List b8)(ds:List Deferred)(w:World)(ρ:Rho)(F:Fz)(W':Nat->Prop)(up:List Value):Prop where
 sub:∀k,W' k->WB k
 adv:Adv WB ρ0 H0 F0 w0 ρ H F w
 hrel:C6 W' ρ (q9 H) F w
 srel:Ye3 P WB W' ρ H F w
 kept:∀k,K k->¬ W' k/\k<w.heap.size
 far:∀(id:Nat) b,H[id]?=some b->G8 b=true->b.dead=false->¬ K (ρ id).blk
 jot:J up w
 marks:tc9 WB W' ds w
structure I2(P:Program)(WB:Nat->Prop)(K:Nat->Prop)(J:List Value->World->Prop)(n:Nat)(ρ0:Rho)(H0:List b8)(F0:Fz)(w0:World)(s:St)(ac:Act)(w:World)(ρ:Rho)(F:Fz)(W':Nat->Prop)(up:List Value):Prop where
 core:C2 P WB K J ρ0 H0 F0 w0 s.H ac.defers w ρ F W' up
 vals:VR ρ s.H F w s.a (ac.tmps.toList++up)
 size:ac.tmps.size=n
def Me7(P:Program)(WB:Nat->Prop)(K:Nat->Prop)(J:List Value->World->Prop)(n:Nat)(ρ0:Rho)(H0:List b8)(F0:Fz)(w0:World)(s:St)(ac:Act)(w:World):Prop :=
 ∃ρ F W' up,I2 P WB K J n ρ0 H0 F0 w0 s ac w ρ F W' up
def Tr(ρ:Rho)(H:List b8)(F:Fz)(w:World)(ρ':Rho)(H':List b8)(F':Fz)(w':World):Prop:=∀x x',XW ρ H F w x x'->XW ρ' H' F' w' x x'
def yc4(K:Nat->Prop)(J:List Value->World->Prop):Prop:=∀up w w',(∀k,K k->w'.heap[k]?=w.heap[k]?)->J up w->J up w'
section
variable{P:Program}{WB K:Nat->Prop}{J:List Value->World->Prop}{ρ ρ0 ρ':Rho}{H H0 H1:List b8}{F F0 F':Fz}{w w0 w':World}{W':Nat->Prop}{up:List Value}{s:St}{ac ac':Act}{E:Env}
theorem tc9.step{ds:List Deferred}(h:tc9 WB W' ds w)(he:Ext W' F w w'):tc9 WB W' ds w':=⟨λd hd=>by
 obtain⟨D,h1,h2,h3,h4,h5⟩:=h.1 d hd;exact⟨D,h1,(he.block D h4 h3).trans h2,h3,Qdm h4 he.size,h5⟩,h.2⟩
theorem C2.step {ds : List Deferred} (h : C2 P WB K J ρ0 H0 F0 w0 H ds w ρ F W' up) (hJ : yc4 K J) (hA : Adv W' ρ (q9 H) F w ρ' H1 F' w') (ho : Cc2 H H1 = true) (hH1 : C6 W' ρ' H1 F' w') :
  C2 P WB K J ρ0 H0 F0 w0 (C4 H H1) ds w' (ρsp H ρ ρ') F' W' up/\Tr ρ H F w (ρsp H ρ ρ') (C4 H H1) F' w' :=
 ⟨⟨h.sub,h.adv.trans (Ye7 hA ho h.sub),Me5 hA ho hH1,Me6 hA ho h.srel,λk hk=>⟨(h.kept k hk).1,Qdm (h.kept k hk).2 hA.ext.size⟩,
  Ye6 hA ho h.far,hJ up w w' (λk hk=>hA.ext.block k (h.kept k hk).2 (h.kept k hk).1) h.jot,h.marks.step hA.ext⟩,λ_ _ hx=>uf5 hA ho hx⟩
structure Vb6(DS:Nat->Prop)(tm:Array Value)(ds:List Deferred)(W:Nat->Prop)(ρ0:Rho)(H0:List b8)(F0:Fz)(w0:World)(s:St)(ac:Act)(w:World):Prop where
 defers:ac.defers=ds
 size:ac.tmps.size=tm.size
 same:∀t,¬ DS t->ac.tmps[t]?=tm[t]?
 rel:∃ρ F,Adv W ρ0 H0 F0 w0 ρ s.H F w/\C6 W ρ s.H F w/\Ca3 ρ s.H F w s.a ac.tmps
theorem ya7{ac:Act}(dst:Option Nat)(v:Value):(ac.put dst v).tmps.size=ac.tmps.size:=by cases dst<;>simp[Act.put]
theorem Fc4{ac:Act}{dst:Option Nat}{v:Value}{t:Nat}(h:dst≠some t):(ac.put dst v).tmps[t]?=ac.tmps[t]?:=by
 cases dst with
 |none=>rfl
 |some d=>exact Qdp λe=>h (by rw[e])
section
variable{W:Nat->Prop}{DS:Nat->Prop}{tm:Array Value}{ds:List Deferred}{Fe:Fence}{n:Nat}
variable(hF:FW Fe)(hG0:GOk E F0 w0)(hcalls:∀f,g9 E.P E.G f (E.call f))
include hF hG0 hcalls
theorem piM {ops : Array Oper} {o : Oper} {g : Option (Nat × Bool)} {s s' : St} {ac : Act} {i : Nat} {rest : List Nat} {Q : Exit → Act → World → Prop} (hi : ops[i]? = some o) (hg : ea7 ops o = some g) (hDS : ∀ d, o.dst = some d → DS d)
  (hI:Vb6 DS tm ds W ρ0 H0 F0 w0 s ac w) (he:(ab1 E s ⟨o.dst,g,[],Pb6 E.P ops o⟩).run=some s') (hK:∀ac' w',Vb6 DS tm ds W ρ0 H0 F0 w0 s' ac' w'->wpOpsIn Fe n E.P ops Q rest ac' w'):wpOpsIn Fe n E.P ops Q (i::rest) ac w:=by
 obtain⟨hd,hsz,hsm,ρ,F,hAdv,hH,hA⟩:=hI;simp only[wpOpsIn,hi];have hsame:∀v t,¬ DS t->(ac.put o.dst v).tmps[t]?=tm[t]?:=λv t ht=>(Fc4 λe=>ht (hDS t e)).trans (hsm t ht)
 rcases Uc3 hg hA he with⟨hw,he⟩|⟨hw,he⟩
 ·rw[if_pos hw];unfold Xc7 at he;obtain⟨⟨x,H'⟩,h1,h2⟩:=DT.run_bind_some he;have h1':(evalOp E s.a s.H (Pb6 E.P ops o)).run=some (x,H'):=h1;have hop:=Nc3 (ac:={ ac with defers:=[] }) hA hH (hG0.adv hAdv) hcalls h1'
  refine hop.inAny hF n _ _ λx' w' hp=>?_
  obtain⟨ρ',F',a1,a2,a3⟩:=hp;have h2':some (⟨putA s.a o.dst x,H'⟩:St)=some s':=h2;injection h2' with h2';subst h2';exact hK _ _ ⟨(E6 _ _).trans hd,(ya7 _ _).trans hsz,hsame x',ρ',F',hAdv.trans a1,a2,(hA.adv a1).putA o.dst a3⟩
 ·rw[if_neg (by simp[hw])]
  subst he;exact⟨λf _=>hF.fn f,hK _ _ ⟨(E6 _ _).trans hd,(ya7 _ _).trans hsz,hsame _,ρ,F,hAdv,hH,hA.putA o.dst (.ofv _)⟩⟩
theorem Uf3 {ops : Array Oper} {Q : Exit → Act → World → Prop} {rest : List Nat} : ∀ (r : List Oper) (k : Nat) (l : List PI) (s s' : St) (ac : Act) (w : World), (∃ t, ops.toList.drop k = r ++ t) → (∀ o ∈ r, ∀ d, o.dst = some d → DS d) → sc1 E.P ops r = some l → Vb6 DS tm ds W ρ0 H0 F0 w0 s ac w → (T3 E l s).run = some s' →
  (∀ac' w',Vb6 DS tm ds W ρ0 H0 F0 w0 s' ac' w'->wpOpsIn Fe n E.P ops Q rest ac' w')->wpOpsIn Fe n E.P ops Q (List.range' k r.length++rest) ac w
 |[],k,l,s,s',ac,w,hr,hDS,hl,hI,he,hQ=>by
  simp only[sc1] at hl;injection hl with hl;subst hl;have he':some s=some s':=he;injection he' with he';subst he';exact hQ ac w hI
 |o::r,k,l,s,s',ac,w,hr,hDS,hl,hI,he,hQ=>by
  obtain⟨t,hr⟩:=hr;obtain⟨g,l',h1,h2,rfl⟩:=Gd0 hl;have he':((ab1 E s ⟨o.dst,g,[],Pb6 E.P ops o⟩).bind (T3 E l')).run=some s':=he;obtain⟨s1,h3,h4⟩:=DT.run_bind_some he';have hi:ops[k]?=some o:=by
   have:(ops.toList.drop k)[0]?=some o:=by rw[hr];rfl
   simpa using this
  rw[show (o::r).length=r.length+1 from rfl,List.range'_succ,List.cons_append]
  refine piM hF hG0 hcalls hi h1 (λd hd=>hDS o (.head _) d hd) hI h3 λac' w' hI'=>?_
  refine Uf3 r (k+1) l' s1 s' ac' w' ⟨t,?_⟩ (λo ho=>hDS o (.tail _ ho)) h2 hI' h4 hQ
  rw[<- List.drop_drop,hr];rfl
end
theorem ic4 (ds : List Nat) : ∀ (a l : List b7) (k i : Nat), (ya0 ds a l k)[i]? = match a[i]? with
  |some x=>some (Bool.rec (motive:=λ_=>b7) x ((l[i]?).getD .unk) (nb8 (k+i) ds))
  |none=>none
 |[],l,k,i=>by simp[ya0]
 |x::a,l,k,i=>by
  have e:ya0 ds (x::a) l k=Bool.rec (motive:=λ_=>b7) x (hdA l) (nb8 k ds)::ya0 ds a (tlA l) (k+1):=rfl
  rw[e];cases i with
  |zero=>cases l<;>rfl
  |succ i =>
   simp only[List.getElem?_cons_succ];rw[ic4 ds a (tlA l) (k+1) i,show k+1+i=k+(i+1) by omega]
   cases l with
   |nil=>simp[tlA]
   |cons y l=>simp[tlA]
theorem ic5(ds:List Nat):∀(a l:List b7) (k:Nat),(ya0 ds a l k).length=a.length
 |[],_,_=>rfl
 |x::a,l,k=>congrArg Nat.succ (ic5 ds a (tlA l) (k+1))
theorem kd3(k:Nat)(l:List Nat):nb8 k l=true↔k∈l:=by
 induction l with
 |nil=>simp[nb8]
 |cons x l ih =>
  have e:nb8 k (x::l)=Bool.rec (nb8 k l) true (Nat.beq x k):=rfl;rw[e,List.mem_cons];cases h:Nat.beq x k with
  |true=>have:=Qda h;simp[this]
  |false =>
   have:=Nat.ne_of_beq_eq_false h
   show nb8 k l=true↔_;rw[ih];exact⟨.inr,λh=>h.resolve_left λe=>this e.symm⟩
theorem Gd8{x:b7}{x':Value}(h:XW ρ H F w x x'):G3 ρ (q9 H) F w (oa7 H x) x':=by
 cases h with
 |w h =>
  unfold oa7;split
  ·rename_i id i c g;split
   ·rename_i b hb;cases G8 b with
    |true=>exact .unk _
    |false=>exact h
   ·exact .unk _
  ·exact h
 |c h =>
  cases h with
  |n h =>
   unfold oa7;split
   ·split
    ·rename_i b hb;cases G8 b with
     |true=>exact .unk _
     |false=>exact .val (.cell h)
    ·exact .unk _
   ·exact .val (.cell h)
  |box id c g b hb hd he =>
   unfold oa7;simp only[C5,hb,Ab8 he];exact .unk _
  |map id c g b t hb hd he =>
   unfold oa7;simp only[C5,hb,Ab9 he];exact .unk _
theorem I2.arel{n:Nat}(h:I2 P WB K J n ρ0 H0 F0 w0 s ac w ρ F W' up):Ca3 ρ (q9 s.H) F w (p5 (oa7 s.H) (N8 s.a n)) ac.tmps:=by
 have hl:=h.vals.1;have hn:=h.size;rw[Qdt,Array.length_toList] at hl;rw[p6,O0];refine⟨by simp;omega,λi x x' hx hx'=>?_⟩
 rw[Qdi] at hx;have hi:i<n:=hn ▸ (Array.getElem?_eq_some_iff.1 hx').1;rw[List.getElem?_take,if_pos hi] at hx;cases hy:s.a[i]? with
 |none=>rw[hy] at hx;cases hx
 |some y =>
  rw[hy] at hx;injection hx with hx;subst hx;refine Gd8 (h.vals.2 i y x' hy ?_);rw[Qdg (by rw[Array.length_toList];omega)]
  simpa using hx'
theorem Gd9 {n : Nat} (hJ : yc4 K J) {dd : List Nat} {s s2 : St} {ac' : Act} (hI : I2 P WB K J n ρ0 H0 F0 w0 s ac w ρ F W' up) (ho : Cc2 s.H s2.H = true)
  (hM:Vb6 (·∈dd) ac.tmps ac.defers W' ρ (q9 s.H) F w s2 ac' w'):Me7 P WB K J n ρ0 H0 F0 w0 ⟨ya0 dd s.a s2.a 0,C4 s.H s2.H⟩ ac' w'/\ac'.defers=ac.defers/\(∀t,¬ t∈dd->ac'.tmps[t]?=ac.tmps[t]?):=by
 obtain⟨hd,hsz,hsm,ρ',F',hA,hH,hAr⟩:=hM;obtain⟨c1,c2⟩:=hI.core.step hJ hA ho hH;refine⟨⟨_,F',W',up,hd ▸ c1,⟨by rw[ic5];have:=hI.vals.1;rw[Qdt,Array.length_toList] at this ⊢;omega,λi y y' hy hy'=>?_⟩,hsz.trans hI.size⟩,hd,hsm⟩
 have hn:=hI.size
 simp only at hy
 rw[ic4] at hy;cases hz:s.a[i]? with
 |none=>rw[hz] at hy;cases hy
 |some z =>
  rw[hz] at hy;injection hy with hy;rw[Qdu] at hy
  rcases Qdq i n with hi|hi
  ·rw[Qdg (by rw[Array.length_toList];omega)] at hy'
   have hy':ac'.tmps[i]?=some y':=by simpa using hy'
   cases hm:nb8 i dd with
   |true =>
    rw[hm] at hy;have hy:(s2.a[i]?).getD .unk=y:=hy;cases hq:s2.a[i]? with
    |none=>rw[hq] at hy;subst hy;exact .w (.unk _)
    |some q =>
     rw[hq] at hy;have hy:q=y:=hy;subst hy;exact .w (ue3 hA ho (hAr.2 i q y' hq hy'))
   |false =>
    rw[hm] at hy;have hy:z=y:=hy;subst hy;have hnm:¬ i∈dd:=λh=>by rw[(kd3 i dd).2 h] at hm;cases hm
    rw[hsm i hnm] at hy';refine c2 _ _ (hI.vals.2 i z y' hz ?_);rw[Qdg (by rw[Array.length_toList];omega)]
    simpa using hy'
  ·have hlen : s2.a.length = n := by
    have:=hAr.1
    omega
   have hnone:s2.a[i]?=none:=Qdj (by omega)
   rw[Qdl (by rw[Array.length_toList];omega)] at hy'
   have hy0:(ac.tmps.toList++up)[i]?=some y':=by
    rw[Qdl (by rw[Array.length_toList];omega)]
    rw[Array.length_toList] at hy' ⊢;rw[hsz] at hy';exact hy'
   rw[hnone] at hy;cases hm:nb8 i dd with
   |true=>rw[hm] at hy;have hy:b7.unk=y:=hy;subst hy;exact .w (.unk _)
   |false=>rw[hm] at hy;have hy:z=y:=hy;subst hy;exact c2 _ _ (hI.vals.2 i z y' hz hy0)
theorem uf6 {Fe : Fence} {n m k kk : Nat} (hF : FW Fe) (hG0 : GOk E F0 w0) (hcalls : ∀ f, g9 E.P E.G f (E.call f)) (hJ : yc4 K J) {ops : Array Oper} {Q : Exit → Act → World → Prop} {rest : List Nat} {r : List Oper} {l : List PI} {dd : List Nat} {x : f8} {s s' : St}
  (hr:∃t,ops.toList.drop k=r++t) (hDS:∀o∈r,∀d,o.dst=some d->d∈dd) (hl:sc1 E.P ops r=some l) (hI:Me7 E.P WB K J n ρ0 H0 F0 w0 s ac w) (he:(S7 E kk (.mask n dd (.ops l)) s).run=some (x,s'))
  (hQ:∀ac' w',Me7 E.P WB K J n ρ0 H0 F0 w0 s' ac' w'->ac'.defers=ac.defers->(∀t,¬ t∈dd->ac'.tmps[t]?=ac.tmps[t]?)->wpOpsIn Fe m E.P ops Q rest ac' w'):x=.normal/\wpOpsIn Fe m E.P ops Q (List.range' k r.length++rest) ac w:=by
 obtain⟨ρ,F,W',up,hI⟩:=hI;have he':((S7 E kk (.ops l) ⟨p5 (oa7 s.H) (N8 s.a n),q9 s.H⟩).bind λr=>.guard (Cc2 s.H r.2.H) (.ret (r.1,⟨ya0 dd s.a r.2.a 0,C4 s.H r.2.H⟩))).run=some (x,s'):=he
 obtain⟨⟨x1,s1⟩,h1,h2⟩:=DT.run_bind_some he';obtain⟨ho,h2⟩:=DT.run_guard_some h2;have h2:some (x1,(⟨ya0 dd s.a s1.a 0,C4 s.H s1.H⟩:St))=some (x,s'):=h2;injection h2 with h2;injection h2 with e1 e2;subst e1 e2
 have h1':((T3 E l ⟨p5 (oa7 s.H) (N8 s.a n),q9 s.H⟩).bind λs=>.ret (f8.normal,s)).run=some (x1,s1):=h1
 obtain⟨s2,h3,h4⟩:=DT.run_bind_some h1';have h4:some (f8.normal,s2)=some (x1,s1):=h4;injection h4 with h4;injection h4 with e1 e2;subst e1 e2
 refine⟨rfl,?_⟩;have hG:GOk E F w:=hG0.adv hI.core.adv;refine Uf3 (DS:=(·∈dd)) (tm:=ac.tmps) (ds:=ac.defers) (W:=W') (ρ0:=ρ) (H0:=q9 s.H) (F0:=F) (w0:=w) hF hG hcalls r k l _ s2 ac w hr hDS hl ⟨rfl,rfl,λ_ _=>rfl,ρ,F,.refl,hI.core.hrel,hI.arel⟩ h3 λac' w' hM=>?_
 obtain⟨k1,k2,k3⟩:=Gd9 hJ hI ho hM;exact hQ ac' w' k1 k2 k3
end
section
variable{P:Program}{WB K:Nat->Prop}{J:List Value->World->Prop}{ρ ρ0 ρ':Rho}{H H0 H':List b8}{F F0 F':Fz}{w w0 w':World}{W':Nat->Prop}{up up':List Value}{ds:List Deferred}
theorem Vb7{a:Addr}(h:w'.heap[a.block]?=w.heap[a.block]?):w'.cell? a=w.cell? a:=by simp[World.cell?,h]
theorem Nc7{id:Nat}{b:b8}(hE:∀(id:Nat) b,H[id]?=some b->∃b',H'[id]?=some b'/\b'.et=b.et/\b'.dead=b.dead/\b'.g=b.g/\b'.es=b.es/\b.elems.length<=b'.elems.length/\(G8 b=false->b'=b))(hl:H'.length=H.length)(hb:(q9 H')[id]?=some b)(hd:b.dead=false):(q9 H)[id]?=some b:=by
 obtain⟨h1,h2⟩:=wa4 hb hd;have hlt:id<H.length:=hl ▸ (Qdd.1 h1).1;obtain⟨b',k1,k2,_,_,k5,_,k6⟩:=hE id _ (Qdb hlt);obtain rfl:b'=b:=Qdh (k1.symm.trans h1);have hs:G8 H[id]=false:=by
  unfold G8 at h2 ⊢;rw[<- k5];exact h2
 have:=k6 hs
 subst this;exact sa9 (Qdb hlt) hs
theorem C2.alloc (h : C2 P WB K J ρ0 H0 F0 w0 H ds w ρ F W' up) (hJ : yc4 K J) (o : Obj) :
  C2 P WB K J ρ0 H0 F0 w0 H ds (w.alloc o) ρ F (λk=>W' k/\k≠w.heap.size) up/\Tr ρ H F w ρ H F (w.alloc o)/\WB w.heap.size/\(∀b,F w.heap.size b->False):=by
 have hold:∀k,k<w.heap.size->(w.alloc o).heap[k]?=w.heap[k]?:=λk hk=>by
  simp only[World.alloc,Qdr];rw[if_neg (Qdn hk)]
 have hsz:(w.alloc o).heap.size=w.heap.size+1:=by simp
 have hF:∀b o',F b o'->b<w.heap.size:=λb o' hf=>Ub5 (h.hrel.frz b o' hf)
 have hcells:∀b o',F b o'->(w.alloc o).cell? ⟨b,o',none⟩=w.cell? ⟨b,o',none⟩:=λb o' hf=>Vb7 (a:=⟨b,o',none⟩) (hold b (hF b o' hf))
 have hxc:∀x x',XC ρ H F w x x'->XC ρ H F (w.alloc o) x x':=λx x' hx=>by
  cases hx with
  |n hx=>exact .n (hx.carry (λid b hb hd=>⟨b,hb,hd,Qde _,λ_=>⟨rfl,rfl,Qde _⟩⟩) (λ_ _ h=>h) hcells)
  |box id c g b hb hd he=>exact .box id c g b hb hd he
  |map id c g b t hb hd he=>exact .map id c g b t hb hd he
 refine⟨⟨λk hk=>h.sub k hk.1,h.adv.trans ⟨⟨rfl,rfl,rfl,by omega,λk hk _=>hold k hk,hcells,Qde _⟩,.refl,λ_ _ h=>h,λ_ _ h=>.inl h,λid b hb hn=>absurd rfl (hn b hb)⟩,?_,?_,λk hk=>?_,h.far,?_,?_⟩,λx x' hx=>?_,h.sub _ (h.hrel.new _ (Qde _)),λb hf=>Nat.lt_irrefl _ (hF _ _ hf)⟩
 ·refine⟨λid b hb hd=>?_,h.hrel.apart,λb o' hf=>by rw[hcells b o' hf];exact h.hrel.frz b o' hf,λk hk=>⟨h.hrel.new k (by omega),by omega⟩⟩
  obtain⟨cc,t,fr,hB⟩:=h.hrel.blk id b hb hd;have hk:=hB.keep (w':=w.alloc o) (hold _ hB.lt) hcells;exact⟨cc,t,fr,hk.obj,hk.room,hk.len,hk.rows,hk.cell,λho=>by
   obtain⟨g1,g2,g3⟩:=hk.own ho;exact⟨g1,⟨g2,Qdn hB.lt⟩,g3⟩,hk.kept⟩
 ·refine⟨λid b hb hs hd=>?_,h.srel.apart⟩
  obtain⟨k1,k2,k3,k4,k5⟩:=h.srel.has id b hb hs hd;refine⟨k1,λhk=>k2 hk.1,k3,by omega,?_⟩
  rcases k5 with⟨e,row,vs,t,m1,m2,m3,m4⟩|⟨t,K,El,fl,es,clk,m1,m2,m3,m4,m5⟩
  ·exact .inl ⟨e,row,vs,t,m1,(hold _ k4).trans m2,m3,λc x x' hx hx'=>⟨(m4 c x x' hx hx').1,hxc _ _ (m4 c x x' hx hx').2⟩⟩
  ·exact .inr ⟨t,K,El,fl,es,clk,m1,m2,m3,(hold _ k4).trans m4,m5⟩
 ·exact⟨λhw=>(h.kept k hk).1 hw.1,by have:=(h.kept k hk).2;omega⟩
 ·exact hJ up w _ (λk hk=>hold k (h.kept k hk).2) h.jot
 ·refine⟨λd hd=>?_,h.marks.2⟩
  obtain⟨D,h1,h2,h3,h4,h5⟩:=h.marks.1 d hd;exact⟨D,h1,(hold D h4).trans h2,λhw=>h3 hw.1,by omega,h5⟩
 ·cases hx with
  |w hx=>exact .w (hx.carry (λid b hb hd=>⟨b,hb,hd,Qde _,λ_=>⟨rfl,rfl,Qde _⟩⟩) (λ_ _ h=>h) hcells)
  |c hx=>exact .c (hxc _ _ hx)
theorem C2.adopt (h : C2 P WB K J ρ0 H0 F0 w0 H ds w ρ F W' up) (k sz : Nat) (hk : WB k) (hkW : ¬ W' k) (hkF : ∀ o, ¬ F k o) (hks : k < w.heap.size) (hap : ∀ (id : Nat) b, H[id]? = some b → G8 b = true → b.dead = false → (ρ id).blk ≠ k)
  (hkK:¬ K k) (b:b8) (hb:G8 b=true) (hbd:b.dead=false) (hc:Mf2 (ρnew ρ H ⟨k,0,sz⟩) (H++[b]) F w b k\/Mf3 P w b k) :
  C2 P WB K J ρ0 H0 F0 w0 (H++[b]) ds w (ρnew ρ H ⟨k,0,sz⟩) F W' up/\Tr ρ H F w (ρnew ρ H ⟨k,0,sz⟩) (H++[b]) F w:=by
 have hρ:∀id,id<H.length->ρnew ρ H ⟨k,0,sz⟩ id=ρ id:=λid hid=>by simp[ρnew,Qdn hid]
 have hρn:ρnew ρ H ⟨k,0,sz⟩ H.length=⟨k,0,sz⟩:=by simp[ρnew]
 have hlook:∀(id:Nat) c,(H++[b])[id]?=some c->(id<H.length/\H[id]?=some c)\/(id=H.length/\c=b):=λid c hc=>by
  rcases Qdq id H.length with hh|hh
  ·rw[Qdg hh] at hc;exact .inl ⟨hh,hc⟩
  ·rw[Qdl hh] at hc;have h0:id-H.length=0:=by
    rcases Qds (id-H.length) with h0|h0
    ·exact h0
    ·rw[Qdj (by simp;omega)] at hc;cases hc
   rw[h0] at hc;exact .inr ⟨by omega,by simpa using hc.symm⟩
 have hleft:∀{id:Nat} {c:b8},H[id]?=some c->(H++[b])[id]?=some c/\id<H.length:=λ{id c} hc=>by
  have hlt:=(Qdd.1 hc).1;exact⟨by rw[Qdg hlt];exact hc,hlt⟩
 have hlive:∀(id:Nat) c,(q9 (H++[b]))[id]?=some c->c.dead=false->(q9 H)[id]?=some c/\id<H.length:=λid c hc hd=>by
  obtain⟨h1,h2⟩:=wa4 hc hd
  rcases hlook id c h1 with⟨hh,h3⟩|⟨_,rfl⟩
  ·exact⟨sa9 h3 h2,hh⟩
  ·rw[hb] at h2;cases h2
 have hcar:Gd4 ρ (q9 H) (ρnew ρ H ⟨k,0,sz⟩) (q9 (H++[b])):=λid c hc hd=>by
  obtain⟨h1,h2⟩:=wa4 hc hd;exact⟨c,sa9 (hleft h1).1 h2,hd,Qde _,λ_=>⟨hρ id (hleft h1).2,rfl,Qde _⟩⟩
 have hxc:∀x x',XC ρ H F w x x'->XC (ρnew ρ H ⟨k,0,sz⟩) (H++[b]) F w x x':=λx x' hx=>by
  cases hx with
  |n hx=>exact .n (hx.carry hcar (λ_ _ h=>h) (λ_ _ _=>rfl))
  |box id c g b' hb' hd he=>rw[<- hρ id (hleft hb').2];exact .box id c g b' (hleft hb').1 hd he
  |map id c g b' t hb' hd he=>rw[<- hρ id (hleft hb').2];exact .map id c g b' t (hleft hb').1 hd he
 refine⟨⟨h.sub,h.adv.trans ⟨.refl,λid c hc=>⟨c,(hleft hc).1,rfl,Qde _,λ_=>⟨hρ id (hleft hc).2,rfl,Qde _⟩⟩,λ_ _ h=>h,λ_ _ h=>.inl h,λid c hc hn=>?_⟩,?_,?_,h.kept,λid c hc hs hd=>?_,h.jot,h.marks⟩,λx x' hx=>?_⟩
 ·rcases hlook id c hc with⟨_,h1⟩|⟨rfl,rfl⟩
  ·exact absurd rfl (hn c h1)
  ·rw[hρn];exact hk
 ·exact h.hrel.pull (λi=>i) (λi c hc hd=>⟨(hlive i c hc hd).1,hρ i (hlive i c hc hd).2⟩) (λ_ _ _ _ _ _ _ _ e=>e)
 ·refine⟨λid c hc' hs hd=>?_,λid id' c c' hc1 hc1' hs hs' hd hd' hne=>?_⟩
  ·rcases hlook id c hc' with⟨hlt,h1⟩|⟨rfl,rfl⟩
   ·obtain⟨k1,k2,k3,k4,k5⟩:=h.srel.has id c h1 hs hd;rw[hρ id hlt];refine⟨k1,k2,k3,k4,?_⟩
    rcases k5 with⟨e,row,vs,t,m1,m2,m3,m4⟩|k5
    ·exact .inl ⟨e,row,vs,t,m1,m2,m3,λc x x' hx hx'=>⟨(m4 c x x' hx hx').1,hxc _ _ (m4 c x x' hx hx').2⟩⟩
    ·exact .inr k5
   ·rw[hρn];exact⟨hk,hkW,hkF,hks,hc⟩
  ·rcases hlook id c hc1 with⟨hlt,h1⟩|⟨rfl,rfl⟩<;>rcases hlook id' c' hc1' with⟨hlt',h1'⟩|⟨rfl,rfl⟩
   ·rw[hρ id hlt,hρ id' hlt'];exact h.srel.apart id id' c c' h1 h1' hs hs' hd hd' hne
   ·rw[hρ id hlt,hρn];exact hap id c h1 hs hd
   ·rw[hρ id' hlt',hρn];exact (hap id' c' h1' hs' hd').symm
   ·exact absurd rfl hne
 ·rcases hlook id c hc with⟨hlt,h1⟩|⟨rfl,rfl⟩
  ·rw[hρ id hlt];exact h.far id c h1 hs hd
  ·rw[hρn];exact hkK
 ·cases hx with
  |w hx=>exact .w (hx.carry hcar (λ_ _ h=>h) (λ_ _ _=>rfl))
  |c hx=>exact .c (hxc _ _ hx)
theorem C2.change (h : C2 P WB K J ρ0 H0 F0 w0 H ds w ρ F W' up) (k : Nat) (hk : WB k) (hkW : ¬ W' k) (hkF : ∀ o, ¬ F k o)
  (hos:w'.os=w.os) (htape:w'.tape=w.tape) (hout:w'.output=w.output) (hdrawn:w.drawn<=w'.drawn) (hsize:w'.heap.size=w.heap.size) (hold:∀j,j≠k->w'.heap[j]?=w.heap[j]?)
  (hcc:∀cc t fr,w.heap[k]?=some (.cells cc t fr)->∃cc',w'.heap[k]?=some (.cells cc' t fr)/\cc'.size=cc.size)
  (hl:H'.length=H.length) (hE:∀(id:Nat) b,H[id]?=some b->∃b',H'[id]?=some b'/\b'.et=b.et/\b'.dead=b.dead/\b'.g=b.g/\b'.es=b.es/\b.elems.length<=b'.elems.length/\(G8 b=false->b'=b))
  (hsame:∀(id:Nat) b,H[id]?=some b->G8 b=true->b.dead=false->(ρ id).blk≠k->H'[id]?=some b)
  (hnew:(∀x x',XC ρ H F w x x'->XC ρ H' F w' x x')->∀(id:Nat) b,H'[id]?=some b->G8 b=true->b.dead=false->(ρ id).blk=k->Mf2 ρ H' F w' b k\/Mf3 P w' b k)
  (hJ:J up' w') (hM:∀D,({ target:=.collected D,args:=#[] }:Deferred)∈ds->w.heap[D]?=some (.deferred (some []))->D=k->w'.heap[D]?=some (.deferred (some []))) :
  C2 P WB K J ρ0 H0 F0 w0 H' ds w' ρ F W' up'/\Tr ρ H F w ρ H' F w':=by
 have hne:∀b o,F b o->b≠k:=λb o hf e=>hkF o (e ▸ hf)
 have hcells:∀b o,F b o->w'.cell? ⟨b,o,none⟩=w.cell? ⟨b,o,none⟩:=λb o hf=>Vb7 (a:=⟨b,o,none⟩) (hold b (hne b o hf))
 have hback:∀(id:Nat) b',H'[id]?=some b'->∃b,H[id]?=some b/\b'.et=b.et/\b'.dead=b.dead/\G8 b=G8 b':=λid b' hb'=>by
  have hlt:id<H.length:=hl ▸ (Qdd.1 hb').1;obtain⟨b2,k1,k2,k3,k4,k5,_⟩:=hE id _ (Qdb hlt);obtain rfl:b2=b':=Qdh (k1.symm.trans hb');exact⟨_,Qdb hlt,k2,k3,by unfold G8;rw[k5]⟩
 have hcar:Gd4 ρ (q9 H) ρ (q9 H'):=λid b hb hd=>by
  obtain⟨h1,h2⟩:=wa4 hb hd;obtain⟨b',k1,_,_,_,_,_,k6⟩:=hE id b h1
  have:=k6 h2
  subst this;exact⟨b',sa9 k1 h2,hd,Qde _,λ_=>⟨rfl,rfl,Qde _⟩⟩
 have hxc:∀x x',XC ρ H F w x x'->XC ρ H' F w' x x':=λx x' hx=>by
  cases hx with
  |n hx=>exact .n (hx.carry hcar (λ_ _ h=>h) hcells)
  |box id c g b hb hd he =>
   obtain⟨b',k1,k2,k3,k4,k5,_⟩:=hE id b hb;exact .box id c g b' k1 (k3.trans hd) ⟨k5.trans he.1,k2.trans he.2⟩
  |map id c g b t hb hd he =>
   obtain⟨b',k1,k2,k3,k4,k5,_⟩:=hE id b hb;exact .map id c g b' t k1 (k3.trans hd) ⟨k5.trans he.1,k2.trans he.2⟩
 refine⟨⟨h.sub,h.adv.trans ⟨⟨hos,htape,hout,by omega,λj _ hj=>hold j λe=>hj (e ▸ hk),hcells,hdrawn⟩,λid b hb=>?_,λ_ _ h=>h,λ_ _ h=>.inl h,λid b' hb' hn=>?_⟩,?_,?_,λj hj=>⟨(h.kept j hj).1,by rw[hsize];exact (h.kept j hj).2⟩,λid b hb hs hd=>?_,hJ,⟨λd hd=>?_,h.marks.2⟩⟩,λx x' hx=>?_⟩
 ·obtain⟨b',k1,k2,k3,k4,k5,k6,_⟩:=hE id b hb;exact⟨b',k1,k3,Nat.le_of_eq k4.symm,λ_=>⟨rfl,k5,k6⟩⟩
 ·have hlt:id<H.length:=hl ▸ (Qdd.1 hb').1;obtain⟨b2,k1,_,_,k4,_⟩:=hE id _ (Qdb hlt);obtain rfl:b2=b':=Qdh (k1.symm.trans hb');exact absurd k4 (hn _ (Qdb hlt))
 ·refine⟨λid b hb hd=>?_,λid id' b b' hb hb' hd hd' ho hne'=>h.hrel.apart id id' b b' (Nc7 hE hl hb hd) (Nc7 hE hl hb' hd') hd hd' ho hne',λb o hf=>by rw[hcells b o hf];exact h.hrel.frz b o hf,λj hj=>h.hrel.new j (by rw[<- hsize];exact hj)⟩
  obtain⟨cc,t,fr,hB⟩:=h.hrel.blk id b (Nc7 hE hl hb hd) hd;by_cases e:(ρ id).blk=k
  ·obtain⟨cc',h1,h2⟩:=hcc cc t fr (e ▸ hB.obj);have hno:b.own=false:=by
    cases ho:b.own with
    |false=>rfl
    |true=>exact absurd (e ▸ (hB.own ho).2.1) hkW
   have hz:b.elems.length*b.es=0:=by
    rcases Qds (b.elems.length*b.es) with h0|h0
    ·exact h0
    ·exact absurd (e ▸ hB.kept hno 0 h0) (hkF _)
   refine⟨cc',t,fr,e ▸ h1,by rw[h2];exact hB.room,hB.len,hB.rows,λi r c x hr hx=>?_,(λho=>by rw[hno] at ho;cases ho),hB.kept⟩
   have hi:=(Qdd.1 hr).1;have hc:=(Qdd.1 hx).1;rw[hB.rows i r hr] at hc
   have:=Nat.mul_pos (show 0<b.elems.length by omega) (show 0<b.es by omega)
   omega
  ·exact⟨cc,t,fr,hB.keep (hold _ e) hcells⟩
 ·refine⟨λid b hb hs hd=>?_,λid id' b b' hb hb' hs hs' hd hd' hne'=>?_⟩
  ·obtain⟨b0,h1,h2,h3,h4⟩:=hback id b hb;obtain⟨k1,k2,k3,k4,k5⟩:=h.srel.has id b0 h1 (by rw[h4];exact hs) (by rw[<- h3];exact hd)
   refine⟨k1,k2,k3,by rw[hsize];exact k4,?_⟩
   by_cases e:(ρ id).blk=k
   ·rw[e];exact hnew hxc id b hb hs hd e
   ·have hb0:b0=b:=Qdh ((hsame id b0 h1 (by rw[h4];exact hs) (by rw[<- h3];exact hd) e).symm.trans hb)
    subst hb0
    rcases k5 with⟨e',row,vs,t,m1,m2,m3,m4⟩|⟨t,K,El,fl,es,clk,m1,m2,m3,m4,m5⟩
    ·exact .inl ⟨e',row,vs,t,m1,(hold _ e).trans m2,m3,λc x x' hx hx'=>⟨(m4 c x x' hx hx').1,hxc _ _ (m4 c x x' hx hx').2⟩⟩
    ·exact .inr ⟨t,K,El,fl,es,clk,m1,m2,m3,(hold _ e).trans m4,m5⟩
  ·obtain⟨b0,h1,h2,h3,h4⟩:=hback id b hb;obtain⟨b0',h1',h2',h3',h4'⟩:=hback id' b' hb';exact h.srel.apart id id' b0 b0' h1 h1' (by rw[h4];exact hs) (by rw[h4'];exact hs') (by rw[<- h3];exact hd) (by rw[<- h3'];exact hd') hne'
 ·obtain⟨b0,h1,h2,h3,h4⟩:=hback id b hb;exact h.far id b0 h1 (by rw[h4];exact hs) (by rw[<- h3];exact hd)
 ·obtain⟨D,h1,h2,h3,h4,h5⟩:=h.marks.1 d hd;refine⟨D,h1,?_,h3,by rw[hsize];exact h4,h5⟩
  by_cases e:D=k
  ·exact hM D (h1 ▸ hd) h2 e
  ·exact (hold D e).trans h2
 ·cases hx with
  |w hx=>exact .w (hx.carry hcar (λ_ _ h=>h) hcells)
  |c hx=>exact .c (hxc _ _ hx)
end
section
variable{WB K:Nat->Prop}{J:List Value->World->Prop}{ρ ρ0:Rho}{H H0 H':List b8}{F F0:Fz}{w w0 w':World}{W':Nat->Prop}{up:List Value}{E:Env}{a:List b7}{ac:Act}{x:b7}{o:Oper}
def Qb1(P:Program)(WB K:Nat->Prop)(J:List Value->World->Prop)(ρ0:Rho)(H0:List b8)(F0:Fz)(w0:World)(ρ:Rho)(H:List b8)(F:Fz)(w:World)(up:List Value)(ds:List Deferred)(x:b7)(H':List b8)(x':Value)(w':World):Prop :=
 ∃ρ' F' W'',C2 P WB K J ρ0 H0 F0 w0 H' ds w' ρ' F' W'' up/\Tr ρ H F w ρ' H' F' w'/\XW ρ' H' F' w' x x'
def ltO(n:Nat):Operand->Bool
 |.tmp t=>Nat.blt t n
 |_=>true
theorem Ib7{n:Nat}(hv:VR ρ H F w a (ac.tmps.toList++up))(hn:ac.tmps.size=n)(hG:GOk E F w)(y:Operand)(hy:ltO n y=true):XW ρ H F w (d7 E a (j8 y)) (ac.eval y):=by
 cases y with
 |tmp t =>
  show XW ρ H F w (d7 E a (.t t)) (ac.tmps.getD t undef);have hlt:t<n:=by have:=hy;unfold ltO at this;rwa [Qdv] at this
  rw[vb5];have hl:=hv.1;rw[Qdt] at hl;have hsz:ac.tmps.toList.length=ac.tmps.size:=Array.length_toList;have hlt':t<ac.tmps.size:=hn ▸ hlt;have ha:t<a.length:=by rw[hl,hsz];exact Qdm hlt' (Nat.le_add_right _ _)
  have h1:a[t]?=some a[t]:=Qdb ha;have h2:(ac.tmps.toList++up)[t]?=some ac.tmps[t]:=by
   rw[Qdg (by rw[hsz];exact hlt')]
   simp[hlt']
  have:=hv.2 t _ _ h1 h2
  simpa [h1,Array.getD,hlt'] using this
 |const v=>exact .w (G3.ofVal v)
 |func f=>exact .w (.val (.cell (.mem (.fn f))))
 |global g =>
  have:Ca3 (λ_=>⟨0,0,0⟩) [] F w [] #[]:=⟨rfl,λi x x' hx=>by simp at hx⟩
  have h:=o6 (ρ:=ρ) (H:=q9 H) (a:=[]) (ac:=⟨#[],[]⟩) ⟨rfl,λi x x' hx=>by simp at hx⟩ hG (.global g)
  exact .w h
theorem qc7{t:Nat}{b:b8}(h:de7 b)(h':de8 t b):False:=by
 have h1:b.et=0:=h.2;have h2:b.et=t+1:=h'.2;rw[h1] at h2;cases h2
theorem Nc8{id c g:Nat}{b:b8}{v:Value}(hs:Cc3 0 H x=some (id,c,g,b))(hx:XW ρ H F w x v):x=.ptr id 0 c g/\H[id]?=some b/\b.dead=false/\de7 b/\v=.pointer (some ⟨(ρ id).blk,c,none⟩):=by
 revert hs hx
 cases x with
 |ptr id' i' c' g' =>
  intro hs hx;simp only[Cc3,C5] at hs;cases hb:H[id']? with
  |none=>simp[hb] at hs
  |some b' =>
  simp only[hb] at hs;cases hd:b'.dead with
  |true=>simp[hd] at hs
  |false =>
  simp only[hd] at hs;cases he:(G8 b'&&Nat.beq b'.et 0) with
  |false=>simp[he] at hs
  |true =>
  simp only[he] at hs;cases hg:Nat.beq b'.g g' with
  |false=>simp[hg] at hs
  |true =>
  simp only[hg] at hs;cases hi:Nat.beq i' 0 with
  |false=>simp[hi] at hs
  |true =>
  simp only[hi] at hs;injection hs with hs;injection hs with e1 hs;injection hs with e2 hs;injection hs with e3 e4
  subst e1 e2 e3 e4;rw[Qdc] at he;have he:=And.intro (Qda he.1) (Qda he.2);have hi:=Qda hi;subst hi;refine⟨rfl,hb,hd,he,?_⟩;have hdead:∀q,(q9 H)[id']?=some q->q.dead=true:=λq hq=>by
   rw[jd9 hb (Ab8 he)] at hq;injection hq with hq;rw[<- hq]
  have hno:∀{v},ja0 ρ (q9 H) F w (.ptr id' 0 c' g') v->False:=λ{v} h=>by
   cases h with
   |mem h=>cases h
   |ptr _ _ _ _ ad q hq hd'=>rw[hdead q hq] at hd';cases hd'
  cases hx with
  |w h=>cases h with
   |val h=>cases h with
    |cell h=>exact (hno h).elim
  |c h =>
   cases h with
   |n h=>exact (hno h).elim
   |box=>rfl
   |map _ _ _ b2 t hb2 _ he2 =>
    have:b2=b':=Qdh (hb2.symm.trans hb)
    subst this;exact (qc7 he he2).elim
 |_=>intro hs;cases hs
theorem Hd0{t id c g:Nat}{b:b8}{v:Value}(hs:Cc3 (t+1) H x=some (id,c,g,b))(hx:XW ρ H F w x v):x=.ptr id 0 c g/\H[id]?=some b/\b.dead=false/\de8 t b/\v=.map (some (ρ id).blk):=by
 revert hs hx
 cases x with
 |ptr id' i' c' g' =>
  intro hs hx;simp only[Cc3,C5] at hs;cases hb:H[id']? with
  |none=>simp[hb] at hs
  |some b' =>
  simp only[hb] at hs;cases hd:b'.dead with
  |true=>simp[hd] at hs
  |false =>
  simp only[hd] at hs;cases he:(G8 b'&&Nat.beq b'.et (t+1)) with
  |false=>simp[he] at hs
  |true =>
  simp only[he] at hs;cases hg:Nat.beq b'.g g' with
  |false=>simp[hg] at hs
  |true =>
  simp only[hg] at hs;cases hi:Nat.beq i' 0 with
  |false=>simp[hi] at hs
  |true =>
  simp only[hi] at hs;injection hs with hs;injection hs with e1 hs;injection hs with e2 hs;injection hs with e3 e4
  subst e1 e2 e3 e4;rw[Qdc] at he;have he:=And.intro (Qda he.1) (Qda he.2);have hi:=Qda hi;subst hi;refine⟨rfl,hb,hd,he,?_⟩;have hdead:∀q,(q9 H)[id']?=some q->q.dead=true:=λq hq=>by
   rw[jd9 hb (Ab9 he)] at hq;injection hq with hq;rw[<- hq]
  have hno:∀{v},ja0 ρ (q9 H) F w (.ptr id' 0 c' g') v->False:=λ{v} h=>by
   cases h with
   |mem h=>cases h
   |ptr _ _ _ _ ad q hq hd'=>rw[hdead q hq] at hd';cases hd'
  cases hx with
  |w h=>cases h with
   |val h=>cases h with
    |cell h=>exact (hno h).elim
  |c h =>
   cases h with
   |n h=>exact (hno h).elim
   |map=>rfl
   |box _ _ _ b2 hb2 _ he2 =>
    have:b2=b':=Qdh (hb2.symm.trans hb)
    subst this;exact (qc7 he2 he).elim
 |_=>intro hs;cases hs
theorem de9(H:List b8)(et:Nat)(elems:List (List b7)):Cc4 H et elems=H++[{ et,es:=0,elems,own:=true,dead:=false,g:=0 }]:=by simp[Cc4,G9]
theorem ee0 {y : b7} {y' : Value} (hy : XW ρ H F w y y') (hp : ib5 y = true) (hb : Bc9 Je1 (G7 y) = true) :
  (G7 y).length=y'.cells.toList.length/\∀(i:Nat) z z',(G7 y)[i]?=some z->y'.cells.toList[i]?=some z'->z'.oneCell'=true/\XC ρ H F w z z':=by
 have hone:∀{i:Nat} {z:b7} {z':Value},(G7 y)[i]?=some z->XC ρ H F w z z'->z'.oneCell'=true/\XC ρ H F w z z':=λ{i z z'} hz hx=>⟨hx.one (Od5 hb z (Qdw hz)),hx⟩
 cases hy with
 |w h =>
  obtain⟨h1,h2⟩:=pc6 h hp;exact⟨h1,λi z z' hz hz'=>hone hz (.n (h2 i z z' hz hz'))⟩
 |c h =>
  have h0:=h;cases h with
  |n h =>
   obtain⟨h1,h2⟩:=pc6 (.val (.cell h)) hp;exact⟨h1,λi z z' hz hz'=>hone hz (.n (h2 i z z' hz hz'))⟩
  |box id c g b h1 h2 h3 =>
   refine⟨rfl,λi z z' hz hz'=>?_⟩
   cases i with
   |zero=>simp[G7,Value.cells] at hz hz';subst hz hz';exact⟨rfl,h0⟩
   |succ i=>simp[G7] at hz
  |map id c g b t h1 h2 h3 =>
   refine⟨rfl,λi z z' hz hz'=>?_⟩
   cases i with
   |zero=>simp[G7,Value.cells] at hz hz';subst hz hz';exact⟨rfl,h0⟩
   |succ i=>simp[G7] at hz
section
variable{ds:List Deferred}(hC:C2 E.P WB K J ρ0 H0 F0 w0 H ds w ρ F W' up)(hJ:yc4 K J)
include hC hJ
theorem Ye8 (row : List b7) (vs : Array Value) (t : TypeId) (hl : row.length = vs.size) (hc : ∀ (c : Nat) x x', row[c]? = some x → vs[c]? = some x' → x'.oneCell' = true ∧ XC ρ H F w x x') :
  Qb1 E.P WB K J ρ0 H0 F0 w0 ρ H F w up ds (.ptr H.length 0 0 0) (Cc4 H 0 [row]) (.pointer (some ⟨w.heap.size,0,none⟩)) (w.alloc (.cells vs t)):=by
 obtain⟨c1,c2,c3,c4⟩:=hC.alloc hJ (.cells vs t);have hap:∀(id:Nat) b,H[id]?=some b->G8 b=true->b.dead=false->(ρ id).blk≠w.heap.size:=λid b hb hs hd=>Qdn (hC.srel.has id b hb hs hd).2.2.2.1
 rw[de9];have hnew:(w.alloc (.cells vs t)).heap[w.heap.size]?=some (.cells vs t (0,0)):=by simp only[World.alloc,Qdr];simp
 have hfirst:∀{x x'},XC ρ H F (w.alloc (.cells vs t)) x x'->XC (ρnew ρ H ⟨w.heap.size,0,0⟩) (H++[{ et:=0,es:=0,elems:=[row],own:=true,dead:=false,g:=0 }]) F (w.alloc (.cells vs t)) x x':=λ{x x'} hx=>by
  have hlt:∀{id:Nat} {b:b8},H[id]?=some b->id<H.length:=λh=>(Qdd.1 h).1
  have hρ:∀id,id<H.length->ρnew ρ H ⟨w.heap.size,0,0⟩ id=ρ id:=λid hid=>by simp[ρnew,Qdn hid]
  cases hx with
  |n hx =>
   refine .n (hx.carry (λid b hb hd=>?_) (λ_ _ h=>h) (λ_ _ _=>rfl))
   obtain⟨k1,k2⟩:=wa4 hb hd;exact⟨b,sa9 (by rw[Qdg (hlt k1)];exact k1) k2,hd,Qde _,λ_=>⟨hρ id (hlt k1),rfl,Qde _⟩⟩
  |box id c g b hb hd he =>
   rw[<- hρ id (hlt hb)];exact .box id c g b (by rw[Qdg (hlt hb)];exact hb) hd he
  |map id c g b t hb hd he =>
   rw[<- hρ id (hlt hb)];exact .map id c g b t (by rw[Qdg (hlt hb)];exact hb) hd he
 obtain⟨d1,d2⟩:=c1.adopt w.heap.size 0 c3 (λh=>h.2 rfl) (λo hf=>c4 o hf) (by simp) hap (λhk=>Nat.lt_irrefl _ (hC.kept _ hk).2) { et:=0,es:=0,elems:=[row],own:=true,dead:=false,g:=0 } (Ab8 ⟨rfl,rfl⟩) rfl
  (.inl ⟨⟨rfl,rfl⟩,row,vs,t,rfl,hnew,hl,λc x x' hx hx'=>by
   obtain⟨k1,k2⟩:=hc c x x' hx hx';have k3:=c2 x x' (.c k2);refine⟨k1,hfirst ?_⟩;cases k3 with
   |c h=>exact h
   |w h =>
    cases k2 with
    |n k2 =>
     cases h with
     |val h =>
      cases h with
      |cell h=>exact .n h
      |agg=>cases k1
      |fn f caps vs' hl' h' =>
       exact .n (k2.carry (λid b hb hd=>⟨b,hb,hd,Qde _,λ_=>⟨rfl,rfl,Qde _⟩⟩) (λ_ _ h=>h) λb o hf=>Vb7 (a:=⟨b,o,none⟩) (by
        have:=Ub5 (hC.hrel.frz b o hf)
        simp only[World.alloc,Qdr];rw[if_neg (Qdn this)]))
     |tup=>cases k1
    |box id c g b hb hd he=>exact .box id c g b hb hd he
    |map id c g b t hb hd he=>exact .map id c g b t hb hd he⟩)
 refine⟨_,F,_,d1,λx x' hx=>d2 _ _ (c2 _ _ hx),.c ?_⟩
 have hρn:(ρnew ρ H ⟨w.heap.size,0,0⟩ H.length).blk=w.heap.size:=by simp[ρnew]
 have:=XC.box (ρ:=ρnew ρ H ⟨w.heap.size,0,0⟩) (F:=F) (w:=w.alloc (.cells vs t)) H.length 0 0 { et:=0,es:=0,elems:=[row],own:=true,dead:=false,g:=0 } (H:=H++[{ et:=0,es:=0,elems:=[row],own:=true,dead:=false,g:=0 }]) (by simp) rfl ⟨rfl,rfl⟩
 rwa [hρn] at this
theorem Me8 {t : TypeId} {z : List b7} (ho : o.op = .alloc t) (hz : zeT E.P t = some z) (he : (Ub3 E a H (.balloc z)).run = some (x, H')) :
  j9 E.P o ac w (Qb1 E.P WB K J ρ0 H0 F0 w0 ρ H F w up ds x H'):=by
 have he':some (b7.ptr (len H) 0 0 0,Cc4 H 0 [z])=some (x,H'):=he;injection he' with he';injection he' with e1 e2;subst e1 e2
 rw[o0];obtain⟨ti,zv,hi,hzz,rfl,hone⟩:=ib8 hz;refine .value (x':=.pointer (some ⟨w.heap.size,0,none⟩)) (w':=w.alloc (.cells zv.cells t)) (by simp[execOp,ho,Instr.alloc,zeroValue,typeInfo,hi,hzz,newVar,newRow]) ?_
 refine Ye8 hC hJ _ zv.cells t (by simp) λc y y' hy hy'=>?_
 rw[Qdi] at hy;have hy'':zv.cells.toList[c]?=some y':=by simpa using hy'
 rw[hy''] at hy
 simp at hy
 subst hy;exact⟨hone y' (Qdw hy''),.n (.v _)⟩
theorem uf7 {n : Nat} {t : TypeId} {y : Operand} (hv : VR ρ H F w a (ac.tmps.toList ++ up)) (hn : ac.tmps.size = n) (hG : GOk E F w) (ho : o.op = .box t y) (hy : ltO n y = true) (he : (Ub3 E a H (.bbox (j8 y))).run = some (x, H')) :
  j9 E.P o ac w (Qb1 E.P WB K J ρ0 H0 F0 w0 ρ H F w up ds x H'):=by
 have hyr:=Ib7 hv hn hG y hy;simp only[Ub3] at he;cases hc:(ib5 (d7 E a (j8 y))&&Bc9 Je1 (G7 (d7 E a (j8 y)))) with
 |false=>rw[hc] at he;cases he
 |true =>
 rw[hc] at he;have he':some (b7.ptr (len H) 0 0 0,Cc4 H 0 [G7 (d7 E a (j8 y))])=some (x,H'):=he;injection he' with he';injection he' with e1 e2;subst e1 e2
 rw[Qdc] at hc;rw[o0];obtain⟨h1,h2⟩:=ee0 hyr hc.1 hc.2;refine .value (x':=.pointer (some ⟨w.heap.size,0,none⟩)) (w':=w.alloc (.cells (ac.eval y).cells t)) (by simp[execOp,ho,Instr.box,newVar,newRow]) ?_
 exact Ye8 hC hJ _ (ac.eval y).cells t (by simpa using h1) λc y y' hy hy'=>h2 c y y' hy (by simpa using hy')
end
end
end Go.Ev
