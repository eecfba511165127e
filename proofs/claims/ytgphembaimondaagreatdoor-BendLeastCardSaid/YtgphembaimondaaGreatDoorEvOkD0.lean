/- Own work. -/
import Derived.ChangeStays
import Derived.ChangeSame
import Derived.OpenShut
import Derived.RowKit
import Derived.Test.YtgphembaimondaaGreatDoorEvOkE
import Derived.Shelf.Strings.SlTrimAscii
set_option linter.all false
noncomputable section
def Qja:=@Option.bind_eq_some_iff
def Qjb:=@Array.size_push
namespace Go.Ev
open Go Go.ChangeShapes Go.RowKit
structure Pb2(w w':World):Prop where
 os:w'.os=w.os
 output:w'.output=w.output
 size:w.heap.size<=w'.heap.size
 block:∀k,k<w.heap.size->w'.heap[k]?=w.heap[k]?
theorem Pb2.kept{w w':World}(h:Pb2 w w')(may:MemPlace->Prop):w.keptBut w' may:=by
 refine⟨h.os,h.output,λi hi=>?_⟩
 rw[h.block i hi]
 grind
theorem Pb2.frozen{w w':World}(h:Pb2 w w')(b off:Nat)(hb:b<w.heap.size):w'.frozen? ⟨b,off,none⟩=w.frozen? ⟨b,off,none⟩:=by
 simp only[World.frozen?,h.block b hb]
theorem Pb2.cell{w w':World}(h:Pb2 w w')(b off:Nat)(hb:b<w.heap.size):w'.cell? ⟨b,off,none⟩=w.cell? ⟨b,off,none⟩:=by
 simp only[World.cell?,h.block b hb]
theorem Pb2.same{w w':World}(h:Pb2 w w')(p:MemPlace)(hp:p.block<w.heap.size):w.sameAt w' p:=by
 cases p with
 |cell b off=>exact h.cell b off hp
 |map b=>exact h.block b hp
theorem Pb3{α β:Type}{f:α->Option β}:∀{l:List α} {r:List β},l.mapM f=some r->r.length=l.length/\∀(j:Nat) y,r[j]?=some y->∃x,l[j]?=some x/\f x=some y
 |[],r,h=>by
  simp_all
 |x::l,r,h=>by
  rw[List.mapM_cons] at h;obtain⟨y,h1,h2⟩:=Qja.1 h;obtain⟨r',h3,h4⟩:=Qja.1 h2
  have:r=y::r':=by simpa using h4.symm
  subst this;obtain⟨g1,g2⟩:=Pb3 h3
  grind
section
variable{D:Type}{enc:TypeId×Value->D}{P:Program}
theorem db9{T:TypeId->Prop}(K:Kids P T)(hsz:∀{t e:TypeId},T t->P.underlying t=some (.slice e)->0<P.cellsOf e){w w':World}{sp:Nat->Bool}(hs:Pb2 w w') :
  ∀{ts:List TypeId} {vs:List Value} {ds:List (DataW D)} {ps:List MemPlace},(∀t∈ts,T t)->DataW.TrodAll enc P w 0 (λ_=>true) true ts vs ds ps->(∀p∈ps,p.block<w.heap.size)->(∀p∈ps,sp p.block=true)->DataW.TrodAll enc P w' 0 sp true ts vs ds ps
 |[],[],[],_,_,h,_,_=>h
 |t::ts,v::vs,d::ds,ps,ht,h,hlt,hsp=>by
  obtain⟨p,q,⟨fuel,h1⟩,h2,rfl⟩:=h;refine⟨p,q,⟨fuel,?_⟩,db9 K hsz hs (λt h=>ht t (by simp[h])) h2 (λx hx=>hlt x (by simp[hx])) (λx hx=>hsp x (by simp[hx])),rfl⟩
  exact DataW.trod_stays K hsz (λh=>by cases h) (ht t (by simp)) h1 (λx hx=>hs.same x (hlt x (by simp at hx ⊢;exact .inl hx))) (λx hx=>hsp x (by simp at hx ⊢;exact .inl hx))
 |[],_::_,_,_,_,h,_,_=>h.elim
 |[],[],_::_,_,_,h,_,_=>h.elim
 |_::_,[],_,_,_,h,_,_=>h.elim
 |_::_,_::_,[],_,_,h,_,_=>h.elim
theorem dd0{T:TypeId->Prop}(K:Kids P T)(hsz:∀{t e:TypeId},T t->P.underlying t=some (.slice e)->0<P.cellsOf e){f:Func}{s:ChangeSpec}{apart fresh handsOn again:Bool}{W W':World}{args:Array Value}{ds gs:List (DataW D)}{before:List MemPlace}{tb:TypeId}
  (hT:∀t∈f.params.toList,T t) (hW:DataW.Whole enc P f.params.toList s.vars apart W args.toList ds gs before) (hv:s.vars=[]) (hr:f.resultTypes=#[tb]) (hb:P.underlying tb=some .bool)
  (h1:(s.fn D ds).results=[.lit (.bool true)]) (h2:(s.fn D ds).args=ds) (h3:(s.fn D ds).vars=[]) (hs:Pb2 W W') :
  s.post enc P f apart fresh handsOn again W args (.bool true) W':=by
 have hlt:=hW.lt;obtain⟨pa,pv,hA,hV,hps,hz,hn⟩:=id hW;rw[hv] at hV;have hpv:gs=[]/\pv=[]:=by
  cases gs with
  |nil=>exact⟨rfl,hV⟩
  |cons=>exact hV.elim
 obtain⟨rfl,rfl⟩:=hpv;rw[<- Qbad ds] at h1 h3;have h2:(s.fn D (ds++[])).args=ds:=by rw[Qbad];exact h2
 have hpa:before=pa:=by rw[hps];simp
 subst hpa;have hagain:∀sp:Nat->Bool,(∀p∈before,sp p.block=true)->DataW.TrodAll enc P W' 0 sp true f.params.toList args.toList ds before:=λsp h=>db9 K hsz hs hT hA hlt h
 have hres:∀(b:Nat) (sp:Nat->Bool) (hd:Bool),DataW.TrodAll enc P W' b sp hd f.resultTypes.toList ((Value.bool true).resultList f.resultTypes.size) [.lit (.bool true)] []:=λb sp hd=>by
  rw[hr];exact⟨[],[],⟨1,by simp[DataW.trod,hb,Value.cells,Value.resultList]⟩,rfl,rfl⟩
 have hvars:∀sp:Nat->Bool,DataW.TrodVars enc P W' sp s.vars ([]:List (DataW D)) []:=λsp=>by rw[hv];exact rfl
 have hok:∀(j:Nat) (t:TypeId) (r:Value),f.resultTypes[j]?=some t->((Value.bool true).resultList f.resultTypes.size)[j]?=some r->Value.okWide P W' .any 0 t r:=by
  rw[hr];intro j t r h4 h5;cases j with
  |zero =>
   simp at h4
   subst h4
   have:r=.bool true:=by simpa [Value.resultList] using h5.symm
   subst this;exact okWide_bool_mk hb _
  |succ j=>simp at h4
 have hag:DataW.TrodAll enc P W' 0 (λ_=>true) true (f.resultTypes.toList++f.params.toList) ((Value.bool true).resultList f.resultTypes.size++args.toList) (.lit (.bool true)::ds) before:=by
  have:=hagain (λ_=>true) (λ_ _=>rfl)
  rw[hr];exact⟨[],before,⟨1,by simp[DataW.trod,hb,Value.cells,Value.resultList]⟩,this,rfl⟩
 refine⟨ds,[],before,[],before,[],hW,?_,?_,?_,hs.kept _,λ_=>?_⟩
 ·rw[h1];exact hres _ _ _
 ·grind
 ·rw[h3];exact hvars _
 ·refine⟨hok,.lit (.bool true)::ds,[],before,⟨before,[],hag,hvars _,by simp,?_,?_⟩,?_⟩
  ·intro b off hp;rw[hs.frozen b off (hlt _ hp)];exact hz b off (by simpa using hp)
  ·omega
  ·intro p hp _;exact hp
variable{w:World}{base:Nat}{spare:Nat->Bool}{held:Bool}
def zc2(w:World):Fz:=λb o=>(w.cell? ⟨b,o,none⟩).isSome
theorem Ld8{fuel:Nat}{t:TypeId}{k:IntKind}{cs:List Value}{x:DataW D×List MemPlace}(ht:P.underlying t=some (.int k))(h:DataW.trod enc P w base spare held fuel t cs=some x) :
  ∃n,cs=[.int k n]/\(Lit.int k n).wf=true/\x.1=.lit (.int k n):=by
 cases fuel with
 |zero=>cases h
 |succ fuel =>
  match cs,h with
  |[],h=>simp[DataW.trod,ht] at h
  |[v],h =>
   cases v with
   |int k' n =>
    simp only[DataW.trod,ht] at h
    grind
   |_=>simp[DataW.trod,ht] at h
  |a::b::r,h=>simp[DataW.trod,ht] at h
theorem sd1{fuel:Nat}{t:TypeId}{cs:List Value}{x:DataW D×List MemPlace}(ht:P.underlying t=some .bool)(h:DataW.trod enc P w base spare held fuel t cs=some x) :
  ∃n,cs=[.bool n]/\x.1=.lit (.bool n):=by
 cases fuel with
 |zero=>cases h
 |succ fuel =>
  match cs,h with
  |[],h=>simp[DataW.trod,ht] at h
  |[v],h =>
   cases v with
   |bool n =>
    simp only[DataW.trod,ht] at h
    grind
   |_=>simp[DataW.trod,ht] at h
  |a::b::r,h=>simp[DataW.trod,ht] at h
theorem dd1{fuel:Nat}{t e:TypeId}{n:Nat}{cs:List Value}{x:DataW D×List MemPlace}(ht:P.underlying t=some (.array n e))(h:DataW.trod enc P w base spare held fuel t cs=some x) :
  cs.length=P.cellsOf t/\∃(fuel':Nat) (xs:List (DataW D×List MemPlace)),xs.length=n/\x.1=.agg (xs.map (·.1))/\∀(j:Nat) y,xs[j]?=some y->DataW.trod enc P w base spare held fuel' e ((cs.drop (j*P.cellsOf e)).take (P.cellsOf e))=some y:=by
 cases fuel with
 |zero=>cases h
 |succ fuel =>
  unfold DataW.trod at h;rw[ht] at h
  simp only at h
  split at h
  ·rename_i hl;obtain⟨xs,h1,h2⟩:=Qce.1 h;have hx:=Pb3 h1;exact⟨hl,fuel,xs,by simpa using hx.1,by rw[<- h2],λj y hy=>by
    obtain⟨a,ha,hb⟩:=hx.2 j y hy
    have:j<n:=by
     have:=(Qab.1 hy).1
     rw[hx.1] at this;simpa using this
    rw[List.getElem?_range this] at ha;injection ha with ha;subst ha;exact hb⟩
  ·cases h
theorem Oc6{fuel:Nat}{t:TypeId}{fs:Array Field}{cs:List Value}{x:DataW D×List MemPlace}(ht:P.underlying t=some (.struct fs))(h:DataW.trod enc P w base spare held fuel t cs=some x) :
  cs.length=P.cellsOf t/\∃(fuel':Nat) (xs:List (DataW D×List MemPlace)),xs.length=fs.size/\x.1=.agg (xs.map (·.1))/\∀(j:Nat) f,fs[j]?=some f->∃y,xs[j]?=some y/\DataW.trod enc P w base spare held fuel' f.type ((cs.drop f.offset).take (P.cellsOf f.type))=some y:=by
 cases fuel with
 |zero=>cases h
 |succ fuel =>
  unfold DataW.trod at h;rw[ht] at h
  simp only at h
  split at h
  ·rename_i hl;obtain⟨xs,h1,h2⟩:=Qce.1 h;have hx:=Pb3 h1;refine⟨hl,fuel,xs,by simpa using hx.1,by rw[<- h2],λj f hf=>?_⟩
   grind
  ·cases h
theorem Fc7:∀(d:Nat) (t:TypeId) (l:List (Nat×CK)),K2 P d t=some l->∀(fuel:Nat) (cs:List Value) (x:DataW D×List MemPlace),DataW.trod enc P w base spare held fuel t cs=some x->∀p∈l,ca0 cs.toArray p
 |0,_,_,h,_,_,_,_=>by cases h
 |d+1,t,l,h,fuel,cs,x,hx=>by
  have hpart:∀{off n:Nat} {e:TypeId} {l':List (Nat×CK)} {fuel':Nat} {y:DataW D×List MemPlace},Ra7 off n (K2 P d e)=some l'->DataW.trod enc P w base spare held fuel' e ((cs.drop off).take n)=some y->∀p∈l',ca0 cs.toArray p:=λ{off n e l' fuel' y} h1 h2 p hp=>by
   obtain⟨l2,g1,g2,rfl⟩:=ia3 h1;obtain⟨q,hq,rfl⟩:=Qbz.1 hp
   have:=Fc7 d e l2 g1 fuel' _ y h2 q hq
   have hlt:=g2 q hq;unfold ca0 at this ⊢;simp only[List.getElem?_toArray,Qbe,hlt,if_true,Qbj] at this ⊢;exact this
  have hcat:∀{α:Type} (f:α->Option (List (Nat×CK))) (xs:List α) (l:List (Nat×CK)),Q1 (xs.map f)=some l->∀p∈l,∃a∈xs,∃l',f a=some l'/\p∈l':=λ{α} f xs=>by
   induction xs with
   |nil=>intro l h;simp only[List.map_nil,Q1] at h;injection h with h;subst h;simp
   |cons a xs ih =>
    intro l h p hp;simp only[Qbw,Q1] at h;cases h1:f a with
    |none=>simp[h1] at h
    |some l1 =>
    cases h2:Q1 (xs.map f) with
    |none=>simp[h1,h2] at h
    |some l2 =>
    simp only[h1,h2] at h;injection h with h;subst h
    rcases List.mem_append.1 hp with hp|hp
    ·exact⟨a,by simp,l1,h1,hp⟩
    ·obtain⟨b,hb,r⟩:=ih l2 h2 p hp;exact⟨b,by simp[hb],r⟩
  unfold K2 at h;cases hu:P.underlying t with
  |none=>simp[hu] at h
  |some u =>
  cases u with
  |int k =>
   simp only[hu] at h;injection h with h;subst h
   obtain⟨n,rfl,_,_⟩:=Ld8 hu hx;intro p hp;simp at hp;subst hp;exact⟨n,rfl⟩
  |bool =>
   simp only[hu] at h;injection h with h;subst h
   obtain⟨n,rfl,_⟩:=sd1 hu hx;intro p hp;simp at hp;subst hp;exact⟨n,rfl⟩
  |struct fs =>
   simp only[hu] at h
   split at h
   ·cases h
   obtain⟨_,fuel',xs,_,_,hxs⟩:=Oc6 hu hx;intro p hp;obtain⟨f,hf,l',h1,h2⟩:=hcat _ _ _ h p hp
   split at h1
   ·cases h1
   obtain⟨j,hj⟩:=List.getElem?_of_mem hf;obtain⟨y,_,hy⟩:=hxs j f (by simpa using hj)
   have hc:P.cellsOf f.type=szT P f.type:=by
    unfold Program.cellsOf szT
    grind
   grind
  |array n e =>
   simp only[hu] at h
   split at h
   case isFalse=>cases h
   obtain⟨_,fuel',xs,hn,_,hxs⟩:=dd1 hu hx;intro p hp;obtain⟨j,hj,l',h1,h2⟩:=hcat _ _ _ h p hp;have hj':j<xs.length:=by rw[hn];simpa using hj
   have hy:=hxs j _ (Qaa hj');have hc:P.cellsOf e=szT P e:=by
    unfold Program.cellsOf szT;cases P.info? e<;>rfl
   grind
  |_=>simp[hu] at h
def Oa5(k:IntKind)(es:Nat)(g:Nat->Int):List a7:=(List.range es).map λc=>.v (.int k (g c))
def na3(k:IntKind)(es:Nat):List (Nat×CK):=(List.range es).map λc=>(c,.int k)
theorem sd2{d:Nat}{t:TypeId}{k:IntKind}{es:Nat}(hf:K2 P d t=some (na3 k es)){fuel:Nat}{cs:List Value}{x:DataW D×List MemPlace}(hx:DataW.trod enc P w base spare held fuel t cs=some x)(hl:cs.length=es) :
  ∃g:Nat->Int,∀c,c<es->cs[c]?=some (.int k (g c)):=by
 have h:=Fc7 d t _ hf fuel cs x hx;have h':∀c,∃n:Int,c<es->cs[c]?=some (.int k n):=λc=>by
  by_cases hc:c<es
  ·have:=h (c,.int k) (Qbz.2 ⟨c,by simpa using hc,rfl⟩)
   obtain⟨n,hn⟩:=this;exact⟨n,λ_=>by simpa using hn⟩
  ·exact⟨0,λh=>absurd h hc⟩
 exact⟨λc=>Classical.choose (h' c),λc hc=>Classical.choose_spec (h' c) hc⟩
theorem zc3{k:IntKind}{es:Nat}{g:Nat->Int}{c:Nat}{x:a7}(h:(Oa5 k es g)[c]?=some x):c<es/\x=.v (.int k (g c)):=by
 unfold Oa5 at h
 grind
theorem Oc7(w:World):n7 (λk=>w.heap.size<=k) (λ_=>⟨0,0,0⟩) [] (zc2 w) w :=
 ⟨λid b h=>by simp at h,λid id' b b' h=>by simp at h,λ_ _ h=>h,λ_ h=>h⟩
theorem Oc8{G:Nat->List Value}{f:FuncId}{S:Sum}(hS:c8 P G f S){aargs:List a7}{args:List Value}(hrun:∃out,(S aargs []).run=some (b true,out))(hl:aargs.length=args.length)
  (ha:∀(i:Nat) x x',aargs[i]?=some x->args[i]?=some x'->J1 (λ_=>⟨0,0,0⟩) [] (zc2 w) w x x') (hG:∀g (c:Nat) x,(G g)[c]?=some x->x.oneCell'=true/\w.cell? ⟨g,c,none⟩=some x) :
  Calls P f args.toArray w λe w'=>e=.returned (.bool true)/\Pb2 w w':=by
 obtain⟨out,hrun⟩:=hrun;obtain⟨_,hc⟩:=hS aargs [] (b true) out hrun (λk=>w.heap.size<=k) (λ_=>⟨0,0,0⟩) (zc2 w) w args (Oc7 w) hl (λi x x' h1 h2=>.val (ha i x x' h1 h2)) (λg c x hx=>by
  obtain⟨h1,h2⟩:=hG g c x hx;exact⟨h1,by unfold zc2;rw[h2];rfl,h2⟩)
 refine hc.mono λe w' ⟨r',he,ρ',F',hA,hH,hW⟩=>?_
 have:=D8 hW
 subst this;exact⟨he,hA.ext.os,hA.ext.output,hA.ext.size,λk hk=>hA.ext.block k hk (by omega)⟩
theorem sd3{ρ:Rho}{H:List a8}{F:Fz}{t:TypeId}{k:IntKind}{es d:Nat}{v:Value}{dd:DataW D}{pp:List MemPlace}{bs:Nat}{r:Reach}(hag:agT P t=true)(hf:K2 P d t=some (na3 k es))(hes:P.cellsOf t=es)
  (hok:Value.okWide P w r bs t v) (h:DataW.Trod enc P w base spare held t v dd pp):∃g:Nat->Int,J1 ρ H F w (.agg (Oa5 k es g)) v:=by
 have hv:∃cs:Array Value,v=.agg cs/\cs.size=P.cellsOf t:=by
  unfold agT at hag;unfold Value.okWide at hok
  grind
 obtain⟨cs,rfl,hsz⟩:=hv;obtain⟨fuel,hx⟩:=h;have hx:DataW.trod enc P w base spare held fuel t cs.toList=some (dd,pp):=hx;obtain⟨g,hg⟩:=sd2 hf hx (by simpa [hes] using hsz)
 refine⟨g,.agg _ _ (by simp[Oa5,hsz,hes]) λc x x' h1 h2=>?_⟩
 obtain⟨hc,rfl⟩:=zc3 h1
 have:=hg c hc
 have h3:some x'=some (.int k (g c)):=by rw[<- h2];simpa using this
 injection h3 with h3;subst h3;exact .v _
end
end Go.Ev
namespace Go.Ev.L
open Go Go.Ev
def Rdg{α:Type}(c:Cod α)(x:a7)(a:α):Prop:=c.dec x=some a/\c.grd x=true
section
variable{α β γ δ ε:Type}{c:Cod α}{d:Cod β}{e:Cod γ}{f:Cod δ}{c5:Cod ε}{x y z w v:a7}{a:α}{b':β}{g:γ}{j:δ}{m:ε}{r:a7×List a8}
theorem oe6{k:α->β->γ->DT (a7×List a8)}(h1:Rdg c x a)(h2:Rdg d y b')(h3:Rdg e z g)(h:(k a b' g).run=some r):(Ab0 c d e k [x,y,z] []).run=some r:=by
 unfold Ab0;simp only[h1.1,h1.2,h2.1,h2.2,h3.1,h3.2];exact h
end
theorem Ld9{g p:Bool}(hg:g=true)(hp:p=true):(DT.guard g (.ret ((one r1B).enc p,([]:List a8)))).run=some (b true,([]:List a8)):=by subst hg;subst hp;rfl
end Go.Ev.L
namespace Go.Ev.Ce
open Go Go.Ev Go.Ev.L Go.Proofs
structure B3 where
 b0:Int
 b1:Int
 b2:Int
structure B2 where
 d0:Int
 d1:Int
def ce4:List a7->Bool
 |[.v (.int .u8 _),.v (.int .u8 _)]=>true
 |_=>false
def oe7:List a7->B2
 |[.v (.int .u8 x),.v (.int .u8 y)]=>⟨x,y⟩
 |_=>⟨0,0⟩
def tM:Ty B2 where
 es:=2
 row x:=[.v (.int .u8 x.d0),.v (.int .u8 x.d1)]
 rd:=oe7
 ok:=ce4
 cks:=List.replicate 2 (.int .u8)
 d:=⟨0,0⟩
 h0 _:=rfl
 h1 _:=rfl
 h2 _:=rfl
 h3 r h:=by
  unfold ce4 at h
  split at h
  ·exact .refl _
  ·cases h
 h4 _:=rfl
 h5 _:=rfl
structure LL where
 u:List Int
 v:List Int
structure I3 where
 j0:Int
 j1:Int
 j2:Int
def dH:a7->Option Int
 |.v (.int .u16 n)=>some n
 |_=>none
theorem ce5{x:a7}{n:Int}(h:dH x=some n):x=.v (.int .u16 n):=by
 unfold dH at h
 split at h
 ·cases h;rfl
 ·cases h
def cH:Cod Int:=⟨λn=>.v (.int .u16 n),dH,λ_=>true,λ_ _ h _=>.of (ce5 h)⟩
theorem gc1:pa7 []=O8 []/\pa8 []=true:=by
 have h:ga2 []=some (.tup [.v (.slice none 0 0),i 11],[]):=by
  unfold ga2;simp only[r7,Ta4,p9,pb5 [] (by simp),pb4 [] (by simp),pb6]
  rfl
 unfold pa7 pa8 O8;rw[h,pb6];exact⟨rfl,rfl⟩
theorem ce6:ua0 []=Rb3 []/\ua1 []=true:=by
 have h:W6 []=some (.tup [.v (.slice none 0 0),i 11],[]):=by
  unfold W6;simp only[r7,Ta4,p9,gc1.1,gc1.2,O8,pb6];rfl
 unfold ua0 ua1 Rb3;rw[h,pb6];exact⟨rfl,rfl⟩
theorem pb8{α:Type}{f:Nat}{c:Cod α}{k kA kB:α->DT (a7×List a8)}(hA:c8 prog G f (G7 c kA))(hB:c8 prog G f (G7 c kB))
  (h:∀a r,(k a).run=some r->(kA a).run=some r\/(kB a).run=some r):c8 prog G f (G7 c k):=λargs blks r out he=>by
 unfold G7 at he
 split at he
 ·rename_i x;cases hd:c.dec x with
  |none=>rw[hd] at he;cases he
  |some a =>
   rw[hd] at he;obtain⟨h1,h2⟩:=DT.run_guard_some (show (DT.guard (c.grd x) (k a)).run=some (r,out) from he)
   rcases h a _ h2 with q|q
   ·refine hA [x] [] r out ?_;show (onO (c.dec x) λa=>DT.guard (c.grd x) (kA a)).run=_
    rw[hd];show (DT.guard (c.grd x) (kA a)).run=_;rw[h1];exact q
   ·refine hB [x] [] r out ?_;show (onO (c.dec x) λa=>DT.guard (c.grd x) (kB a)).run=_
    rw[hd];show (DT.guard (c.grd x) (kB a)).run=_;rw[h1];exact q
 ·cases he
def Rb6(l:List V3):PLq×Int:=O8 l
def eb0(l:List V3):Bool:=decide (l.length<=900000)
def Rb7:Sum:=G7 (da6 tV) λl=>.guard (eb0 l) (.ret ((two (r1L tP) r1I).enc (Rb6 l),[]))
theorem Wa7:c8 prog G 70 Rb7:=pb8 Pb0 Wa1 λl r hr=>by
 obtain⟨hg,hr⟩:=DT.run_guard_some hr;cases l with
 |nil=>right;rw[gc1.1,gc1.2];exact hr
 |cons a c =>
  left
  have:=of_decide_eq_true hg
  rw[show db8 (a::c)=true from decide_eq_true ⟨by simp,this⟩]
  exact hr
def Db4(l:List V3):List V3×Int:=Rb3 l
def Qa0(l:List V3):Bool:=decide (l.length<=900000)
def Db5:Sum:=G7 (da6 tV) λl=>.guard (Qa0 l) (.ret ((two (r1L tV) r1I).enc (Db4 l),[]))
theorem Ka7:c8 prog G 69 Db5:=pb8 wb3 vb1 λl r hr=>by
 obtain⟨hg,hr⟩:=DT.run_guard_some hr;cases l with
 |nil=>right;rw[ce6.1,ce6.2];exact hr
 |cons a c =>
  left
  have:=of_decide_eq_true hg
  rw[show Pa9 (a::c)=true from decide_eq_true ⟨by simp,this⟩]
  exact hr
end Go.Ev.Ce
namespace Go.Proofs
open Go.Shelf
def Ce.trimP_ren:Go.Shelf.Ren:=⟨fun | 160=>93 | 232=>124 | 231=>123 | 227=>125 | 234=>127 | 233=>126 | 236=>129 | 235=>128 | 228=>151 | 271=>154 | 151=>153 | 197=>152 | 120=>173 | 152=>172 | 260=>171 | 137=>188 | 119=>189 | 224=>190 | 225=>191 | 217=>196 | 266=>198 | n=>n,fun | 9=>9 | 4=>4 | 3=>3 | 5=>5 | 117=>161 | 116=>160 | 0=>0 | 124=>164 | 21=>21 | 105=>176 | 46=>172 | 119=>205 | 139=>208 | 138=>207 | n=>n,fun | 3=>0 | 4=>1 | n=>n⟩
theorem Ce.trimP:Go.Proofs.Lays.n160 Tryz.prog Ce.trimP_ren:={
 mixed:=by kernel_rfl
 f119:=Tryz.func189.trans (congrArg some (by kernel_rfl))
 f120:=Tryz.func173.trans (congrArg some (by kernel_rfl))
 f137:=Tryz.func188.trans (congrArg some (by kernel_rfl))
 f151:=Tryz.func153.trans (congrArg some (by kernel_rfl))
 f152:=Tryz.func172.trans (congrArg some (by kernel_rfl))
 f160:=Tryz.func93.trans (congrArg some (by kernel_rfl))
 f197:=Tryz.func152.trans (congrArg some (by kernel_rfl))
 f217:=Tryz.func196.trans (congrArg some (by kernel_rfl))
 f224:=Tryz.func190.trans (congrArg some (by kernel_rfl))
 f225:=Tryz.func191.trans (congrArg some (by kernel_rfl))
 f227:=Tryz.func125.trans (congrArg some (by kernel_rfl))
 f228:=Tryz.func151.trans (congrArg some (by kernel_rfl))
 f231:=Tryz.func123.trans (congrArg some (by kernel_rfl))
 f232:=Tryz.func124.trans (congrArg some (by kernel_rfl))
 f233:=Tryz.func126.trans (congrArg some (by kernel_rfl))
 f234:=Tryz.func127.trans (congrArg some (by kernel_rfl))
 f235:=Tryz.func128.trans (congrArg some (by kernel_rfl))
 f236:=Tryz.func129.trans (congrArg some (by kernel_rfl))
 f260:=Tryz.func171.trans (congrArg some (by kernel_rfl))
 f266:=Tryz.func198.trans (congrArg some (by kernel_rfl))
 f271:=Tryz.func154.trans (congrArg some (by kernel_rfl))
 t0:=Tryz.underlying0
 a0:=Tryz.isAgg0
 z0:=Tryz.sizeOf0
 v0:=Tryz.zeroValue0
 t3:=Tryz.underlying3
 a3:=Tryz.isAgg3
 z3:=Tryz.sizeOf3
 v3:=Tryz.zeroValue3
 t4:=Tryz.underlying4
 a4:=Tryz.isAgg4
 z4:=Tryz.sizeOf4
 v4:=Tryz.zeroValue4
 t5:=Tryz.underlying5
 a5:=Tryz.isAgg5
 z5:=Tryz.sizeOf5
 v5:=Tryz.zeroValue5
 t9:=Tryz.underlying9
 a9:=Tryz.isAgg9
 z9:=Tryz.sizeOf9
 v9:=Tryz.zeroValue9
 t21:=Tryz.underlying21
 a21:=Tryz.isAgg21
 z21:=Tryz.sizeOf21
 v21:=Tryz.zeroValue21
 t46:=Tryz.underlying172
 a46:=Tryz.isAgg172
 z46:=Tryz.sizeOf172
 v46:=Tryz.zeroValue172
 t105:=Tryz.underlying176
 a105:=Tryz.isAgg176
 z105:=Tryz.sizeOf176
 v105:=Tryz.zeroValue176
 t116:=Tryz.underlying160
 a116:=Tryz.isAgg160
 z116:=Tryz.sizeOf160
 t117:=Tryz.underlying161
 a117:=Tryz.isAgg161
 z117:=Tryz.sizeOf161
 v117:=Tryz.zeroValue161
 t119:=Tryz.underlying205
 a119:=Tryz.isAgg205
 z119:=Tryz.sizeOf205
 t124:=Tryz.underlying164
 a124:=Tryz.isAgg164
 z124:=Tryz.sizeOf164
 v124:=Tryz.zeroValue164
 t138:=Tryz.underlying207
 a138:=Tryz.isAgg207
 z138:=Tryz.sizeOf207
 v138:=Tryz.zeroValue207
 t139:=Tryz.underlying208
 a139:=Tryz.isAgg208
 z139:=Tryz.sizeOf208
 v139:=Tryz.zeroValue208
 g3:=by kernel_rfl
 g4:=by kernel_rfl }
end Go.Proofs
namespace Go.Ev.Ce
open Go Go.Ev Go.Proofs
theorem Oc9{w':World}(w:World)(A B:Obj)(q:Nat)(h:w'=((w.alloc A).alloc B).drewN q):w'.os=w.os/\w'.tape=w.tape/\w'.output=w.output/\w.heap.size<=w'.heap.size/\(∀k,k<w.heap.size->w'.heap[k]?=w.heap[k]?)/\w.drawn<=w'.drawn:=by
 have e:w'.heap=(w.heap.push A).push B:=by rw[h];rfl
 refine⟨by rw[h];rfl,by rw[h];rfl,by rw[h];rfl,?_,λk hk=>?_,?_⟩
 ·rw[e,Qjb,Qjb];omega
 ·rw[e,Qam,if_neg (by rw[Qjb];omega),Qam,if_neg (by omega)]
 ·rw[h];exact Nat.le_add_right _ _
def Ad9(s c:ByteArray):ByteArray:=⟨(Go.Lib.trimS s.data.toList c.data.toList).toArray⟩
def Bd0(s c:ByteArray):Bool:=Bool.and (Bool.and (Nat.blt 0 s.size) (Nat.ble s.size 9223372036854775807)) (Bool.and (Bool.and (Nat.blt 1 c.size) (Nat.blt c.size 4294967281)) (c.data.toList.all λb=>decide (b.toNat<128)))
def Ba0:Sum:=λargs blks=>match args,blks with
 |[.v (.string s),.v (.string c)],[]=>.guard (Bd0 s c) (.ret (.v (.string (Ad9 s c)),[]))
 |_,_=>.fail
theorem f160:Ce.trimP_ren.f 160=93:=by kernel_rfl
set_option maxRecDepth 100000 in
theorem Db6:c8 prog G 93 Ba0:=by
 intro args blks r out he W ρ F w args' hH hlen hargs hG;refine⟨⟨_,Tryz.func93,by kernel_rfl,of_decide_eq_true (by kernel_rfl)⟩,?_⟩
 unfold Ba0 at he
 split at he
 case h_2=>cases he
 rename_i s c
 match args',hlen with
 |[v0,v1],_ =>
 have e0:=D8 (hargs 0 _ _ rfl rfl);have e1:=D8 (hargs 1 _ _ rfl rfl);subst e0 e1;obtain⟨hg,he⟩:=DT.run_guard_some he;unfold Bd0 at hg;simp only[Qbd] at hg;obtain⟨⟨g1,g2⟩,⟨g3,g4⟩,g5⟩:=hg;have he:some (a7.v (.string (Ad9 s c)),([]:List a8))=some (r,out):=he;injection he with he;injection he with q1 q2;subst q1 q2
 have h116:(Tryz.prog.info? (Ce.trimP_ren.t 116)).map (λi=>(i.zero,i.size))=some (some (.agg (Array.replicate 256 (.bool false))),256):=by kernel_rfl
 have:=Any.strings_Trim_set Ce.trimP (zero_of_info h116).1 (zero_of_info h116).2 s c w (Qbb g3) (Qbb g1) (Qbb g2) (Qbb g4) (ascii_of_all g5)
 rw[f160] at this;refine this.mono λe w' ⟨h1,q,hb⟩=>?_
 subst h1;obtain⟨k1,k2,k3,hws,hold,k6⟩:=Oc9 w _ _ q hb;have hcell:∀b o,F b o->w'.cell? ⟨b,o,none⟩=w.cell? ⟨b,o,none⟩:=λb o hf=>by
  have:=hold b (Ca2 (hH.frz b o hf))
  simp[World.cell?,this]
 refine⟨_,rfl,ρ,F,⟨⟨k1,k2,k3,hws,λk hk _=>hold k hk,hcell,k6⟩,.refl,λ_ _ h=>h,λ_ _ h=>.inl h,λ_ b h hn=>absurd rfl (hn b h)⟩,?_,.ofv _⟩
 exact⟨λid b hb hd=>(hH.blk id b hb hd).elim λcc h=>h.elim λt h=>h.elim λfr hB=>⟨cc,t,fr,hB.keep (hold _ hB.lt) hcell⟩,hH.apart,λb o hf=>by rw[hcell b o hf];exact hH.frz b o hf,λk hk=>hH.new k (by omega)⟩
end Go.Ev.Ce
namespace Go.Ev.Ce
open Go Go.Ev Go.Ev.L Go.Proofs
section
variable(c:PLq)(e:V3)(s:Int)
structure PI(j:Nat)(o:PLq):Prop where
 le:j<=c.length
 o:o=(c.take j).map (pq e s)
 a:(c.take j).all (okq e s)=true
end
section
variable(c:PLq)(e:V3)(hc:c.length<=1000000)
include hc
end
theorem yb9:∀(l r:List V3),l.Pairwise LtV->r.Pairwise LtV->(∀v,v∈l↔v∈r)->l=r
 |[],[],_,_,_=>rfl
 |[],y::r,_,_,h=>absurd ((h y).2 (Qck ..)) (by simp)
 |x::l,[],_,_,h=>absurd ((h x).1 (Qck ..)) (by simp)
 |x::l,y::r,h1,h2,h=>by
  obtain⟨a1,a2⟩:=Qid.1 h1;obtain⟨b1,b2⟩:=Qid.1 h2;have e:x=y:=by
   rcases Qbp.1 ((h x).1 (Qck ..)) with e|hx
   ·exact e
   ·rcases Qbp.1 ((h y).2 (Qck ..)) with e|hy
    ·exact e.symm
    ·exact absurd (Za6 (b1 x hx) (a1 y hy)) (pb1 y)
  subst e
  have:l=r:=yb9 l r a2 b2 λv=>by
   have hv:=h v;simp only[Qbp] at hv;constructor
   ·intro hm
    rcases hv.1 (.inr hm) with e|h'
    ·subst e;exact absurd (a1 v hm) (pb1 v)
    ·exact h'
   ·intro hm
    rcases hv.2 (.inr hm) with e|h'
    ·subst e;exact absurd (b1 v hm) (pb1 v)
    ·exact h'
  rw[this]
set_option maxRecDepth 1000000
def fN{α:Type}(n:Nat)(f:Nat->α):α:=Nat.rec (motive:=λ_=>α) (f 0) (λk _=>f (Nat.succ k)) n
theorem Bd1{α:Type}(n:Nat)(f:Nat->α):fN n f=f n:=by cases n<;>rfl
def fI{α:Type}(x:Int)(f:Int->α):α:=Int.rec (motive:=λ_=>α) (λn=>fN n λn=>f (.ofNat n)) (λn=>fN n λn=>f (.negSucc n)) x
theorem Bd2{α:Type}(x:Int)(f:Int->α):fI x f=f x:=by
 cases x with
 |ofNat n=>exact Bd1 n λn=>f (.ofNat n)
 |negSucc n=>exact Bd1 n λn=>f (.negSucc n)
def fV{α:Type}(p:V3)(f:V3->α):α:=fI p.x λx=>fI p.y λy=>fI p.z λz=>f ⟨x,y,z⟩
theorem Yb0{α:Type}(p:V3)(f:V3->α):fV p f=f p:=by unfold fV;simp only[Bd2]
def fZ{α β:Type}(h:β->(β->α)->α)(l:List β):(List β->α)->α:=List.rec (motive:=λ_=>(List β->α)->α) (λf=>f []) (λp _ ih f=>h p λp=>ih λl=>f (p::l)) l
theorem Yb1{α β:Type}{h:β->(β->α)->α}(hh:∀x f,h x f=f x)(l:List β)(f:List β->α):fZ h l f=f l:=by
 induction l generalizing f with
 |nil=>rfl
 |cons p l ih=>exact (hh p λp=>fZ h l λl=>f (p::l)).trans (ih λl=>f (p::l))
def zc4(v:V3)(l:List V3):List V3:=List.rec (motive:=λ_=>List V3) [v] (λw r ih=>Bool.rec (motive:=λ_=>List V3) (Bool.rec (motive:=λ_=>List V3) (w::r) (w::ih) (decide (LtV w v))) (v::w::r) (decide (LtV v w))) l
theorem Pb4{v u:V3}:∀{l:List V3},u∈zc4 v l↔u=v\/u∈l
 |[]=>by show u∈[v]↔_;simp
 |w::r=>by
  show u∈(Bool.rec (motive:=λ_=>List V3) (Bool.rec (motive:=λ_=>List V3) (w::r) (w::zc4 v r) (decide (LtV w v))) (v::w::r) (decide (LtV v w)))↔_
  by_cases h1:LtV v w
  ·rw[decide_eq_true h1];simp
  ·rw[decide_eq_false h1];by_cases h2:LtV w v
   ·rw[decide_eq_true h2];show u∈w::zc4 v r↔_;rw[Qbp,Pb4,Qbp];constructor
    ·rintro (h|h|h)<;>simp[h]
    ·rintro (h|h|h)<;>simp[h]
   ·rw[decide_eq_false h2]
    have:v=w:=(Fc0 v w).elim (λh=>absurd h h1) λh=>h.elim id λh=>absurd h h2
    subst this;show u∈v::r↔_;simp
theorem qc9{v:V3}:∀{l:List V3},l.Pairwise LtV->(zc4 v l).Pairwise LtV
 |[],_=>by show [v].Pairwise LtV;simp
 |w::r,h=>by
  show (Bool.rec (motive:=λ_=>List V3) (Bool.rec (motive:=λ_=>List V3) (w::r) (w::zc4 v r) (decide (LtV w v))) (v::w::r) (decide (LtV v w)):List V3).Pairwise LtV
  obtain⟨h3,h4⟩:=Qid.1 h;by_cases h1:LtV v w
  ·rw[decide_eq_true h1];refine Qid.2 ⟨λu hu=>?_,h⟩
   rcases Qbp.1 hu with rfl|hu
   ·exact h1
   ·exact Za6 h1 (h3 u hu)
  ·rw[decide_eq_false h1];by_cases h2:LtV w v
   ·rw[decide_eq_true h2];refine Qid.2 ⟨λu hu=>?_,qc9 h4⟩
    rcases Pb4.1 hu with rfl|hu
    ·exact h2
    ·exact h3 u hu
   ·rw[decide_eq_false h2];exact h
def dd2(l:List V3):List V3:=List.rec (motive:=λ_=>List V3) [] (λv _ ih=>zc4 v ih) l
theorem rc0{u:V3}:∀{l:List V3},u∈dd2 l↔u∈l
 |[]=>Iff.rfl
 |v::r=>by show u∈zc4 v (dd2 r)↔_;rw[Pb4,rc0,Qbp]
theorem rc1:∀l:List V3,(dd2 l).Pairwise LtV
 |[]=>.nil
 |v::r=>qc9 (rc1 r)
theorem sd4(l:List V3):dis l=dd2 l:=yb9 _ _ (bd5 _) (rc1 l) λv=>by rw[pb2,rc0]
def Wa8(l:List V3):List V3×Int:=if qa8 l=0 then ((dd2 l).filter (kv (F0 l)),0) else ([],qa8 l)
theorem sd5(l:List V3):Rb3 l=Wa8 l:=by unfold Rb3 Wa8 ce2;rw[sd4]
def Fc8:Sum:=G7 (da6 tV) λl=>fZ fV l λl=>.guard (Nat.ble l.length 900000) (.ret ((one r1I).enc (qa8 l),[]))
theorem dd3:c8 prog G 104 Fc8:=pb8 fa6 fa6 λl r h=>by
 rw[Yb1 Yb0] at h;obtain⟨hg,h⟩:=DT.run_guard_some h;have hl:=Qbb hg;left;rw[pb4 l (by omega),pb5 l (by omega)];exact h
def gc2(p q:V3):Bool:=p.x==q.x&&(p.y==q.y&&p.z==q.z)
theorem Za9(p q:V3)(h:gc2 p q=true):p=q:=by
 obtain⟨x,y,z⟩:=p;obtain⟨x',y',z'⟩:=q;unfold gc2 at h;simp only[Qbd,beq_iff_eq] at h;obtain⟨rfl,rfl,rfl⟩:=h;rfl
def eqZ{β:Type}(h:β->β->Bool)(l:List β):List β->Bool :=
 List.rec (motive:=λ_=>List β->Bool) (λm=>List.rec (motive:=λ_=>Bool) true (λ_ _ _=>false) m) (λx _ ih m=>List.rec (motive:=λ_=>Bool) false (λy t _=>Bool.rec (motive:=λ_=>Bool) false (ih t) (h x y)) m) l
theorem Ha6{β:Type}{h:β->β->Bool}(hh:∀x y,h x y=true->x=y):∀{l m:List β},eqZ h l m=true->l=m
 |[],[],_=>rfl
 |[],_::_,e=>by cases e
 |_::_,[],e=>by cases e
 |x::l,y::m,e=>by
  have e:Bool.rec (motive:=λ_=>Bool) false (eqZ h l m) (h x y)=true:=e
  cases hx:h x y with
  |false=>rw[hx] at e;cases e
  |true=>rw[hx] at e;rw[hh x y hx,Ha6 hh e]
def onT{β:Type}(l:List V3)(k:β->DT (a7×List a8))(T:List (List V3×β)):DT (a7×List a8) :=
 List.rec (motive:=λ_=>DT (a7×List a8)) .fail (λx _ ih=>.ite (eqZ gc2 l x.1) (k x.2) ih) T
theorem pb9{β:Type}{l:List V3}{k:β->DT (a7×List a8)}{r:a7×List a8}{Q:List V3×β->Prop}:∀{T:List (List V3×β)},V2 Q T->(onT l k T).run=some r->∃x,Q (l,x)/\(k x).run=some r
 |[],_,h=>by cases h
 |(m,x)::T,.cons hq ht,h=>by
  have h:(DT.ite (eqZ gc2 l m) (k x) (onT l k T)).run=some r:=h;rw[DT.run_ite] at h
  split at h
  ·rename_i e;exact⟨x,by rw[Ha6 Za9 e];exact hq,h⟩
  ·exact pb9 ht h
theorem oe8:O8 [⟨0,0,0⟩,⟨2,0,0⟩,⟨0,2,0⟩,⟨2,2,0⟩,⟨0,0,2⟩,⟨2,0,2⟩,⟨0,2,2⟩,⟨2,2,2⟩]=([⟨⟨-1,0,0⟩,0⟩,⟨⟨0,-1,0⟩,0⟩,⟨⟨0,0,-1⟩,0⟩,⟨⟨0,0,1⟩,2⟩,⟨⟨0,1,0⟩,2⟩,⟨⟨1,0,0⟩,2⟩],0):=by kernel_rfl
theorem oe9:O8 [⟨0,0,0⟩,⟨0,0,2⟩,⟨0,2,0⟩,⟨0,2,2⟩,⟨2,0,0⟩,⟨2,0,2⟩,⟨2,2,0⟩,⟨2,2,2⟩]=([⟨⟨-1,0,0⟩,0⟩,⟨⟨0,-1,0⟩,0⟩,⟨⟨0,0,-1⟩,0⟩,⟨⟨0,0,1⟩,2⟩,⟨⟨0,1,0⟩,2⟩,⟨⟨1,0,0⟩,2⟩],0):=by kernel_rfl
theorem pe0:O8 [⟨0,0,0⟩,⟨0,0,2⟩,⟨0,2,0⟩,⟨0,2,2⟩,⟨3,0,0⟩,⟨3,0,2⟩,⟨3,2,0⟩,⟨3,2,2⟩]=([⟨⟨-1,0,0⟩,0⟩,⟨⟨0,-1,0⟩,0⟩,⟨⟨0,0,-1⟩,0⟩,⟨⟨0,0,1⟩,2⟩,⟨⟨0,1,0⟩,2⟩,⟨⟨1,0,0⟩,3⟩],0):=by kernel_rfl
theorem pe1:O8 [⟨1,0,0⟩,⟨1,0,2⟩,⟨1,2,0⟩,⟨1,2,2⟩,⟨4,0,0⟩,⟨4,0,2⟩,⟨4,2,0⟩,⟨4,2,2⟩]=([⟨⟨-1,0,0⟩,-1⟩,⟨⟨0,-1,0⟩,0⟩,⟨⟨0,0,-1⟩,0⟩,⟨⟨0,0,1⟩,2⟩,⟨⟨0,1,0⟩,2⟩,⟨⟨1,0,0⟩,4⟩],0):=by kernel_rfl
theorem pe2:O8 [⟨2,0,0⟩,⟨2,0,2⟩,⟨2,2,0⟩,⟨2,2,2⟩,⟨5,0,0⟩,⟨5,0,2⟩,⟨5,2,0⟩,⟨5,2,2⟩]=([⟨⟨-1,0,0⟩,-2⟩,⟨⟨0,-1,0⟩,0⟩,⟨⟨0,0,-1⟩,0⟩,⟨⟨0,0,1⟩,2⟩,⟨⟨0,1,0⟩,2⟩,⟨⟨1,0,0⟩,5⟩],0):=by kernel_rfl
theorem pe3:O8 [⟨3,0,0⟩,⟨3,0,2⟩,⟨3,2,0⟩,⟨3,2,2⟩,⟨6,0,0⟩,⟨6,0,2⟩,⟨6,2,0⟩,⟨6,2,2⟩]=([⟨⟨-1,0,0⟩,-3⟩,⟨⟨0,-1,0⟩,0⟩,⟨⟨0,0,-1⟩,0⟩,⟨⟨0,0,1⟩,2⟩,⟨⟨0,1,0⟩,2⟩,⟨⟨1,0,0⟩,6⟩],0):=by kernel_rfl
theorem pe4:O8 [⟨4,0,0⟩,⟨4,0,2⟩,⟨4,2,0⟩,⟨4,2,2⟩,⟨7,0,0⟩,⟨7,0,2⟩,⟨7,2,0⟩,⟨7,2,2⟩]=([⟨⟨-1,0,0⟩,-4⟩,⟨⟨0,-1,0⟩,0⟩,⟨⟨0,0,-1⟩,0⟩,⟨⟨0,0,1⟩,2⟩,⟨⟨0,1,0⟩,2⟩,⟨⟨1,0,0⟩,7⟩],0):=by kernel_rfl
theorem pe5:O8 [⟨5,0,0⟩,⟨5,0,2⟩,⟨5,2,0⟩,⟨5,2,2⟩,⟨8,0,0⟩,⟨8,0,2⟩,⟨8,2,0⟩,⟨8,2,2⟩]=([⟨⟨-1,0,0⟩,-5⟩,⟨⟨0,-1,0⟩,0⟩,⟨⟨0,0,-1⟩,0⟩,⟨⟨0,0,1⟩,2⟩,⟨⟨0,1,0⟩,2⟩,⟨⟨1,0,0⟩,8⟩],0):=by kernel_rfl
theorem pe6:Wa8 [⟨0,0,0⟩,⟨2,0,0⟩,⟨0,2,0⟩,⟨2,2,0⟩,⟨0,0,2⟩,⟨2,0,2⟩,⟨0,2,2⟩,⟨2,2,2⟩]=([⟨0,0,0⟩,⟨0,0,2⟩,⟨0,2,0⟩,⟨0,2,2⟩,⟨2,0,0⟩,⟨2,0,2⟩,⟨2,2,0⟩,⟨2,2,2⟩],0):=by kernel_rfl
theorem pe7:Wa8 [⟨0,0,0⟩,⟨1,0,0⟩,⟨2,0,0⟩,⟨3,0,0⟩,⟨0,2,0⟩,⟨1,2,0⟩,⟨2,2,0⟩,⟨3,2,0⟩,⟨0,0,2⟩,⟨1,0,2⟩,⟨2,0,2⟩,⟨3,0,2⟩,⟨0,2,2⟩,⟨1,2,2⟩,⟨2,2,2⟩,⟨3,2,2⟩]=([⟨0,0,0⟩,⟨0,0,2⟩,⟨0,2,0⟩,⟨0,2,2⟩,⟨3,0,0⟩,⟨3,0,2⟩,⟨3,2,0⟩,⟨3,2,2⟩],0):=by kernel_rfl
theorem pe8:Wa8 [⟨0,0,0⟩,⟨0,0,2⟩,⟨0,2,0⟩,⟨0,2,2⟩,⟨3,0,0⟩,⟨3,0,2⟩,⟨3,2,0⟩,⟨3,2,2⟩]=([⟨0,0,0⟩,⟨0,0,2⟩,⟨0,2,0⟩,⟨0,2,2⟩,⟨3,0,0⟩,⟨3,0,2⟩,⟨3,2,0⟩,⟨3,2,2⟩],0):=by kernel_rfl
theorem pe9:Wa8 [⟨1,0,0⟩,⟨2,0,0⟩,⟨3,0,0⟩,⟨4,0,0⟩,⟨1,2,0⟩,⟨2,2,0⟩,⟨3,2,0⟩,⟨4,2,0⟩,⟨1,0,2⟩,⟨2,0,2⟩,⟨3,0,2⟩,⟨4,0,2⟩,⟨1,2,2⟩,⟨2,2,2⟩,⟨3,2,2⟩,⟨4,2,2⟩]=([⟨1,0,0⟩,⟨1,0,2⟩,⟨1,2,0⟩,⟨1,2,2⟩,⟨4,0,0⟩,⟨4,0,2⟩,⟨4,2,0⟩,⟨4,2,2⟩],0):=by kernel_rfl
theorem qe0:Wa8 [⟨1,0,0⟩,⟨1,0,2⟩,⟨1,2,0⟩,⟨1,2,2⟩,⟨4,0,0⟩,⟨4,0,2⟩,⟨4,2,0⟩,⟨4,2,2⟩]=([⟨1,0,0⟩,⟨1,0,2⟩,⟨1,2,0⟩,⟨1,2,2⟩,⟨4,0,0⟩,⟨4,0,2⟩,⟨4,2,0⟩,⟨4,2,2⟩],0):=by kernel_rfl
theorem qe1:Wa8 [⟨2,0,0⟩,⟨3,0,0⟩,⟨4,0,0⟩,⟨5,0,0⟩,⟨2,2,0⟩,⟨3,2,0⟩,⟨4,2,0⟩,⟨5,2,0⟩,⟨2,0,2⟩,⟨3,0,2⟩,⟨4,0,2⟩,⟨5,0,2⟩,⟨2,2,2⟩,⟨3,2,2⟩,⟨4,2,2⟩,⟨5,2,2⟩]=([⟨2,0,0⟩,⟨2,0,2⟩,⟨2,2,0⟩,⟨2,2,2⟩,⟨5,0,0⟩,⟨5,0,2⟩,⟨5,2,0⟩,⟨5,2,2⟩],0):=by kernel_rfl
theorem qe2:Wa8 [⟨2,0,0⟩,⟨2,0,2⟩,⟨2,2,0⟩,⟨2,2,2⟩,⟨5,0,0⟩,⟨5,0,2⟩,⟨5,2,0⟩,⟨5,2,2⟩]=([⟨2,0,0⟩,⟨2,0,2⟩,⟨2,2,0⟩,⟨2,2,2⟩,⟨5,0,0⟩,⟨5,0,2⟩,⟨5,2,0⟩,⟨5,2,2⟩],0):=by kernel_rfl
theorem qe3:Wa8 [⟨3,0,0⟩,⟨4,0,0⟩,⟨5,0,0⟩,⟨6,0,0⟩,⟨3,2,0⟩,⟨4,2,0⟩,⟨5,2,0⟩,⟨6,2,0⟩,⟨3,0,2⟩,⟨4,0,2⟩,⟨5,0,2⟩,⟨6,0,2⟩,⟨3,2,2⟩,⟨4,2,2⟩,⟨5,2,2⟩,⟨6,2,2⟩]=([⟨3,0,0⟩,⟨3,0,2⟩,⟨3,2,0⟩,⟨3,2,2⟩,⟨6,0,0⟩,⟨6,0,2⟩,⟨6,2,0⟩,⟨6,2,2⟩],0):=by kernel_rfl
theorem qe4:Wa8 [⟨3,0,0⟩,⟨3,0,2⟩,⟨3,2,0⟩,⟨3,2,2⟩,⟨6,0,0⟩,⟨6,0,2⟩,⟨6,2,0⟩,⟨6,2,2⟩]=([⟨3,0,0⟩,⟨3,0,2⟩,⟨3,2,0⟩,⟨3,2,2⟩,⟨6,0,0⟩,⟨6,0,2⟩,⟨6,2,0⟩,⟨6,2,2⟩],0):=by kernel_rfl
theorem qe5:Wa8 [⟨4,0,0⟩,⟨5,0,0⟩,⟨6,0,0⟩,⟨7,0,0⟩,⟨4,2,0⟩,⟨5,2,0⟩,⟨6,2,0⟩,⟨7,2,0⟩,⟨4,0,2⟩,⟨5,0,2⟩,⟨6,0,2⟩,⟨7,0,2⟩,⟨4,2,2⟩,⟨5,2,2⟩,⟨6,2,2⟩,⟨7,2,2⟩]=([⟨4,0,0⟩,⟨4,0,2⟩,⟨4,2,0⟩,⟨4,2,2⟩,⟨7,0,0⟩,⟨7,0,2⟩,⟨7,2,0⟩,⟨7,2,2⟩],0):=by kernel_rfl
theorem ce7:Wa8 [⟨4,0,0⟩,⟨4,0,2⟩,⟨4,2,0⟩,⟨4,2,2⟩,⟨7,0,0⟩,⟨7,0,2⟩,⟨7,2,0⟩,⟨7,2,2⟩]=([⟨4,0,0⟩,⟨4,0,2⟩,⟨4,2,0⟩,⟨4,2,2⟩,⟨7,0,0⟩,⟨7,0,2⟩,⟨7,2,0⟩,⟨7,2,2⟩],0):=by kernel_rfl
theorem ce8:Wa8 [⟨5,0,0⟩,⟨6,0,0⟩,⟨7,0,0⟩,⟨8,0,0⟩,⟨5,2,0⟩,⟨6,2,0⟩,⟨7,2,0⟩,⟨8,2,0⟩,⟨5,0,2⟩,⟨6,0,2⟩,⟨7,0,2⟩,⟨8,0,2⟩,⟨5,2,2⟩,⟨6,2,2⟩,⟨7,2,2⟩,⟨8,2,2⟩]=([⟨5,0,0⟩,⟨5,0,2⟩,⟨5,2,0⟩,⟨5,2,2⟩,⟨8,0,0⟩,⟨8,0,2⟩,⟨8,2,0⟩,⟨8,2,2⟩],0):=by kernel_rfl
theorem ce9:Wa8 [⟨5,0,0⟩,⟨5,0,2⟩,⟨5,2,0⟩,⟨5,2,2⟩,⟨8,0,0⟩,⟨8,0,2⟩,⟨8,2,0⟩,⟨8,2,2⟩]=([⟨5,0,0⟩,⟨5,0,2⟩,⟨5,2,0⟩,⟨5,2,2⟩,⟨8,0,0⟩,⟨8,0,2⟩,⟨8,2,0⟩,⟨8,2,2⟩],0):=by kernel_rfl
def de0:List (List V3×PLq):=[([⟨0,0,0⟩,⟨2,0,0⟩,⟨0,2,0⟩,⟨2,2,0⟩,⟨0,0,2⟩,⟨2,0,2⟩,⟨0,2,2⟩,⟨2,2,2⟩],[⟨⟨-1,0,0⟩,0⟩,⟨⟨0,-1,0⟩,0⟩,⟨⟨0,0,-1⟩,0⟩,⟨⟨0,0,1⟩,2⟩,⟨⟨0,1,0⟩,2⟩,⟨⟨1,0,0⟩,2⟩]),([⟨0,0,0⟩,⟨0,0,2⟩,⟨0,2,0⟩,⟨0,2,2⟩,⟨2,0,0⟩,⟨2,0,2⟩,⟨2,2,0⟩,⟨2,2,2⟩],[⟨⟨-1,0,0⟩,0⟩,⟨⟨0,-1,0⟩,0⟩,⟨⟨0,0,-1⟩,0⟩,⟨⟨0,0,1⟩,2⟩,⟨⟨0,1,0⟩,2⟩,⟨⟨1,0,0⟩,2⟩]),([⟨0,0,0⟩,⟨0,0,2⟩,⟨0,2,0⟩,⟨0,2,2⟩,⟨3,0,0⟩,⟨3,0,2⟩,⟨3,2,0⟩,⟨3,2,2⟩],[⟨⟨-1,0,0⟩,0⟩,⟨⟨0,-1,0⟩,0⟩,⟨⟨0,0,-1⟩,0⟩,⟨⟨0,0,1⟩,2⟩,⟨⟨0,1,0⟩,2⟩,⟨⟨1,0,0⟩,3⟩]),([⟨1,0,0⟩,⟨1,0,2⟩,⟨1,2,0⟩,⟨1,2,2⟩,⟨4,0,0⟩,⟨4,0,2⟩,⟨4,2,0⟩,⟨4,2,2⟩],[⟨⟨-1,0,0⟩,-1⟩,⟨⟨0,-1,0⟩,0⟩,⟨⟨0,0,-1⟩,0⟩,⟨⟨0,0,1⟩,2⟩,⟨⟨0,1,0⟩,2⟩,⟨⟨1,0,0⟩,4⟩]),([⟨2,0,0⟩,⟨2,0,2⟩,⟨2,2,0⟩,⟨2,2,2⟩,⟨5,0,0⟩,⟨5,0,2⟩,⟨5,2,0⟩,⟨5,2,2⟩],[⟨⟨-1,0,0⟩,-2⟩,⟨⟨0,-1,0⟩,0⟩,⟨⟨0,0,-1⟩,0⟩,⟨⟨0,0,1⟩,2⟩,⟨⟨0,1,0⟩,2⟩,⟨⟨1,0,0⟩,5⟩]),([⟨3,0,0⟩,⟨3,0,2⟩,⟨3,2,0⟩,⟨3,2,2⟩,⟨6,0,0⟩,⟨6,0,2⟩,⟨6,2,0⟩,⟨6,2,2⟩],[⟨⟨-1,0,0⟩,-3⟩,⟨⟨0,-1,0⟩,0⟩,⟨⟨0,0,-1⟩,0⟩,⟨⟨0,0,1⟩,2⟩,⟨⟨0,1,0⟩,2⟩,⟨⟨1,0,0⟩,6⟩]),([⟨4,0,0⟩,⟨4,0,2⟩,⟨4,2,0⟩,⟨4,2,2⟩,⟨7,0,0⟩,⟨7,0,2⟩,⟨7,2,0⟩,⟨7,2,2⟩],[⟨⟨-1,0,0⟩,-4⟩,⟨⟨0,-1,0⟩,0⟩,⟨⟨0,0,-1⟩,0⟩,⟨⟨0,0,1⟩,2⟩,⟨⟨0,1,0⟩,2⟩,⟨⟨1,0,0⟩,7⟩]),([⟨5,0,0⟩,⟨5,0,2⟩,⟨5,2,0⟩,⟨5,2,2⟩,⟨8,0,0⟩,⟨8,0,2⟩,⟨8,2,0⟩,⟨8,2,2⟩],[⟨⟨-1,0,0⟩,-5⟩,⟨⟨0,-1,0⟩,0⟩,⟨⟨0,0,-1⟩,0⟩,⟨⟨0,0,1⟩,2⟩,⟨⟨0,1,0⟩,2⟩,⟨⟨1,0,0⟩,8⟩])]
theorem sd6:V2 (λx=>O8 x.1=(x.2,0)) de0:=.cons oe8 <| .cons oe9 <| .cons pe0 <| .cons pe1 <| .cons pe2 <| .cons pe3 <| .cons pe4 <| .cons pe5 <| .nil
def de1:List (List V3×List V3):=[([⟨0,0,0⟩,⟨2,0,0⟩,⟨0,2,0⟩,⟨2,2,0⟩,⟨0,0,2⟩,⟨2,0,2⟩,⟨0,2,2⟩,⟨2,2,2⟩],[⟨0,0,0⟩,⟨0,0,2⟩,⟨0,2,0⟩,⟨0,2,2⟩,⟨2,0,0⟩,⟨2,0,2⟩,⟨2,2,0⟩,⟨2,2,2⟩]),([⟨0,0,0⟩,⟨1,0,0⟩,⟨2,0,0⟩,⟨3,0,0⟩,⟨0,2,0⟩,⟨1,2,0⟩,⟨2,2,0⟩,⟨3,2,0⟩,⟨0,0,2⟩,⟨1,0,2⟩,⟨2,0,2⟩,⟨3,0,2⟩,⟨0,2,2⟩,⟨1,2,2⟩,⟨2,2,2⟩,⟨3,2,2⟩],[⟨0,0,0⟩,⟨0,0,2⟩,⟨0,2,0⟩,⟨0,2,2⟩,⟨3,0,0⟩,⟨3,0,2⟩,⟨3,2,0⟩,⟨3,2,2⟩]),([⟨0,0,0⟩,⟨0,0,2⟩,⟨0,2,0⟩,⟨0,2,2⟩,⟨3,0,0⟩,⟨3,0,2⟩,⟨3,2,0⟩,⟨3,2,2⟩],[⟨0,0,0⟩,⟨0,0,2⟩,⟨0,2,0⟩,⟨0,2,2⟩,⟨3,0,0⟩,⟨3,0,2⟩,⟨3,2,0⟩,⟨3,2,2⟩]),([⟨1,0,0⟩,⟨2,0,0⟩,⟨3,0,0⟩,⟨4,0,0⟩,⟨1,2,0⟩,⟨2,2,0⟩,⟨3,2,0⟩,⟨4,2,0⟩,⟨1,0,2⟩,⟨2,0,2⟩,⟨3,0,2⟩,⟨4,0,2⟩,⟨1,2,2⟩,⟨2,2,2⟩,⟨3,2,2⟩,⟨4,2,2⟩],[⟨1,0,0⟩,⟨1,0,2⟩,⟨1,2,0⟩,⟨1,2,2⟩,⟨4,0,0⟩,⟨4,0,2⟩,⟨4,2,0⟩,⟨4,2,2⟩]),([⟨1,0,0⟩,⟨1,0,2⟩,⟨1,2,0⟩,⟨1,2,2⟩,⟨4,0,0⟩,⟨4,0,2⟩,⟨4,2,0⟩,⟨4,2,2⟩],[⟨1,0,0⟩,⟨1,0,2⟩,⟨1,2,0⟩,⟨1,2,2⟩,⟨4,0,0⟩,⟨4,0,2⟩,⟨4,2,0⟩,⟨4,2,2⟩]),([⟨2,0,0⟩,⟨3,0,0⟩,⟨4,0,0⟩,⟨5,0,0⟩,⟨2,2,0⟩,⟨3,2,0⟩,⟨4,2,0⟩,⟨5,2,0⟩,⟨2,0,2⟩,⟨3,0,2⟩,⟨4,0,2⟩,⟨5,0,2⟩,⟨2,2,2⟩,⟨3,2,2⟩,⟨4,2,2⟩,⟨5,2,2⟩],[⟨2,0,0⟩,⟨2,0,2⟩,⟨2,2,0⟩,⟨2,2,2⟩,⟨5,0,0⟩,⟨5,0,2⟩,⟨5,2,0⟩,⟨5,2,2⟩]),([⟨2,0,0⟩,⟨2,0,2⟩,⟨2,2,0⟩,⟨2,2,2⟩,⟨5,0,0⟩,⟨5,0,2⟩,⟨5,2,0⟩,⟨5,2,2⟩],[⟨2,0,0⟩,⟨2,0,2⟩,⟨2,2,0⟩,⟨2,2,2⟩,⟨5,0,0⟩,⟨5,0,2⟩,⟨5,2,0⟩,⟨5,2,2⟩]),([⟨3,0,0⟩,⟨4,0,0⟩,⟨5,0,0⟩,⟨6,0,0⟩,⟨3,2,0⟩,⟨4,2,0⟩,⟨5,2,0⟩,⟨6,2,0⟩,⟨3,0,2⟩,⟨4,0,2⟩,⟨5,0,2⟩,⟨6,0,2⟩,⟨3,2,2⟩,⟨4,2,2⟩,⟨5,2,2⟩,⟨6,2,2⟩],[⟨3,0,0⟩,⟨3,0,2⟩,⟨3,2,0⟩,⟨3,2,2⟩,⟨6,0,0⟩,⟨6,0,2⟩,⟨6,2,0⟩,⟨6,2,2⟩]),([⟨3,0,0⟩,⟨3,0,2⟩,⟨3,2,0⟩,⟨3,2,2⟩,⟨6,0,0⟩,⟨6,0,2⟩,⟨6,2,0⟩,⟨6,2,2⟩],[⟨3,0,0⟩,⟨3,0,2⟩,⟨3,2,0⟩,⟨3,2,2⟩,⟨6,0,0⟩,⟨6,0,2⟩,⟨6,2,0⟩,⟨6,2,2⟩]),([⟨4,0,0⟩,⟨5,0,0⟩,⟨6,0,0⟩,⟨7,0,0⟩,⟨4,2,0⟩,⟨5,2,0⟩,⟨6,2,0⟩,⟨7,2,0⟩,⟨4,0,2⟩,⟨5,0,2⟩,⟨6,0,2⟩,⟨7,0,2⟩,⟨4,2,2⟩,⟨5,2,2⟩,⟨6,2,2⟩,⟨7,2,2⟩],[⟨4,0,0⟩,⟨4,0,2⟩,⟨4,2,0⟩,⟨4,2,2⟩,⟨7,0,0⟩,⟨7,0,2⟩,⟨7,2,0⟩,⟨7,2,2⟩]),([⟨4,0,0⟩,⟨4,0,2⟩,⟨4,2,0⟩,⟨4,2,2⟩,⟨7,0,0⟩,⟨7,0,2⟩,⟨7,2,0⟩,⟨7,2,2⟩],[⟨4,0,0⟩,⟨4,0,2⟩,⟨4,2,0⟩,⟨4,2,2⟩,⟨7,0,0⟩,⟨7,0,2⟩,⟨7,2,0⟩,⟨7,2,2⟩]),([⟨5,0,0⟩,⟨6,0,0⟩,⟨7,0,0⟩,⟨8,0,0⟩,⟨5,2,0⟩,⟨6,2,0⟩,⟨7,2,0⟩,⟨8,2,0⟩,⟨5,0,2⟩,⟨6,0,2⟩,⟨7,0,2⟩,⟨8,0,2⟩,⟨5,2,2⟩,⟨6,2,2⟩,⟨7,2,2⟩,⟨8,2,2⟩],[⟨5,0,0⟩,⟨5,0,2⟩,⟨5,2,0⟩,⟨5,2,2⟩,⟨8,0,0⟩,⟨8,0,2⟩,⟨8,2,0⟩,⟨8,2,2⟩]),([⟨5,0,0⟩,⟨5,0,2⟩,⟨5,2,0⟩,⟨5,2,2⟩,⟨8,0,0⟩,⟨8,0,2⟩,⟨8,2,0⟩,⟨8,2,2⟩],[⟨5,0,0⟩,⟨5,0,2⟩,⟨5,2,0⟩,⟨5,2,2⟩,⟨8,0,0⟩,⟨8,0,2⟩,⟨8,2,0⟩,⟨8,2,2⟩])]
theorem sd7:V2 (λx=>Wa8 x.1=(x.2,0)) de1:=.cons pe6 <| .cons pe7 <| .cons pe8 <| .cons pe9 <| .cons qe0 <| .cons qe1 <| .cons qe2 <| .cons qe3 <| .cons qe4 <| .cons qe5 <| .cons ce7 <| .cons ce8 <| .cons ce9 <| .nil
def dd4:Sum:=G7 (da6 tV) λl=>fZ fV l λl=>onT l (λa=>.ret ((two (r1L tP) r1I).enc (a,0),[])) de0
theorem dd5:c8 prog G 70 dd4:=pb8 Wa7 Wa7 λl r h=>by
 rw[Yb1 Yb0] at h;obtain⟨x,hx,h⟩:=pb9 sd6 h;left;have hg:eb0 l=true:=decide_eq_true (by
  have:qa8 l=0:=by
   unfold O8 at hx
   split at hx
   ·assumption
   ·have:=congrArg Prod.snd hx
    exact this
  have:=(Za8 this).1
  omega)
 rw[hg];show some ((two (r1L tP) r1I).enc (O8 l),([]:List a8))=some r;rw[hx];exact h
def dd6:Sum:=G7 (da6 tV) λl=>fZ fV l λl=>onT l (λa=>.ret ((two (r1L tV) r1I).enc (a,0),[])) de1
theorem dd7:c8 prog G 69 dd6:=pb8 Ka7 Ka7 λl r h=>by
 rw[Yb1 Yb0] at h;obtain⟨x,hx,h⟩:=pb9 sd7 h;left;have hg:Qa0 l=true:=decide_eq_true (by
  have:qa8 l=0:=by
   unfold Wa8 at hx
   split at hx
   ·assumption
   ·have:=congrArg Prod.snd hx
    exact this
  have:=(Za8 this).1
  omega)
 rw[hg];show some ((two (r1L tV) r1I).enc (Rb3 l),([]:List a8))=some r;rw[sd5,hx];exact h
def dd8:Sum:=i7 (En []) Ud0
theorem gc3:c8 prog G 20 dd8:=bd b20 trivial
def de2:Sum:=i7 (En [(93,Ba0)]) Vd9
theorem Md0:c8 prog G 61 de2:=bd b61 ⟨Db6,trivial⟩
def de3:Sum:=i7 (En []) Xd8
theorem Md1:c8 prog G 94 de3:=bd b94 trivial
def Bd3:Sum:=i7 (En [(104,Fc8)]) xd8
theorem sd8:c8 prog G 103 Bd3:=bd je7 ⟨dd3,trivial⟩
def Bd4:Sum:=i7 (En [(94,de3),(103,Bd3)]) yd6
theorem sd9:c8 prog G 130 Bd4:=bd ke8 ⟨Md1,sd8,trivial⟩
def Md2:Sum:=i7 (En [(130,Bd4)]) Xd9
theorem dd9:c8 prog G 95 Md2:=bd b95 ⟨sd9,trivial⟩
def td0:Sum:=i7 (En []) Yd0
theorem zc5:c8 prog G 96 td0:=bd b96 trivial
def de4:Sum:=i7 (En [(95,Md2),(96,td0)]) Wd0
theorem Md3:c8 prog G 62 de4:=bd b62 ⟨dd9,zc5,trivial⟩
def Md4:Sum:=i7 (En []) Yd2
theorem ed0:c8 prog G 98 Md4:=bd b98 trivial
def Md5:Sum:=i7 (En [(98,Md4)]) Yd1
theorem ed1:c8 prog G 97 Md5:=bd b97 ⟨ed0,trivial⟩
def Md6:Sum:=i7 (En [(98,Md4)]) Yd3
theorem ed2:c8 prog G 99 Md6:=bd b99 ⟨ed0,trivial⟩
def ed3:Sum:=i7 (En []) xd5
theorem Fc9:c8 prog G 100 ed3:=bd je5 trivial
def Md7:Sum:=i7 (En []) Hd9
theorem ed4:c8 prog G 91 Md7:=bd b91 trivial
def td1:Sum:=i7 (En [(91,Md7)]) Wd6
theorem zc6:c8 prog G 68 td1:=bd b68 ⟨ed4,trivial⟩
def Pc0:Sum:=i7 (En []) Wd8
theorem Pb5:c8 prog G 72 Pc0:=bd b72 trivial
def de5:Sum:=i7 (En []) Xd7
theorem Md8:c8 prog G 92 de5:=bd b92 trivial
def ed5:Sum:=i7 (En [(92,de5)]) Dc8
theorem Gc0:c8 prog G 122 ed5:=bd ae0 ⟨Md8,trivial⟩
def de6:Sum:=i7 (En [(91,Md7),(122,ed5)]) Xd6
theorem Md9:c8 prog G 90 de6:=bd b90 ⟨ed4,Gc0,trivial⟩
def Bd5:Sum:=i7 (En []) yd4
theorem td2:c8 prog G 115 Bd5:=bd Zd9 trivial
def Nd0:Sum:=i7 (En [(68,td1),(72,Pc0),(90,de6),(115,Bd5)]) Xd0
theorem ed6:c8 prog G 74 Nd0:=bd b74 ⟨zc6,Pb5,Md9,td2,trivial⟩
def Bd6:Sum:=i7 (En [(74,Nd0)]) yd9
theorem td3:c8 prog G 136 Bd6:=bd le2 ⟨ed6,trivial⟩
def Bd7:Sum:=i7 (En [(136,Bd6)]) Xc9
theorem td4:c8 prog G 156 Bd7:=bd ae2 ⟨td3,trivial⟩
def Bd8:Sum:=i7 (En [(156,Bd7)]) yd8
theorem td5:c8 prog G 135 Bd8:=bd ae1 ⟨td4,trivial⟩
def Bd9:Sum:=i7 (En [(68,td1),(70,dd4),(135,Bd8)]) yd0
theorem td6:c8 prog G 106 Bd9:=bd ke0 ⟨zc6,dd5,td5,trivial⟩
def Cd0:Sum:=i7 (En [(106,Bd9)]) xd9
theorem td7:c8 prog G 105 Cd0:=bd je9 ⟨td6,trivial⟩
def Cd1:Sum:=i7 (En [(97,Md5),(99,Md6),(100,ed3),(105,Cd0)]) Wb3
theorem td8:c8 prog G 131 Cd1:=bd Yc0 ⟨ed1,ed2,Fc9,td7,trivial⟩
def ed7:Sum:=i7 (En [(131,Cd1)]) xd6
theorem Gc1:c8 prog G 101 ed7:=bd nd9 ⟨td8,trivial⟩
def Cd2:Sum:=i7 (En [(97,Md5),(99,Md6),(100,ed3)]) yd7
theorem td9:c8 prog G 132 Cd2:=bd ke9 ⟨ed1,ed2,Fc9,trivial⟩
def Cd3:Sum:=i7 (En [(132,Cd2)]) xd7
theorem ud0:c8 prog G 102 Cd3:=bd je6 ⟨td9,trivial⟩
def de7:Sum:=i7 (En [(96,td0),(101,ed7),(102,Cd3)]) Wd1
theorem Nd1:c8 prog G 63 de7:=bd b63 ⟨zc5,Gc1,ud0,trivial⟩
def de8:Sum:=i7 (En [(95,Md2),(96,td0)]) Wd2
theorem Nd2:c8 prog G 64 de8:=bd b64 ⟨dd9,zc5,trivial⟩
def de9:Sum:=i7 (En []) Wd3
theorem Nd3:c8 prog G 65 de9:=bd b65 trivial
def ee0:Sum:=i7 (En [(101,ed7)]) Wd4
theorem Nd4:c8 prog G 66 ee0:=bd b66 ⟨Gc1,trivial⟩
def ee1:Sum:=i7 (En [(61,de2),(62,de4),(63,de7),(64,de8),(65,de9),(66,ee0)]) Ud3
theorem Nd5:c8 prog G 33 ee1:=bd b33 ⟨Md0,Md3,Nd1,Nd2,Nd3,Nd4,trivial⟩
def Nd6:Sum:=i7 (En []) Wd9
theorem ed8:c8 prog G 73 Nd6:=bd b73 trivial
def ee2:Sum:=i7 (En [(72,Pc0),(73,Nd6)]) Wd7
theorem Nd7:c8 prog G 71 ee2:=bd b71 ⟨Pb5,ed8,trivial⟩
def ed9:Sum:=i7 (En []) Vd0
theorem gc4:c8 prog G 40 ed9:=bd b40 trivial
def ee3:Sum:=i7 (En [(40,ed9),(72,Pc0),(73,Nd6)]) Xd2
theorem Nd8:c8 prog G 76 ee3:=bd b76 ⟨gc4,Pb5,ed8,trivial⟩
def ee4:Sum:=i7 (En [(71,ee2),(76,ee3)]) Xd1
theorem Nd9:c8 prog G 75 ee4:=bd b75 ⟨Nd7,Nd8,trivial⟩
def gc5:Sum:=ha7 (En [(69,dd6),(70,dd4),(74,Nd0),(75,ee4)]) Ud5
theorem Od0:c8 prog G 35 gc5:=bd b35 ⟨dd7,dd5,ed6,Nd9,trivial⟩
def ee5:Sum:=ha7 (En [(20,dd8)]) Xd5
theorem Od1:c8 prog G 79 ee5:=bd b79 ⟨gc3,trivial⟩
def Od2:Sum:=i7 (En [(69,dd6),(79,ee5)]) Vd6
theorem Od3:c8 prog G 46 Od2:=bd b46 ⟨dd7,Od1,trivial⟩
end Go.Ev.Ce
namespace Go.Ev.L
open Go Go.Ev
def ee6:Value->ByteArray
 |.string s=>s
 |_=>⟨#[]⟩
def Wa9(H H':List a8):Prop:=∀id g,(blkAt H id g).map (λb=>(b.es,b.elems))=(blkAt H' id g).map (λb=>(b.es,b.elems))
theorem Wa9.refl(H:List a8):Wa9 H H:=λ_ _=>rfl
theorem Wa9.disown(H:List a8)(id:Nat):Wa9 (disown H id) H:=λj g=>by
 rw[kb5];cases blkAt H j g with
 |none=>rfl
 |some b =>
  grind
theorem Wa9.trans{H1 H2 H3:List a8}(h:Wa9 H1 H2)(k:Wa9 H2 H3):Wa9 H1 H3:=λid g=>(h id g).trans (k id g)
theorem Wa9.symm{H1 H2:List a8}(h:Wa9 H1 H2):Wa9 H2 H1:=λid g=>(h id g).symm
theorem Dis.app{H H1 H2:List a8}(h:Dis H H1)(k:Dis H1 H2):Dis H H2:=by
 induction k with
 |refl=>exact h
 |step id _ ih=>exact .step id ih
section
variable{α:Type}(t:Ty α)
def fd0(es:Nat):a7->Bool
 |.tree e _ _=>Nat.beq e es
 |.v (.slice none 0 0)=>true
 |_=>false
def qe6(sh:List a7->Bool):Cod α where
 enc x:=.agg (t.row x)
 dec x:=match x with
  |.agg cs=>Bool.rec (motive:=λ_=>Option α) none (some (t.rd cs)) (sh cs)
  |_=>none
 grd x:=match x with
  |.agg cs=>t.ok cs
  |_=>false
 ok x a hx hg:=by
  split at hx
  ·rename_i cs;cases hb:sh cs with
   |false=>rw[hb] at hx;cases hx
   |true =>
    rw[hb] at hx;have hx:some (t.rd cs)=some a:=hx;injection hx with hx;subst hx;have h3:=t.h3 cs hg;intro ρ H F w v hv;obtain⟨vs,rfl,hl,hr⟩:=U1 hv;refine .val (.agg _ _ (by rw[<- h3.length];exact hl) λi y v' hy hv'=>?_)
    obtain⟨x,hx,hle⟩:=h3.get i y hy;exact hle.c _ _ _ _ _ (hr i x v' hx hv')
  ·cases hx
end
end Go.Ev.L
namespace Go.Ev.Ce
open Go Go.Ev Go.Ev.L Go.Proofs
theorem hd1{x y:a7}(h:Ta3 [x] [y]):CLe x y:=by cases h with | cons h _=>exact h
structure Tol where
 nm:ByteArray
 ou:List V3
 inn:List (List V3)
 ho:List V3
 li:List Int
 ru:Int
 fo:List V3
def Cd4:List a7->Bool
 |[.v (.string _),x1,x2,x3,x4,.v (.int .i64 _),x6]=>Bool.and ((tLs tV).ok [x1]) (Bool.and ((tLs (tLs tV)).ok [x2]) (Bool.and ((tLs tV).ok [x3]) (Bool.and ((tLs tI).ok [x4]) (Bool.and ((tLs tV).ok [x6]) (true)))))
 |_=>false
def tT:Ty Tol where
 es:=7
 row x:=[.v (.string x.nm),eL tV x.ou,eL (tLs tV) x.inn,eL tV x.ho,eL tI x.li,i x.ru,eL tV x.fo]
 rd r:=⟨ee6 (toV (hdA r)),rL tV (hdA (tlA r)),rL (tLs tV) (hdA (tlA (tlA r))),rL tV (hdA (tlA (tlA (tlA r)))),rL tI (hdA (tlA (tlA (tlA (tlA r))))),toI (hdA (tlA (tlA (tlA (tlA (tlA r)))))),rL tV (hdA (tlA (tlA (tlA (tlA (tlA (tlA r)))))))⟩
 ok:=Cd4
 cks:=[.any,.sl 3,.sl 1,.sl 3,.sl 1,.int .i64,.sl 3]
 d:=⟨⟨#[]⟩,[],[],[],[],0,[]⟩
 h0 _:=rfl
 h1 x:=by
  show Tol.mk x.nm (rL tV (eL tV x.ou)) (rL (tLs tV) (eL (tLs tV) x.inn)) (rL tV (eL tV x.ho)) (rL tI (eL tI x.li)) x.ru (rL tV (eL tV x.fo))=x;rw[show rL tV (eL tV x.ou)=x.ou from r7 tV x.ou,show rL (tLs tV) (eL (tLs tV) x.inn)=x.inn from r7 (tLs tV) x.inn,show rL tV (eL tV x.ho)=x.ho from r7 tV x.ho,show rL tI (eL tI x.li)=x.li from r7 tI x.li,show rL tV (eL tV x.fo)=x.fo from r7 tV x.fo]
 h2 x:=by
  show Bool.and ((tLs tV).ok ((tLs tV).row x.ou)) (Bool.and ((tLs (tLs tV)).ok ((tLs (tLs tV)).row x.inn)) (Bool.and ((tLs tV).ok ((tLs tV).row x.ho)) (Bool.and ((tLs tI).ok ((tLs tI).row x.li)) (Bool.and ((tLs tV).ok ((tLs tV).row x.fo)) (true)))))=true;rw[(tLs tV).h2 x.ou,(tLs (tLs tV)).h2 x.inn,(tLs tV).h2 x.ho,(tLs tI).h2 x.li,(tLs tV).h2 x.fo];rfl
 h3 r h:=by
  unfold Cd4 at h
  split at h
  ·rename_i _ x1 x2 x3 x4 _ x6;simp only[Qbd] at h;obtain⟨h1,h2,h3,h4,h6,_⟩:=h;have c1:=(tLs tV).h3 _ h1;have c2:=(tLs (tLs tV)).h3 _ h2;have c3:=(tLs tV).h3 _ h3;have c4:=(tLs tI).h3 _ h4;have c6:=(tLs tV).h3 _ h6;exact .cons (.refl _) (.cons (hd1 c1) (.cons (hd1 c2) (.cons (hd1 c3) (.cons (hd1 c4) (.cons (.refl _) (.cons (hd1 c6) (.nil)))))))
  ·cases h
 h4 _:=rfl
 h5 _:=rfl
def ee7:List a7->Bool
 |[.v (.string _),x1,x2,x3,x4,.v (.int .i64 _),x6]=>Bool.and (fd0 3 x1) (Bool.and (fd0 1 x2) (Bool.and (fd0 3 x3) (Bool.and (fd0 1 x4) (Bool.and (fd0 3 x6) (true)))))
 |_=>false
def cT:Cod Tol:=qe6 tT ee7
set_option maxRecDepth 1000000
def cuL:List V3:=[⟨0,0,0⟩,⟨2,0,0⟩,⟨0,2,0⟩,⟨2,2,0⟩,⟨0,0,2⟩,⟨2,0,2⟩,⟨0,2,2⟩,⟨2,2,2⟩]
def frc{ρ:Type}(R:RR ρ)(F:ρ->(ρ->DT (a7×List a8))->DT (a7×List a8))(o:ROq):DT (a7×List a8) :=
 Option.rec (motive:=λ_=>DT (a7×List a8)) .fail (λr=>Option.rec (motive:=λ_=>DT (a7×List a8)) .fail (λq=>F q λq=>.ret (R.enc q,[])) (R.rd r)) o
theorem ud1{ρ:Type}{R:RR ρ}{F:ρ->(ρ->DT (a7×List a8))->DT (a7×List a8)}(hF:∀x f,F x f=f x){o:ROq}{r:a7×List a8}(h:(frc R F o).run=some r):(rdO R o).run=some r:=by
 cases o with
 |none=>cases h
 |some a =>
  unfold frc at h;unfold rdO okO T9;cases hr:R.rd a with
  |none=>simp only[hr] at h;cases h
  |some q=>simp only[hr,hF] at h ⊢;exact h
def ud2(q:List V3×Int)(f:List V3×Int->DT (a7×List a8)):DT (a7×List a8):=fZ fV q.1 λa=>fI q.2 λb=>f (a,b)
theorem ud3(q:List V3×Int)(f:List V3×Int->DT (a7×List a8)):ud2 q f=f q:=by unfold ud2;rw[Yb1 Yb0,Bd2]
def zc7(p:List V3):ROq:=(frc (two (r1L tV) r1I) ud2 (Od2 [(da6 tV).enc cuL,(da6 tV).enc p] []).run).run
end Go.Ev.Ce
