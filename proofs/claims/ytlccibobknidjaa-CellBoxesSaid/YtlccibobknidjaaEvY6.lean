/- Own work: a part of the proof. -/
import Derived.Test.YtlccibobknidjaaEvSp3
import Derived.ChangeStays
import Derived.ChangeSame
import Derived.OpenShut
import Derived.RowKit
import Derived.Test.YtlccibobknidjaaEvIE3
import Derived.Test.YtlccibobknidjaaEvIHD
set_option linter.unusedVariables false
set_option linter.unusedSimpArgs false
set_option linter.unnecessarySimpa false
set_option linter.unusedSectionVars false
namespace Go.Ev
open Go Go.ChangeShapes Go.RowKit
structure Ob4 (w w':World):Prop where
 os:w'.os=w.os
 output:w'.output=w.output
 size:w.heap.size≤w'.heap.size
 block:∀ k,k < w.heap.size→w'.heap[k]?=w.heap[k]?
theorem Ob4.kept {w w':World} (h:Ob4 w w') (may:MemPlace→Prop):w.keptBut w' may:=by
 refine⟨h.os,h.output,fun i hi=>?_⟩
 rw[h.block i hi]
 cases w.heap[i]? with
 | none=>rfl
 | some o=>cases o<;>first | exact⟨rfl,rfl,rfl,fun _ _=>rfl⟩ | exact .inr ⟨rfl,rfl⟩ | rfl
theorem Ob4.frozen {w w':World} (h:Ob4 w w') (b off:Nat) (hb:b < w.heap.size):w'.frozen? ⟨b,off,none⟩=w.frozen? ⟨b,off,none⟩:=by
 simp only[World.frozen?,h.block b hb]
theorem Ob4.cell {w w':World} (h:Ob4 w w') (b off:Nat) (hb:b < w.heap.size):w'.cell? ⟨b,off,none⟩=w.cell? ⟨b,off,none⟩:=by
 simp only[World.cell?,h.block b hb]
theorem Ob4.same {w w':World} (h:Ob4 w w') (p:MemPlace) (hp:p.block < w.heap.size):w.sameAt w' p:=by
 cases p with
 | cell b off=>exact h.cell b off hp
 | map b=>exact h.block b hp
theorem Ob5 {α β:Type} {f:α→Option β}:∀ {l:List α} {r:List β},l.mapM f=some r→r.length=l.length∧∀ (j:Nat) y,r[j]?=some y→∃ x,l[j]?=some x∧f x=some y
 | [],r,h=>by
  have:r=[]:=by simpa using h.symm
  subst this;simp
 | x::l,r,h=>by
  rw[List.mapM_cons] at h
  obtain⟨y,h1,h2⟩:=Option.bind_eq_some_iff.1 h
  obtain⟨r',h3,h4⟩:=Option.bind_eq_some_iff.1 h2
  have:r=y::r':=by simpa using h4.symm
  subst this
  obtain⟨g1,g2⟩:=Ob5 h3
  refine⟨by simp[g1],fun j z hz=>?_⟩
  cases j with
  | zero=>simp at hz;subst hz;exact⟨x,rfl,h1⟩
  | succ j=>simpa using g2 j z (by simpa using hz)
section
variable {D:Type} {enc:TypeId×Value→D} {P:Program}
theorem kb3 {T : TypeId → Prop} (K : Kids P T) (hsz : ∀ {t e : TypeId}, T t → P.underlying t = some (.slice e) → 0 < P.cellsOf e) {w w' : World} {sp : Nat → Bool} (hs : Ob4 w w') :
  ∀ {ts:List TypeId} {vs:List Value} {ds:List (DataW D)} {ps:List MemPlace},(∀ t∈ts,T t)→DataW.TrodAll enc P w 0 (fun _=>true) true ts vs ds ps→(∀ p∈ps,p.block < w.heap.size)→(∀ p∈ps,sp p.block=true)→DataW.TrodAll enc P w' 0 sp true ts vs ds ps
 | [],[],[],_,_,h,_,_=>h
 | t::ts,v::vs,d::ds,ps,ht,h,hlt,hsp=>by
  obtain⟨p,q,⟨fuel,h1⟩,h2,rfl⟩:=h
  refine⟨p,q,⟨fuel,?_⟩,kb3 K hsz hs (fun t h=>ht t (by simp[h])) h2 (fun x hx=>hlt x (by simp[hx])) (fun x hx=>hsp x (by simp[hx])),rfl⟩
  exact DataW.trod_stays K hsz (fun h=>by cases h) (ht t (by simp)) h1 (fun x hx=>hs.same x (hlt x (by simp at hx ⊢;exact .inl hx))) (fun x hx=>hsp x (by simp at hx ⊢;exact .inl hx))
 | [],_::_,_,_,_,h,_,_=>h.elim
 | [],[],_::_,_,_,h,_,_=>h.elim
 | _::_,[],_,_,_,h,_,_=>h.elim
 | _::_,_::_,[],_,_,h,_,_=>h.elim
theorem Sc5 {T : TypeId → Prop} (K : Kids P T) (hsz : ∀ {t e : TypeId}, T t → P.underlying t = some (.slice e) → 0 < P.cellsOf e) {f : Func} {s : ChangeSpec} {apart fresh handsOn again : Bool} {W W' : World} {args : Array Value} {ds gs : List (DataW D)} {before : List MemPlace} {tb : TypeId}
  (hT:∀ t∈f.params.toList,T t) (hW:DataW.Whole enc P f.params.toList s.vars apart W args.toList ds gs before) (hv:s.vars=[]) (hr:f.resultTypes=#[tb]) (hb:P.underlying tb=some .bool)
  (h1:(s.fn D ds).results=[.lit (.bool true)]) (h2:(s.fn D ds).args=ds) (h3:(s.fn D ds).vars=[]) (hs:Ob4 W W') :
  s.post enc P f apart fresh handsOn again W args (.bool true) W':=by
 have hlt:=hW.lt
 obtain⟨pa,pv,hA,hV,hps,hz,hn⟩:=id hW
 rw[hv] at hV
 have hpv:gs=[]∧pv=[]:=by
  cases gs with
  | nil=>exact⟨rfl,hV⟩
  | cons=>exact hV.elim
 obtain⟨rfl,rfl⟩:=hpv
 rw[← List.append_nil ds] at h1 h3
 have h2:(s.fn D (ds++[])).args=ds:=by rw[List.append_nil];exact h2
 have hpa:before=pa:=by rw[hps];simp
 subst hpa
 have hagain:∀ sp:Nat→Bool,(∀ p∈before,sp p.block=true)→DataW.TrodAll enc P W' 0 sp true f.params.toList args.toList ds before:=fun sp h=>kb3 K hsz hs hT hA hlt h
 have hres:∀ (b:Nat) (sp:Nat→Bool) (hd:Bool),DataW.TrodAll enc P W' b sp hd f.resultTypes.toList ((Value.bool true).resultList f.resultTypes.size) [.lit (.bool true)] []:=fun b sp hd=>by
  rw[hr]
  exact⟨[],[],⟨1,by simp[DataW.trod,hb,Value.cells,Value.resultList]⟩,rfl,rfl⟩
 have hvars:∀ sp:Nat→Bool,DataW.TrodVars enc P W' sp s.vars ([]:List (DataW D)) []:=fun sp=>by rw[hv];exact rfl
 have hok:∀ (j:Nat) (t:TypeId) (r:Value),f.resultTypes[j]?=some t→((Value.bool true).resultList f.resultTypes.size)[j]?=some r→Value.okWide P W' .any 0 t r:=by
  rw[hr]
  intro j t r h4 h5
  cases j with
  | zero =>
   simp at h4
   subst h4
   have:r=.bool true:=by simpa [Value.resultList] using h5.symm
   subst this
   exact okWide_bool_mk hb _
  | succ j=>simp at h4
 have hag:DataW.TrodAll enc P W' 0 (fun _=>true) true (f.resultTypes.toList++f.params.toList) ((Value.bool true).resultList f.resultTypes.size++args.toList) (.lit (.bool true)::ds) before:=by
  have:=hagain (fun _=>true) (fun _ _=>rfl)
  rw[hr]
  exact⟨[],before,⟨1,by simp[DataW.trod,hb,Value.cells,Value.resultList]⟩,this,rfl⟩
 refine⟨ds,[],before,[],before,[],hW,?_,?_,?_,hs.kept _,fun _=>?_⟩
 ·rw[h1];exact hres _ _ _
 ·rw[h2];exact hagain _ fun p hp=>by simpa using hlt p hp
 ·rw[h3];exact hvars _
 ·refine⟨hok,.lit (.bool true)::ds,[],before,⟨before,[],hag,hvars _,by simp,?_,?_⟩,?_⟩
  ·intro b off hp
   rw[hs.frozen b off (hlt _ hp)]
   exact hz b off (by simpa using hp)
  ·intro ha;simpa using hn ha
  ·intro p hp _;exact hp
variable {w:World} {base:Nat} {spare:Nat→Bool} {held:Bool}
def Hc2 (w:World):Fz:=fun b o=>(w.cell? ⟨b,o,none⟩).isSome
theorem kd8 {fuel : Nat} {t : TypeId} {k : IntKind} {cs : List Value} {x : DataW D × List MemPlace} (ht : P.underlying t = some (.int k)) (h : DataW.trod enc P w base spare held fuel t cs = some x) :
  ∃ n,cs=[.int k n]∧(Lit.int k n).wf=true∧x.1=.lit (.int k n):=by
 cases fuel with
 | zero=>cases h
 | succ fuel =>
  match cs,h with
  | [],h=>simp[DataW.trod,ht] at h
  | [v],h =>
   cases v with
   | int k' n =>
    simp only[DataW.trod,ht] at h
    split at h
    ·rename_i hk
     obtain⟨rfl,hw⟩:=hk
     injection h with h;subst h
     exact⟨n,rfl,hw,rfl⟩
    ·cases h
   | _=>simp[DataW.trod,ht] at h
  | a::b::r,h=>simp[DataW.trod,ht] at h
theorem ad7 {fuel : Nat} {t : TypeId} {cs : List Value} {x : DataW D × List MemPlace} (ht : P.underlying t = some .bool) (h : DataW.trod enc P w base spare held fuel t cs = some x) :
  ∃ n,cs=[.bool n]∧x.1=.lit (.bool n):=by
 cases fuel with
 | zero=>cases h
 | succ fuel =>
  match cs,h with
  | [],h=>simp[DataW.trod,ht] at h
  | [v],h =>
   cases v with
   | bool n =>
    simp only[DataW.trod,ht] at h
    injection h with h;subst h
    exact⟨n,rfl,rfl⟩
   | _=>simp[DataW.trod,ht] at h
  | a::b::r,h=>simp[DataW.trod,ht] at h
theorem Sc6 {fuel : Nat} {t e : TypeId} {n : Nat} {cs : List Value} {x : DataW D × List MemPlace} (ht : P.underlying t = some (.array n e)) (h : DataW.trod enc P w base spare held fuel t cs = some x) :
  cs.length=P.cellsOf t∧∃ (fuel':Nat) (xs:List (DataW D×List MemPlace)),xs.length=n∧x.1=.agg (xs.map (·.1))∧∀ (j:Nat) y,xs[j]?=some y→DataW.trod enc P w base spare held fuel' e ((cs.drop (j*P.cellsOf e)).take (P.cellsOf e))=some y:=by
 cases fuel with
 | zero=>cases h
 | succ fuel =>
  unfold DataW.trod at h
  rw[ht] at h
  simp only at h
  split at h
  ·rename_i hl
   obtain⟨xs,h1,h2⟩:=Option.map_eq_some_iff.1 h
   have hx:=Ob5 h1
   exact⟨hl,fuel,xs,by simpa using hx.1,by rw[← h2],fun j y hy=>by
    obtain⟨a,ha,hb⟩:=hx.2 j y hy
    have:j < n:=by
     have:=(List.getElem?_eq_some_iff.1 hy).1
     rw[hx.1] at this;simpa using this
    rw[List.getElem?_range this] at ha
    injection ha with ha
    subst ha
    exact hb⟩
  ·cases h
theorem Hc3 {fuel : Nat} {t : TypeId} {fs : Array Field} {cs : List Value} {x : DataW D × List MemPlace} (ht : P.underlying t = some (.struct fs)) (h : DataW.trod enc P w base spare held fuel t cs = some x) :
  cs.length=P.cellsOf t∧∃ (fuel':Nat) (xs:List (DataW D×List MemPlace)),xs.length=fs.size∧x.1=.agg (xs.map (·.1))∧∀ (j:Nat) f,fs[j]?=some f→∃ y,xs[j]?=some y∧DataW.trod enc P w base spare held fuel' f.type ((cs.drop f.offset).take (P.cellsOf f.type))=some y:=by
 cases fuel with
 | zero=>cases h
 | succ fuel =>
  unfold DataW.trod at h
  rw[ht] at h
  simp only at h
  split at h
  ·rename_i hl
   obtain⟨xs,h1,h2⟩:=Option.map_eq_some_iff.1 h
   have hx:=Ob5 h1
   refine⟨hl,fuel,xs,by simpa using hx.1,by rw[← h2],fun j f hf=>?_⟩
   have hj:j < xs.length:=by
    rw[hx.1];simpa using (Array.getElem?_eq_some_iff.1 hf).1
   obtain⟨a,ha,hb⟩:=hx.2 j _ (List.getElem?_eq_getElem hj)
   have:a=f:=by
    have:fs.toList[j]?=some f:=by simpa using hf
    exact Option.some.inj (ha.symm.trans this)
   subst this
   exact⟨_,List.getElem?_eq_getElem hj,hb⟩
  ·cases h
theorem Bc5:∀ (d:Nat) (t:TypeId) (l:List (Nat×CK)),R4 P d t=some l→∀ (fuel:Nat) (cs:List Value) (x:DataW D×List MemPlace),DataW.trod enc P w base spare held fuel t cs=some x→∀ p∈l,ja9 cs.toArray p
 | 0,_,_,h,_,_,_,_=>by cases h
 | d+1,t,l,h,fuel,cs,x,hx=>by
  have hpart:∀ {off n:Nat} {e:TypeId} {l':List (Nat×CK)} {fuel':Nat} {y:DataW D×List MemPlace},Ya7 off n (R4 P d e)=some l'→DataW.trod enc P w base spare held fuel' e ((cs.drop off).take n)=some y→∀ p∈l',ja9 cs.toArray p:=fun {off n e l' fuel' y} h1 h2 p hp=>by
   obtain⟨l2,g1,g2,rfl⟩:=oa9 h1
   obtain⟨q,hq,rfl⟩:=List.mem_map.1 hp
   have:=Bc5 d e l2 g1 fuel' _ y h2 q hq
   have hlt:=g2 q hq
   unfold ja9 at this ⊢
   simp only[List.getElem?_toArray,List.getElem?_take,hlt,if_true,List.getElem?_drop] at this ⊢
   exact this
  have hcat:∀ {α:Type} (f:α→Option (List (Nat×CK))) (xs:List α) (l:List (Nat×CK)),Z4 (xs.map f)=some l→∀ p∈l,∃ a∈xs,∃ l',f a=some l'∧p∈l':=fun {α} f xs=>by
   induction xs with
   | nil=>intro l h;simp only[List.map_nil,Z4] at h;injection h with h;subst h;simp
   | cons a xs ih =>
    intro l h p hp
    simp only[List.map_cons,Z4] at h
    cases h1:f a with
    | none=>simp[h1] at h
    | some l1 =>
    cases h2:Z4 (xs.map f) with
    | none=>simp[h1,h2] at h
    | some l2 =>
    simp only[h1,h2] at h
    injection h with h;subst h
    rcases List.mem_append.1 hp with hp | hp
    ·exact⟨a,by simp,l1,h1,hp⟩
    ·obtain⟨b,hb,r⟩:=ih l2 h2 p hp
     exact⟨b,by simp[hb],r⟩
  unfold R4 at h
  cases hu:P.underlying t with
  | none=>simp[hu] at h
  | some u =>
  cases u with
  | int k =>
   simp only[hu] at h;injection h with h;subst h
   obtain⟨n,rfl,_,_⟩:=kd8 hu hx
   intro p hp;simp at hp;subst hp;exact⟨n,rfl⟩
  | bool =>
   simp only[hu] at h;injection h with h;subst h
   obtain⟨n,rfl,_⟩:=ad7 hu hx
   intro p hp;simp at hp;subst hp;exact⟨n,rfl⟩
  | struct fs =>
   simp only[hu] at h
   split at h
   ·cases h
   obtain⟨_,fuel',xs,_,_,hxs⟩:=Hc3 hu hx
   intro p hp
   obtain⟨f,hf,l',h1,h2⟩:=hcat _ _ _ h p hp
   split at h1
   ·cases h1
   obtain⟨j,hj⟩:=List.getElem?_of_mem hf
   obtain⟨y,_,hy⟩:=hxs j f (by simpa using hj)
   have hc:P.cellsOf f.type=szT P f.type:=by
    unfold Program.cellsOf szT
    cases P.info? f.type<;>rfl
   rw[hc] at hy
   exact hpart h1 hy p h2
  | array n e =>
   simp only[hu] at h
   split at h
   case isFalse=>cases h
   obtain⟨_,fuel',xs,hn,_,hxs⟩:=Sc6 hu hx
   intro p hp
   obtain⟨j,hj,l',h1,h2⟩:=hcat _ _ _ h p hp
   have hj':j < xs.length:=by rw[hn];simpa using hj
   have hy:=hxs j _ (List.getElem?_eq_getElem hj')
   have hc:P.cellsOf e=szT P e:=by
    unfold Program.cellsOf szT
    cases P.info? e<;>rfl
   rw[hc] at hy
   exact hpart h1 hy p h2
  | _=>simp[hu] at h
def Va6 (k:IntKind) (es:Nat) (g:Nat→Int):List a7:=(List.range es).map fun c=>.v (.int k (g c))
def oa4 (k:IntKind) (es:Nat):List (Nat×CK):=(List.range es).map fun c=>(c,.int k)
theorem ad8 {d : Nat} {t : TypeId} {k : IntKind} {es : Nat} (hf : R4 P d t = some (oa4 k es)) {fuel : Nat} {cs : List Value} {x : DataW D × List MemPlace} (hx : DataW.trod enc P w base spare held fuel t cs = some x) (hl : cs.length = es) :
  ∃ g:Nat→Int,∀ c,c < es→cs[c]?=some (.int k (g c)):=by
 have h:=Bc5 d t _ hf fuel cs x hx
 have h':∀ c,∃ n:Int,c < es→cs[c]?=some (.int k n):=fun c=>by
  by_cases hc:c < es
  ·have:=h (c,.int k) (List.mem_map.2 ⟨c,by simpa using hc,rfl⟩)
   obtain⟨n,hn⟩:=this
   exact⟨n,fun _=>by simpa using hn⟩
  ·exact⟨0,fun h=>absurd h hc⟩
 exact⟨fun c=>Classical.choose (h' c),fun c hc=>Classical.choose_spec (h' c) hc⟩
theorem wc1 {k:IntKind} {es:Nat} {g:Nat→Int} {c:Nat} {x:a7} (h:(Va6 k es g)[c]?=some x):c < es∧x=.v (.int k (g c)):=by
 unfold Va6 at h
 obtain⟨h1,h2⟩:=qa1 h
 exact⟨h1,h2.symm⟩
theorem Hc4 (w:World):r9 (fun k=>w.heap.size≤k) (fun _=>⟨0,0,0⟩) [] (Hc2 w) w :=
 ⟨fun id b h=>by simp at h,fun id id' b b' h=>by simp at h,fun _ _ h=>h,fun _ h=>h⟩
theorem Hc5 {G : Nat → List Value} {f : FuncId} {S : Sum} (hS : j7 P G f S) {aargs : List a7} {args : List Value} (hrun : ∃ out, (S aargs []).run = some (b true, out)) (hl : aargs.length = args.length)
  (ha:∀ (i:Nat) x x',aargs[i]?=some x→args[i]?=some x'→S1 (fun _=>⟨0,0,0⟩) [] (Hc2 w) w x x') (hG:∀ g (c:Nat) x,(G g)[c]?=some x→x.oneCell'=true∧w.cell? ⟨g,c,none⟩=some x) :
  Calls P f args.toArray w fun e w'=>e=.returned (.bool true)∧Ob4 w w':=by
 obtain⟨out,hrun⟩:=hrun
 obtain⟨_,hc⟩:=hS aargs [] (b true) out hrun (fun k=>w.heap.size≤k) (fun _=>⟨0,0,0⟩) (Hc2 w) w args (Hc4 w) hl (fun i x x' h1 h2=>.val (ha i x x' h1 h2)) (fun g c x hx=>by
  obtain⟨h1,h2⟩:=hG g c x hx
  exact⟨h1,by unfold Hc2;rw[h2];rfl,h2⟩)
 refine hc.mono fun e w' ⟨r',he,ρ',F',hA,hH,hW⟩=>?_
 have:=R5 hW
 subst this
 exact⟨he,hA.ext.os,hA.ext.output,hA.ext.size,fun k hk=>hA.ext.block k hk (by omega)⟩
theorem ad9 {ρ : Rho} {H : List a8} {F : Fz} {t : TypeId} {k : IntKind} {es d : Nat} {v : Value} {dd : DataW D} {pp : List MemPlace} {bs : Nat} {r : Reach} (hag : agT P t = true) (hf : R4 P d t = some (oa4 k es)) (hes : P.cellsOf t = es)
  (hok:Value.okWide P w r bs t v) (h:DataW.Trod enc P w base spare held t v dd pp):∃ g:Nat→Int,S1 ρ H F w (.agg (Va6 k es g)) v:=by
 have hv:∃ cs:Array Value,v=.agg cs∧cs.size=P.cellsOf t:=by
  unfold agT at hag
  unfold Value.okWide at hok
  split at hag
  ·rename_i fs hu;rw[hu] at hok;obtain⟨cs,h1,h2,_⟩:=hok;exact⟨cs,h1,h2⟩
  ·rename_i n e hu;rw[hu] at hok;obtain⟨cs,h1,h2,_⟩:=hok;exact⟨cs,h1,h2⟩
  ·cases hag
 obtain⟨cs,rfl,hsz⟩:=hv
 obtain⟨fuel,hx⟩:=h
 have hx:DataW.trod enc P w base spare held fuel t cs.toList=some (dd,pp):=hx
 obtain⟨g,hg⟩:=ad8 hf hx (by simpa [hes] using hsz)
 refine⟨g,.agg _ _ (by simp[Va6,hsz,hes]) fun c x x' h1 h2=>?_⟩
 obtain⟨hc,rfl⟩:=wc1 h1
 have:=hg c hc
 have h3:some x'=some (.int k (g c)):=by rw[← h2];simpa using this
 injection h3 with h3
 subst h3
 exact .v _
end
end Go.Ev
namespace Go.Ev.L
open Go Go.Ev
def Rdg {α:Type} (c:Cod α) (x:a7) (a:α):Prop:=c.dec x=some a∧c.grd x=true
section
variable {α β γ δ ε:Type} {c:Cod α} {d:Cod β} {e:Cod γ} {f:Cod δ} {c5:Cod ε} {x y z w v:a7} {a:α} {b':β} {g:γ} {j:δ} {m:ε} {r:a7×List a8}
theorem vd3 {k:α→β→DT (a7×List a8)} (h1:Rdg c x a) (h2:Rdg d y b') (h:(k a b').run=some r):(wa6 c d k [x,y] []).run=some r:=by
 unfold wa6
 simp only[h1.1,h1.2,h2.1,h2.2]
 exact h
end
theorem kd9 {g p:Bool} (hg:g=true) (hp:p=true):(DT.guard g (.ret ((one r1B).enc p,([]:List a8)))).run=some (b true,([]:List a8)):=by subst hg;subst hp;rfl
end Go.Ev.L
namespace Go.Ev.Ce
open Go Go.Ev Go.Ev.L Go.Proofs
structure B3 where
 b0:Int
 b1:Int
 b2:Int
end Go.Ev.Ce
section
namespace Go.Ev.Ce
open Go Go.Ev Go.Ev.L Go.Proofs
set_option maxRecDepth 100000
structure pc2 where
 vd5:List (List Int)
 bs5:Bool
 y6:Int
 o8:Int
 y7:Int
structure pc3 where
 ph:Nat
 is8:Int
 ns7:Nat
 eh1:List (List a7)
end Go.Ev.Ce
end
namespace Go.Ev.Ce
open Go Go.Ev Go.Ev.L Go.Proofs
def Neg (v:V3) (q:Pln):Prop:=okp q=true∧dot q.n v < q.b
structure qd9 (v:V3):Prop where
 x:Sm 23 v.x
 y:Sm 23 v.y
 z:Sm 23 v.z
theorem qd9.inV {v:V3} (h:qd9 v):inV v=true:=(dc0 v).2 ⟨h.x.mono (by omega),h.y.mono (by omega),h.z.mono (by omega)⟩
structure Cel (v:V3) (c:List Pln):Prop where
 l:c.length≤6
 n:∀ q∈c,Neg v q
theorem Cel.add {v:V3} {c:List Pln} {q:Pln} (h:Cel v c) (hl:c.length < 6) (hq:Neg v q):Cel v (c++[q]):=by
 refine⟨by rw[List.length_append,List.length_singleton];omega,fun x hx=>?_⟩
 rcases List.mem_append.1 hx with hx | hx
 ·exact h.n x hx
 ·rw[List.mem_singleton.1 hx];exact hq
def Ins (v:V3) (l:List Pln):Prop:=∀ q∈l,0 < rmZ q (qd7 v)
theorem Ins.app {v:V3} {l r:List Pln} (h:Ins v l) (h':Ins v r):Ins v (l++r):=fun q hq=>(List.mem_append.1 hq).elim (h q) (h' q)
theorem Ins.ball {v:V3} {l:List Pln} (h:Ins v l):ad5 l:=⟨qd7 v,Int.one_pos,h⟩
theorem Cel.chk {v:V3} {c:List Pln} (h:Cel v c):(chk c==0)=true:=by
 rw[beq_iff_eq,sb8]
 exact⟨by have:=h.l;omega,fun q hq=>(h.n q hq).1⟩
end Go.Ev.Ce
namespace Go.Ev.Ce
open Go Go.Ev Go.Ev.L Go.Proofs
theorem pc4 {r:List Pln} {p q:Pln} {out:List Pt} {s:Pln} (h:out.Nodup):(pa3 r p q out s).Nodup:=by
 unfold pa3
 split
 ·rename_i hc
  simp only[Bool.and_eq_true,Bool.not_eq_true'] at hc
  rw[List.nodup_append]
  refine⟨h,by simp,fun a ha b hb e=>?_⟩
  rw[List.mem_singleton] at hb
  have h1:=hc.2.1
  unfold Db1 at h1
  have h2:=List.any_eq_false.1 h1 a ha
  rw[e,hb] at h2
  exact h2 (by simp[eqX])
 ·exact h
theorem Ob6 {r:List Pln} {p q:Pln}:∀ {l:List Pln} {out:List Pt},out.Nodup→(Ua5 r p q l out).Nodup
 | [],_,h=>h
 | _::l,_,h=>Ob6 (l:=l) (pc4 h)
theorem Ob7 {r:List Pln} {p:Pln}:∀ {l:List Pln} {out:List Pt},out.Nodup→(Ja8 r p l out).Nodup
 | [],_,h=>h
 | _::l,_,h=>Ob7 (l:=l) (Ob6 h)
theorem Ob8 {r:List Pln}:∀ {l:List Pln} {out:List Pt},out.Nodup→(yb5 r l out).Nodup
 | [],_,h=>h
 | _::l,_,h=>Ob8 (l:=l) (Ob7 h)
theorem Hc6 (r:List Pln):(cor r).Nodup:=Ob8 List.nodup_nil
def axs:List V3:=[⟨1,0,0⟩,⟨-1,0,0⟩,⟨0,1,0⟩,⟨0,-1,0⟩,⟨0,0,1⟩,⟨0,0,-1⟩]
def axX (a:V3):Bool:=a.y==0&&a.z==0
def axY (a:V3):Bool:=a.x==0&&a.z==0
def axZ (a:V3):Bool:=a.x==0&&a.y==0
def ax3 (a b c:V3):Bool:=dot a (o5 b c)==0||((dot a (o5 b c)==1||dot a (o5 b c)==-1)&&((axX a||(axX b||axX c))&&((axY a||(axY b||axY c))&&(axZ a||(axZ b||axZ c)))))
theorem bd0:(axs.all fun a=>axs.all fun b=>axs.all fun c=>ax3 a b c)=true:=by decide
theorem Sc7 {a b c : V3} (ha : a ∈ axs) (hb : b ∈ axs) (hc : c ∈ axs) (h : dot a (o5 b c) ≠ 0) :
  (dot a (o5 b c)=1∨dot a (o5 b c)=-1)∧(axX a=true∨axX b=true∨axX c=true)∧(axY a=true∨axY b=true∨axY c=true)∧(axZ a=true∨axZ b=true∨axZ c=true):=by
 have h1:=List.all_eq_true.1 (List.all_eq_true.1 (List.all_eq_true.1 bd0 a ha) b hb) c hc
 unfold ax3 at h1
 simp only[Bool.or_eq_true,Bool.and_eq_true,beq_iff_eq] at h1
 exact h1.resolve_left h
structure Box (lo hi:V3):Prop where
 lx:Sm 20 lo.x
 ly:Sm 20 lo.y
 lz:Sm 20 lo.z
 hx:Sm 20 hi.x
 hy:Sm 20 hi.y
 hz:Sm 20 hi.z
 x:lo.x < hi.x
 y:lo.y < hi.y
 z:lo.z < hi.z
def bx (lo hi:V3):List Pln:=[⟨⟨1,0,0⟩,hi.x⟩,⟨⟨-1,0,0⟩,-lo.x⟩,⟨⟨0,1,0⟩,hi.y⟩,⟨⟨0,-1,0⟩,-lo.y⟩,⟨⟨0,0,1⟩,hi.z⟩,⟨⟨0,0,-1⟩,-lo.z⟩]
theorem ec3 {lo hi:V3} (h:Box lo hi):vc3 lo hi=bx lo hi:=by
 have w:∀ {x:Int},Sm 20 x→W (0 - x)=-x:=fun h=>by rw[Ca9 (by have:=h.1;have:=h.2;omega) (by have:=h.1;have:=h.2;omega)];omega
 unfold vc3 bx
 rw[w h.lx,w h.ly,w h.lz]
theorem ka5 {lo hi:V3} (h:Box lo hi):Sb2 (bx lo hi):=ec3 h ▸ Sc4 ⟨h.lx,h.ly,h.lz⟩ ⟨h.hx,h.hy,h.hz⟩ ⟨h.x,h.y,h.z⟩
noncomputable def bxw (lo hi:V3):List Pln:=bx lo hi++ws
theorem zb4 {lo hi:V3}:∀ p∈bxw lo hi,p.n∈axs:=by
 intro p hp
 simp only[bxw,bx,ws,List.cons_append,List.nil_append,List.mem_cons,List.not_mem_nil,or_false] at hp
 rcases hp with rfl | rfl | rfl | rfl | rfl | rfl | rfl | rfl | rfl | rfl | rfl | rfl<;>simp[axs]
structure InB (lo hi:V3) (x:Pt):Prop where
 x1:lo.x*x.pw≤x.px
 x2:x.px≤hi.x*x.pw
 y1:lo.y*x.pw≤x.py
 y2:x.py≤hi.y*x.pw
 z1:lo.z*x.pw≤x.pz
 z2:x.pz≤hi.z*x.pw
theorem ld0 {lo hi:V3} {x:Pt} {r:List Pln} (hr:∀ p∈bx lo hi,p∈r) (h:Inr r x):InB lo hi x:=by
 have g:∀ p,p∈bx lo hi→0≤rmZ p x:=fun p hp=>h.h p (hr p hp)
 have h1:=g ⟨⟨1,0,0⟩,hi.x⟩ (by simp[bx])
 have h2:=g ⟨⟨-1,0,0⟩,-lo.x⟩ (by simp[bx])
 have h3:=g ⟨⟨0,1,0⟩,hi.y⟩ (by simp[bx])
 have h4:=g ⟨⟨0,-1,0⟩,-lo.y⟩ (by simp[bx])
 have h5:=g ⟨⟨0,0,1⟩,hi.z⟩ (by simp[bx])
 have h6:=g ⟨⟨0,0,-1⟩,-lo.z⟩ (by simp[bx])
 simp only[rmZ,Int.neg_mul] at h1 h2 h3 h4 h5 h6
 constructor<;>omega
theorem InB.inr {lo hi:V3} {x:Pt} (hb:Box lo hi) (hw:0 < x.pw) (h:InB lo hi x):Inr (bxw lo hi) x:=by
 obtain⟨⟨a1,a2⟩,⟨a3,a4⟩,⟨a5,a6⟩,⟨b1,b2⟩,⟨b3,b4⟩,⟨b5,b6⟩,_,_,_⟩:=hb
 obtain⟨x1,x2,y1,y2,z1,z2⟩:=h
 have m:∀ {a:Int},a≤20→a*x.pw≤20*x.pw:=fun h=>Int.mul_le_mul_of_nonneg_right h (Int.le_of_lt hw)
 have m':∀ {a:Int},-20≤a→-20*x.pw≤a*x.pw:=fun h=>Int.mul_le_mul_of_nonneg_right h (Int.le_of_lt hw)
 have:=m b2;have:=m b4;have:=m b6;have:=m' a1;have:=m' a3;have:=m' a5
 refine⟨hw,fun p hp=>?_⟩
 simp only[bxw,bx,ws,List.cons_append,List.nil_append,List.mem_cons,List.not_mem_nil,or_false] at hp
 rcases hp with rfl | rfl | rfl | rfl | rfl | rfl | rfl | rfl | rfl | rfl | rfl | rfl<;>simp only[rmZ,Int.neg_mul]<;>omega
theorem dd8 {lo hi:V3} (h:Box lo hi):∀ x∈cor (bxw lo hi),x.pw=1:=fun x hx=>by
 have h1:x.pw=1∨x.pw=-1:=cc7 (Q:=fun x=>x.pw=1∨x.pw=-1) (fun p hp q hq s hs hm _=>by
  obtain⟨h0,k,_,_,_,_,hk⟩:=Rc8 hm
  have:=(Sc7 (zb4 p hp) (zb4 q hq) (zb4 s hs) h0).1
  have hkm:k*(mpt p q s).1.pw=1∨k*(mpt p q s).1.pw=-1:=by rw[hk];exact this
  generalize (mpt p q s).1.pw=w at *
  have hn:k.natAbs*w.natAbs=1:=by rw[← Int.natAbs_mul];omega
  have:=Nat.eq_one_of_mul_eq_one_left hn
  omega) x hx
 have:=(gb3 (ka5 h).bds x hx).w1
 omega
def bxE (lo hi:V3):List Pt:=[⟨lo.x,lo.y,lo.z,1⟩,⟨lo.x,lo.y,hi.z,1⟩,⟨lo.x,hi.y,lo.z,1⟩,⟨lo.x,hi.y,hi.z,1⟩,⟨hi.x,lo.y,lo.z,1⟩,⟨hi.x,lo.y,hi.z,1⟩,⟨hi.x,hi.y,lo.z,1⟩,⟨hi.x,hi.y,hi.z,1⟩]
theorem gb6 {lo hi:V3} {x:Pt}:x∈bxE lo hi↔x.pw=1∧(x.px=lo.x∨x.px=hi.x)∧(x.py=lo.y∨x.py=hi.y)∧(x.pz=lo.z∨x.pz=hi.z):=by
 obtain⟨a,b,c,w⟩:=x
 simp only[bxE,List.mem_cons,List.not_mem_nil,or_false,Pt.mk.injEq]
 constructor
 ·rintro (⟨rfl,rfl,rfl,rfl⟩ | ⟨rfl,rfl,rfl,rfl⟩ | ⟨rfl,rfl,rfl,rfl⟩ | ⟨rfl,rfl,rfl,rfl⟩ | ⟨rfl,rfl,rfl,rfl⟩ | ⟨rfl,rfl,rfl,rfl⟩ | ⟨rfl,rfl,rfl,rfl⟩ | ⟨rfl,rfl,rfl,rfl⟩)<;>simp
 ·rintro⟨rfl,rfl | rfl,rfl | rfl,rfl | rfl⟩<;>simp
theorem Hc7 {lo hi:V3} (h:Box lo hi):(bxE lo hi).Nodup:=by
 have:=h.x;have:=h.y;have:=h.z
 simp only[bxE,List.nodup_cons,List.mem_cons,List.not_mem_nil,or_false,Pt.mk.injEq,List.nodup_nil,and_true,not_or,not_false_eq_true]
 omega
theorem ec4 {lo hi:V3} (h:Box lo hi) {p:Pln} (hp:p∈bxw lo hi) (ha:axX p.n=true) {x:Pt} (hw:x.pw=1) (hi':InB lo hi x) (h0:rmZ p x=0):x.px=lo.x∨x.px=hi.x:=by
 obtain⟨⟨a1,a2⟩,⟨a3,a4⟩,⟨a5,a6⟩,⟨b1,b2⟩,⟨b3,b4⟩,⟨b5,b6⟩,_,_,_⟩:=h
 obtain⟨x1,x2,y1,y2,z1,z2⟩:=hi'
 simp only[bxw,bx,ws,List.cons_append,List.nil_append,List.mem_cons,List.not_mem_nil,or_false] at hp
 rw[hw] at x1 x2
 rcases hp with rfl | rfl | rfl | rfl | rfl | rfl | rfl | rfl | rfl | rfl | rfl | rfl<;>first | (simp[axX,axY,axZ] at ha;done) | (simp only[rmZ,hw] at h0;omega)
theorem ec5 {lo hi:V3} (h:Box lo hi) {p:Pln} (hp:p∈bxw lo hi) (ha:axY p.n=true) {x:Pt} (hw:x.pw=1) (hi':InB lo hi x) (h0:rmZ p x=0):x.py=lo.y∨x.py=hi.y:=by
 obtain⟨⟨a1,a2⟩,⟨a3,a4⟩,⟨a5,a6⟩,⟨b1,b2⟩,⟨b3,b4⟩,⟨b5,b6⟩,_,_,_⟩:=h
 obtain⟨x1,x2,y1,y2,z1,z2⟩:=hi'
 simp only[bxw,bx,ws,List.cons_append,List.nil_append,List.mem_cons,List.not_mem_nil,or_false] at hp
 rw[hw] at y1 y2
 rcases hp with rfl | rfl | rfl | rfl | rfl | rfl | rfl | rfl | rfl | rfl | rfl | rfl<;>first | (simp[axX,axY,axZ] at ha;done) | (simp only[rmZ,hw] at h0;omega)
theorem ec6 {lo hi:V3} (h:Box lo hi) {p:Pln} (hp:p∈bxw lo hi) (ha:axZ p.n=true) {x:Pt} (hw:x.pw=1) (hi':InB lo hi x) (h0:rmZ p x=0):x.pz=lo.z∨x.pz=hi.z:=by
 obtain⟨⟨a1,a2⟩,⟨a3,a4⟩,⟨a5,a6⟩,⟨b1,b2⟩,⟨b3,b4⟩,⟨b5,b6⟩,_,_,_⟩:=h
 obtain⟨x1,x2,y1,y2,z1,z2⟩:=hi'
 simp only[bxw,bx,ws,List.cons_append,List.nil_append,List.mem_cons,List.not_mem_nil,or_false] at hp
 rw[hw] at z1 z2
 rcases hp with rfl | rfl | rfl | rfl | rfl | rfl | rfl | rfl | rfl | rfl | rfl | rfl<;>first | (simp[axX,axY,axZ] at ha;done) | (simp only[rmZ,hw] at h0;omega)
theorem ub4 {lo hi:V3} {p:Pln} (h:p∈bx lo hi):p∈bxw lo hi:=List.mem_append_left _ h
theorem ld1 (lo hi:V3) {a:Int} (h:a=lo.x∨a=hi.x):∃ s:Int,(s=1∨s=-1)∧(⟨⟨s,0,0⟩,s*a⟩:Pln)∈bx lo hi:=by
 rcases h with rfl | rfl
 ·exact⟨-1,.inr rfl,by simp[bx]⟩
 ·exact⟨1,.inl rfl,by simp[bx]⟩
theorem ld2 (lo hi:V3) {a:Int} (h:a=lo.y∨a=hi.y):∃ s:Int,(s=1∨s=-1)∧(⟨⟨0,s,0⟩,s*a⟩:Pln)∈bx lo hi:=by
 rcases h with rfl | rfl
 ·exact⟨-1,.inr rfl,by simp[bx]⟩
 ·exact⟨1,.inl rfl,by simp[bx]⟩
theorem ld3 (lo hi:V3) {a:Int} (h:a=lo.z∨a=hi.z):∃ s:Int,(s=1∨s=-1)∧(⟨⟨0,0,s⟩,s*a⟩:Pln)∈bx lo hi:=by
 rcases h with rfl | rfl
 ·exact⟨-1,.inr rfl,by simp[bx]⟩
 ·exact⟨1,.inl rfl,by simp[bx]⟩
theorem Sc8 {lo hi:V3} (h:Box lo hi) {x:Pt} (hx:x∈bxE lo hi):InB lo hi x:=by
 obtain⟨hw,h1,h2,h3⟩:=gb6.1 hx
 have:=h.x;have:=h.y;have:=h.z
 constructor<;>rw[hw]<;>omega
theorem ld4 {lo hi:V3} (h:Box lo hi) {x:Pt} (hx:x∈bxE lo hi):Cn (bxw lo hi) x:=by
 obtain⟨hw,h1,h2,h3⟩:=gb6.1 hx
 obtain⟨s,hs,m1⟩:=ld1 lo hi h1
 obtain⟨t,ht,m2⟩:=ld2 lo hi h2
 obtain⟨u,hu,m3⟩:=ld3 lo hi h3
 refine⟨(Sc8 h hx).inr h (by omega),_,_,_,ub4 m1,ub4 m2,ub4 m3,?_,?_,?_,?_⟩
 ·unfold mw dot o5
  simp only
  rcases hs with rfl | rfl<;>rcases ht with rfl | rfl<;>rcases hu with rfl | rfl<;>decide
 ·simp only[rmZ,hw];omega
 ·simp only[rmZ,hw];omega
 ·simp only[rmZ,hw];omega
theorem Bc6 {lo hi:V3} (h:Box lo hi) (x:Pt):x∈cor (bxw lo hi)↔x∈bxE lo hi:=by
 have hb:=(ka5 h).bds
 constructor
 ·intro hx
  have hw:=dd8 h x hx
  have hc:=Sc1 hb x hx
  have hin:=ld0 (fun p hp=>ub4 hp) hc.toInr
  obtain⟨p,q,s,hp,hq,hs,h0,r1,r2,r3⟩:=hc.c
  obtain⟨_,k1,k2,k3⟩:=Sc7 (zb4 p hp) (zb4 q hq) (zb4 s hs) h0
  refine gb6.2 ⟨hw,?_,?_,?_⟩
  ·rcases k1 with k | k | k
   ·exact ec4 h hp k hw hin r1
   ·exact ec4 h hq k hw hin r2
   ·exact ec4 h hs k hw hin r3
  ·rcases k2 with k | k | k
   ·exact ec5 h hp k hw hin r1
   ·exact ec5 h hq k hw hin r2
   ·exact ec5 h hs k hw hin r3
  ·rcases k3 with k | k | k
   ·exact ec6 h hp k hw hin r1
   ·exact ec6 h hq k hw hin r2
   ·exact ec6 h hs k hw hin r3
 ·intro hx
  obtain⟨y,hy,e⟩:=Sc2 hb (ld4 h hx)
  have hw:=dd8 h y hy
  have hw':=(gb6.1 hx).1
  have:y=x:=by
   obtain⟨e1,e2,e3⟩:=e
   obtain⟨y1,y2,y3,y4⟩:=y
   obtain⟨x1,x2,x3,x4⟩:=x
   simp only at hw hw' e1 e2 e3
   subst hw hw'
   simp only[Int.mul_one] at e1 e2 e3
   subst e1 e2 e3
   rfl
  exact this ▸ hy
theorem Sc9 {lo hi:V3} (h:Box lo hi):List.Perm (cor (bxw lo hi)) (bxE lo hi):=(List.perm_ext_iff_of_nodup (Hc6 _) (Hc7 h)).2 (Bc6 h)
theorem Va7 {lo hi:V3} (h:Box lo hi):List.Perm (pts (bx lo hi)) (bxE lo hi):=by
 rw[(ka5 h).pts]
 exact Sc9 h
theorem rd0 {lo hi:V3} (h:Box lo hi):(pts (bx lo hi)).length=8:=(Va7 h).length_eq
end Go.Ev.Ce
namespace Go.Ev.Ce
open Go Go.Ev Go.Ev.L Go.Proofs
structure B6 where
 c0:Int
 c1:Int
 c2:Int
 c3:Int
 c4:Int
 c5:Int
def rd1:List a7→Bool
 | [.v (.int .u8 _),.v (.int .u8 _),.v (.int .u8 _),.v (.int .u8 _),.v (.int .u8 _),.v (.int .u8 _)]=>true
 | _=>false
def vd4:List a7→B6
 | [.v (.int .u8 x),.v (.int .u8 y),.v (.int .u8 z),.v (.int .u8 u),.v (.int .u8 v),.v (.int .u8 w)]=>⟨x,y,z,u,v,w⟩
 | _=>⟨0,0,0,0,0,0⟩
noncomputable def tS:Ty B6 where
 es:=6
 row x:=[.v (.int .u8 x.c0),.v (.int .u8 x.c1),.v (.int .u8 x.c2),.v (.int .u8 x.c3),.v (.int .u8 x.c4),.v (.int .u8 x.c5)]
 rd:=vd4
 ok:=rd1
 cks:=List.replicate 6 (.int .u8)
 d:=⟨0,0,0,0,0,0⟩
 h0 _:=rfl
 h1 _:=rfl
 h2 _:=rfl
 h3 r h:=by
  unfold rd1 at h
  split at h
  ·exact .refl _
  ·cases h
 h4 _:=rfl
 h5 _:=rfl
end Go.Ev.Ce
section
namespace Go.Ev.Ce
open Go Go.Ev Go.Ev.L Go.Proofs
set_option maxRecDepth 100000
noncomputable def zb5:List (Nat×Sum):=[]
theorem ub5:o9 prog G zb5:=trivial
noncomputable def A0 (x:Int) (y:Int) (z:Int) (w:Int):Bool:=(decide ((if z > x then z else x) < (if w < y then w else y)))
noncomputable def Wa9:Sum:=fd3 cI cI cI cI (fun x y z w=>.ret ((one r1B).enc (A0 x y z w),[]))
theorem zb6:j7 prog G 11 Wa9:=Vc6 (bd b11 ub5) fun x y z w=>J5 (by kernel_rfl)
noncomputable def nb5:List (Nat×Sum):=[(5,db7),(6,cb3),(7,nb3),(8,Ua4),(9,ga1),(10,db6),(11,Wa9),(12,Va2),(13,Oa5),(14,nb2)]
theorem ib4:o9 prog G nb5:=⟨Db7,rb8,Bb3,jb9,ia9,ub0,zb6,kb2,db3,Bb2,trivial⟩
noncomputable def Z2 (x:B6) (y:B6):Option (a7×List a8):=let t1:=sa8;let t3:=(G7 (⟨(W ((W (Int.tmod x.c3 20)) - 10)),(W ((W (Int.tmod x.c4 20)) - 10)),(W ((W (Int.tmod x.c5 20)) - 10))⟩:V3) (⟨(W (1+(W (Int.tmod y.c3 8)))),(W (1+(W (Int.tmod y.c4 8)))),(W (1+(W (Int.tmod y.c5 8))))⟩:V3));let t5:=(u9 (⟨(W ((W (Int.tmod x.c3 20)) - 10)),(W ((W (Int.tmod x.c4 20)) - 10)),(W ((W (Int.tmod x.c5 20)) - 10))⟩:V3) t3);let a0:=(W ((W (Int.tmod x.c0 20)) - 10));let a1:=(W ((W (Int.tmod x.c1 20)) - 10));let a2:=(W ((W (Int.tmod x.c2 20)) - 10));let t2:=(G7 (⟨a0,a1,a2⟩:V3) (⟨(W (1+(W (Int.tmod y.c0 8)))),(W (1+(W (Int.tmod y.c1 8)))),(W (1+(W (Int.tmod y.c2 8))))⟩:V3));let t4:=(u9 (⟨a0,a1,a2⟩:V3) t2);let t6:=(sa1 [(⟨(⟨1,0,0⟩:V3),t4.c8⟩:Pln),(⟨(⟨(-1),0,0⟩:V3),t4.d8⟩:Pln),(⟨(⟨0,1,0⟩:V3),t4.d9⟩:Pln),(⟨(⟨0,(-1),0⟩:V3),t4.e7⟩:Pln),(⟨(⟨0,0,1⟩:V3),t4.e8⟩:Pln),(⟨(⟨0,0,(-1)⟩:V3),t4.f0⟩:Pln)]);let t7:=(O3 [(⟨(⟨1,0,0⟩:V3),t4.c8⟩:Pln),(⟨(⟨(-1),0,0⟩:V3),t4.d8⟩:Pln),(⟨(⟨0,1,0⟩:V3),t4.d9⟩:Pln),(⟨(⟨0,(-1),0⟩:V3),t4.e7⟩:Pln),(⟨(⟨0,0,1⟩:V3),t4.e8⟩:Pln),(⟨(⟨0,0,(-1)⟩:V3),t4.f0⟩:Pln)]);let t8:=(ya7 ((⟨(⟨1,0,0⟩:V3),t4.c8⟩:Pln),[(⟨(⟨(-1),0,0⟩:V3),t4.d8⟩:Pln),(⟨(⟨0,1,0⟩:V3),t4.d9⟩:Pln),(⟨(⟨0,(-1),0⟩:V3),t4.e7⟩:Pln),(⟨(⟨0,0,1⟩:V3),t4.e8⟩:Pln),(⟨(⟨0,0,(-1)⟩:V3),t4.f0⟩:Pln)]));let t9:=(A0 a0 t2.x (W ((W (Int.tmod x.c3 20)) - 10)) t3.x);let t10:=(A0 a1 t2.y (W ((W (Int.tmod x.c4 20)) - 10)) t3.y);let t11:=(A0 a2 t2.z (W ((W (Int.tmod x.c5 20)) - 10)) t3.z);let t12:=(ea1 [(⟨(⟨1,0,0⟩:V3),t4.c8⟩:Pln),(⟨(⟨(-1),0,0⟩:V3),t4.d8⟩:Pln),(⟨(⟨0,1,0⟩:V3),t4.d9⟩:Pln),(⟨(⟨0,(-1),0⟩:V3),t4.e7⟩:Pln),(⟨(⟨0,0,1⟩:V3),t4.e8⟩:Pln),(⟨(⟨0,0,(-1)⟩:V3),t4.f0⟩:Pln)] [(⟨(⟨1,0,0⟩:V3),t5.c8⟩:Pln),(⟨(⟨(-1),0,0⟩:V3),t5.d8⟩:Pln),(⟨(⟨0,1,0⟩:V3),t5.d9⟩:Pln),(⟨(⟨0,(-1),0⟩:V3),t5.e7⟩:Pln),(⟨(⟨0,0,1⟩:V3),t5.e8⟩:Pln),(⟨(⟨0,0,(-1)⟩:V3),t5.f0⟩:Pln)]);let t13:=(aa2 [(⟨(⟨1,0,0⟩:V3),t4.c8⟩:Pln),(⟨(⟨(-1),0,0⟩:V3),t4.d8⟩:Pln),(⟨(⟨0,1,0⟩:V3),t4.d9⟩:Pln),(⟨(⟨0,(-1),0⟩:V3),t4.e7⟩:Pln),(⟨(⟨0,0,1⟩:V3),t4.e8⟩:Pln),(⟨(⟨0,0,(-1)⟩:V3),t4.f0⟩:Pln)] [(⟨(⟨1,0,0⟩:V3),t5.c8⟩:Pln),(⟨(⟨(-1),0,0⟩:V3),t5.d8⟩:Pln),(⟨(⟨0,1,0⟩:V3),t5.d9⟩:Pln),(⟨(⟨0,(-1),0⟩:V3),t5.e7⟩:Pln),(⟨(⟨0,0,1⟩:V3),t5.e8⟩:Pln),(⟨(⟨0,0,(-1)⟩:V3),t5.f0⟩:Pln)]);let t14:=(oa8 [(⟨(⟨1,0,0⟩:V3),t5.c8⟩:Pln),(⟨(⟨(-1),0,0⟩:V3),t5.d8⟩:Pln),(⟨(⟨0,1,0⟩:V3),t5.d9⟩:Pln),(⟨(⟨0,(-1),0⟩:V3),t5.e7⟩:Pln),(⟨(⟨0,0,1⟩:V3),t5.e8⟩:Pln),(⟨(⟨0,0,(-1)⟩:V3),t5.f0⟩:Pln)] (⟨a0,a1,a2⟩:V3));let t15:=(oa8 [(⟨(⟨1,0,0⟩:V3),t5.c8⟩:Pln),(⟨(⟨(-1),0,0⟩:V3),t5.d8⟩:Pln),(⟨(⟨0,1,0⟩:V3),t5.d9⟩:Pln),(⟨(⟨0,(-1),0⟩:V3),t5.e7⟩:Pln),(⟨(⟨0,0,1⟩:V3),t5.e8⟩:Pln),(⟨(⟨0,0,(-1)⟩:V3),t5.f0⟩:Pln)] t2);let t16:=(aa2 [(⟨(⟨1,0,0⟩:V3),t4.c8⟩:Pln),(⟨(⟨(-1),0,0⟩:V3),t4.d8⟩:Pln),(⟨(⟨0,1,0⟩:V3),t4.d9⟩:Pln),(⟨(⟨0,(-1),0⟩:V3),t4.e7⟩:Pln),(⟨(⟨0,0,1⟩:V3),t4.e8⟩:Pln),(⟨(⟨0,0,(-1)⟩:V3),t4.f0⟩:Pln)] [(⟨(⟨1,0,0⟩:V3),t4.c8⟩:Pln),(⟨(⟨(-1),0,0⟩:V3),t4.d8⟩:Pln),(⟨(⟨0,1,0⟩:V3),t4.d9⟩:Pln),(⟨(⟨0,(-1),0⟩:V3),t4.e7⟩:Pln),(⟨(⟨0,0,1⟩:V3),t4.e8⟩:Pln),(⟨(⟨0,0,(-1)⟩:V3),t4.f0⟩:Pln)]);let t17:=(ea1 [(⟨(⟨1,0,0⟩:V3),t4.c8⟩:Pln),(⟨(⟨(-1),0,0⟩:V3),t4.d8⟩:Pln),(⟨(⟨0,1,0⟩:V3),t4.d9⟩:Pln),(⟨(⟨0,(-1),0⟩:V3),t4.e7⟩:Pln),(⟨(⟨0,0,1⟩:V3),t4.e8⟩:Pln),(⟨(⟨0,0,(-1)⟩:V3),t4.f0⟩:Pln)] [(⟨(⟨1,0,0⟩:V3),t4.c8⟩:Pln),(⟨(⟨(-1),0,0⟩:V3),t4.d8⟩:Pln),(⟨(⟨0,1,0⟩:V3),t4.d9⟩:Pln),(⟨(⟨0,(-1),0⟩:V3),t4.e7⟩:Pln),(⟨(⟨0,0,1⟩:V3),t4.e8⟩:Pln),(⟨(⟨0,0,(-1)⟩:V3),t4.f0⟩:Pln)]);(sl sa9 (sl (sa2 [(⟨(⟨1,0,0⟩:V3),t4.c8⟩:Pln),(⟨(⟨(-1),0,0⟩:V3),t4.d8⟩:Pln),(⟨(⟨0,1,0⟩:V3),t4.d9⟩:Pln),(⟨(⟨0,(-1),0⟩:V3),t4.e7⟩:Pln),(⟨(⟨0,0,1⟩:V3),t4.e8⟩:Pln),(⟨(⟨0,0,(-1)⟩:V3),t4.f0⟩:Pln)]) (sl (O4 [(⟨(⟨1,0,0⟩:V3),t4.c8⟩:Pln),(⟨(⟨(-1),0,0⟩:V3),t4.d8⟩:Pln),(⟨(⟨0,1,0⟩:V3),t4.d9⟩:Pln),(⟨(⟨0,(-1),0⟩:V3),t4.e7⟩:Pln),(⟨(⟨0,0,1⟩:V3),t4.e8⟩:Pln),(⟨(⟨0,0,(-1)⟩:V3),t4.f0⟩:Pln)]) (sl ((↑(List.length t7):Int) != 8) (some ((b false),[])) (sl (ya8 ((⟨(⟨1,0,0⟩:V3),t4.c8⟩:Pln),[(⟨(⟨(-1),0,0⟩:V3),t4.d8⟩:Pln),(⟨(⟨0,1,0⟩:V3),t4.d9⟩:Pln),(⟨(⟨0,(-1),0⟩:V3),t4.e7⟩:Pln),(⟨(⟨0,0,1⟩:V3),t4.e8⟩:Pln),(⟨(⟨0,0,(-1)⟩:V3),t4.f0⟩:Pln)])) (sl ((↑(List.length t8):Int) != 6) (some ((b false),[])) (sl (!t6.2.2) (some ((b false),[])) (sl (!((t6.1.x==a0)&&((t6.1.y==a1)&&((t6.1.z==a2)&&true)))) (some ((b false),[])) (sl (!((t6.2.1.x==t2.x)&&((t6.2.1.y==t2.y)&&((t6.2.1.z==t2.z)&&true)))) (some ((b false),[])) (sl t9 (sl t10 (sl t1 (sl (E7 [(⟨(⟨1,0,0⟩:V3),t4.c8⟩:Pln),(⟨(⟨(-1),0,0⟩:V3),t4.d8⟩:Pln),(⟨(⟨0,1,0⟩:V3),t4.d9⟩:Pln),(⟨(⟨0,(-1),0⟩:V3),t4.e7⟩:Pln),(⟨(⟨0,0,1⟩:V3),t4.e8⟩:Pln),(⟨(⟨0,0,(-1)⟩:V3),t4.f0⟩:Pln)] [(⟨(⟨1,0,0⟩:V3),t5.c8⟩:Pln),(⟨(⟨(-1),0,0⟩:V3),t5.d8⟩:Pln),(⟨(⟨0,1,0⟩:V3),t5.d9⟩:Pln),(⟨(⟨0,(-1),0⟩:V3),t5.e7⟩:Pln),(⟨(⟨0,0,1⟩:V3),t5.e8⟩:Pln),(⟨(⟨0,0,(-1)⟩:V3),t5.f0⟩:Pln)]) (sl (t12==(!t11)) (sl (A2 [(⟨(⟨1,0,0⟩:V3),t4.c8⟩:Pln),(⟨(⟨(-1),0,0⟩:V3),t4.d8⟩:Pln),(⟨(⟨0,1,0⟩:V3),t4.d9⟩:Pln),(⟨(⟨0,(-1),0⟩:V3),t4.e7⟩:Pln),(⟨(⟨0,0,1⟩:V3),t4.e8⟩:Pln),(⟨(⟨0,0,(-1)⟩:V3),t4.f0⟩:Pln)] [(⟨(⟨1,0,0⟩:V3),t5.c8⟩:Pln),(⟨(⟨(-1),0,0⟩:V3),t5.d8⟩:Pln),(⟨(⟨0,1,0⟩:V3),t5.d9⟩:Pln),(⟨(⟨0,(-1),0⟩:V3),t5.e7⟩:Pln),(⟨(⟨0,0,1⟩:V3),t5.e8⟩:Pln),(⟨(⟨0,0,(-1)⟩:V3),t5.f0⟩:Pln)]) (sl (W5 [(⟨(⟨1,0,0⟩:V3),t5.c8⟩:Pln),(⟨(⟨(-1),0,0⟩:V3),t5.d8⟩:Pln),(⟨(⟨0,1,0⟩:V3),t5.d9⟩:Pln),(⟨(⟨0,(-1),0⟩:V3),t5.e7⟩:Pln),(⟨(⟨0,0,1⟩:V3),t5.e8⟩:Pln),(⟨(⟨0,0,(-1)⟩:V3),t5.f0⟩:Pln)] (⟨a0,a1,a2⟩:V3)) (sl t14 (sl (W5 [(⟨(⟨1,0,0⟩:V3),t5.c8⟩:Pln),(⟨(⟨(-1),0,0⟩:V3),t5.d8⟩:Pln),(⟨(⟨0,1,0⟩:V3),t5.d9⟩:Pln),(⟨(⟨0,(-1),0⟩:V3),t5.e7⟩:Pln),(⟨(⟨0,0,1⟩:V3),t5.e8⟩:Pln),(⟨(⟨0,0,(-1)⟩:V3),t5.f0⟩:Pln)] t2) (sl (t13==t15) (sl (A2 [(⟨(⟨1,0,0⟩:V3),t4.c8⟩:Pln),(⟨(⟨(-1),0,0⟩:V3),t4.d8⟩:Pln),(⟨(⟨0,1,0⟩:V3),t4.d9⟩:Pln),(⟨(⟨0,(-1),0⟩:V3),t4.e7⟩:Pln),(⟨(⟨0,0,1⟩:V3),t4.e8⟩:Pln),(⟨(⟨0,0,(-1)⟩:V3),t4.f0⟩:Pln)] [(⟨(⟨1,0,0⟩:V3),t4.c8⟩:Pln),(⟨(⟨(-1),0,0⟩:V3),t4.d8⟩:Pln),(⟨(⟨0,1,0⟩:V3),t4.d9⟩:Pln),(⟨(⟨0,(-1),0⟩:V3),t4.e7⟩:Pln),(⟨(⟨0,0,1⟩:V3),t4.e8⟩:Pln),(⟨(⟨0,0,(-1)⟩:V3),t4.f0⟩:Pln)]) (sl t16 (sl (E7 [(⟨(⟨1,0,0⟩:V3),t4.c8⟩:Pln),(⟨(⟨(-1),0,0⟩:V3),t4.d8⟩:Pln),(⟨(⟨0,1,0⟩:V3),t4.d9⟩:Pln),(⟨(⟨0,(-1),0⟩:V3),t4.e7⟩:Pln),(⟨(⟨0,0,1⟩:V3),t4.e8⟩:Pln),(⟨(⟨0,0,(-1)⟩:V3),t4.f0⟩:Pln)] [(⟨(⟨1,0,0⟩:V3),t4.c8⟩:Pln),(⟨(⟨(-1),0,0⟩:V3),t4.d8⟩:Pln),(⟨(⟨0,1,0⟩:V3),t4.d9⟩:Pln),(⟨(⟨0,(-1),0⟩:V3),t4.e7⟩:Pln),(⟨(⟨0,0,1⟩:V3),t4.e8⟩:Pln),(⟨(⟨0,0,(-1)⟩:V3),t4.f0⟩:Pln)]) (some ((b (!t17)),[])) none) (some ((b false),[]))) none) (some ((b false),[]))) none) (sl (t13==false) (sl (A2 [(⟨(⟨1,0,0⟩:V3),t4.c8⟩:Pln),(⟨(⟨(-1),0,0⟩:V3),t4.d8⟩:Pln),(⟨(⟨0,1,0⟩:V3),t4.d9⟩:Pln),(⟨(⟨0,(-1),0⟩:V3),t4.e7⟩:Pln),(⟨(⟨0,0,1⟩:V3),t4.e8⟩:Pln),(⟨(⟨0,0,(-1)⟩:V3),t4.f0⟩:Pln)] [(⟨(⟨1,0,0⟩:V3),t4.c8⟩:Pln),(⟨(⟨(-1),0,0⟩:V3),t4.d8⟩:Pln),(⟨(⟨0,1,0⟩:V3),t4.d9⟩:Pln),(⟨(⟨0,(-1),0⟩:V3),t4.e7⟩:Pln),(⟨(⟨0,0,1⟩:V3),t4.e8⟩:Pln),(⟨(⟨0,0,(-1)⟩:V3),t4.f0⟩:Pln)]) (sl t16 (sl (E7 [(⟨(⟨1,0,0⟩:V3),t4.c8⟩:Pln),(⟨(⟨(-1),0,0⟩:V3),t4.d8⟩:Pln),(⟨(⟨0,1,0⟩:V3),t4.d9⟩:Pln),(⟨(⟨0,(-1),0⟩:V3),t4.e7⟩:Pln),(⟨(⟨0,0,1⟩:V3),t4.e8⟩:Pln),(⟨(⟨0,0,(-1)⟩:V3),t4.f0⟩:Pln)] [(⟨(⟨1,0,0⟩:V3),t4.c8⟩:Pln),(⟨(⟨(-1),0,0⟩:V3),t4.d8⟩:Pln),(⟨(⟨0,1,0⟩:V3),t4.d9⟩:Pln),(⟨(⟨0,(-1),0⟩:V3),t4.e7⟩:Pln),(⟨(⟨0,0,1⟩:V3),t4.e8⟩:Pln),(⟨(⟨0,0,(-1)⟩:V3),t4.f0⟩:Pln)]) (some ((b (!t17)),[])) none) (some ((b false),[]))) none) (some ((b false),[])))) none) none) (some ((b false),[]))) none) (some ((b false),[]))) (sl t1 (sl (E7 [(⟨(⟨1,0,0⟩:V3),t4.c8⟩:Pln),(⟨(⟨(-1),0,0⟩:V3),t4.d8⟩:Pln),(⟨(⟨0,1,0⟩:V3),t4.d9⟩:Pln),(⟨(⟨0,(-1),0⟩:V3),t4.e7⟩:Pln),(⟨(⟨0,0,1⟩:V3),t4.e8⟩:Pln),(⟨(⟨0,0,(-1)⟩:V3),t4.f0⟩:Pln)] [(⟨(⟨1,0,0⟩:V3),t5.c8⟩:Pln),(⟨(⟨(-1),0,0⟩:V3),t5.d8⟩:Pln),(⟨(⟨0,1,0⟩:V3),t5.d9⟩:Pln),(⟨(⟨0,(-1),0⟩:V3),t5.e7⟩:Pln),(⟨(⟨0,0,1⟩:V3),t5.e8⟩:Pln),(⟨(⟨0,0,(-1)⟩:V3),t5.f0⟩:Pln)]) (sl (t12==true) (sl (A2 [(⟨(⟨1,0,0⟩:V3),t4.c8⟩:Pln),(⟨(⟨(-1),0,0⟩:V3),t4.d8⟩:Pln),(⟨(⟨0,1,0⟩:V3),t4.d9⟩:Pln),(⟨(⟨0,(-1),0⟩:V3),t4.e7⟩:Pln),(⟨(⟨0,0,1⟩:V3),t4.e8⟩:Pln),(⟨(⟨0,0,(-1)⟩:V3),t4.f0⟩:Pln)] [(⟨(⟨1,0,0⟩:V3),t5.c8⟩:Pln),(⟨(⟨(-1),0,0⟩:V3),t5.d8⟩:Pln),(⟨(⟨0,1,0⟩:V3),t5.d9⟩:Pln),(⟨(⟨0,(-1),0⟩:V3),t5.e7⟩:Pln),(⟨(⟨0,0,1⟩:V3),t5.e8⟩:Pln),(⟨(⟨0,0,(-1)⟩:V3),t5.f0⟩:Pln)]) (sl (W5 [(⟨(⟨1,0,0⟩:V3),t5.c8⟩:Pln),(⟨(⟨(-1),0,0⟩:V3),t5.d8⟩:Pln),(⟨(⟨0,1,0⟩:V3),t5.d9⟩:Pln),(⟨(⟨0,(-1),0⟩:V3),t5.e7⟩:Pln),(⟨(⟨0,0,1⟩:V3),t5.e8⟩:Pln),(⟨(⟨0,0,(-1)⟩:V3),t5.f0⟩:Pln)] (⟨a0,a1,a2⟩:V3)) (sl t14 (sl (W5 [(⟨(⟨1,0,0⟩:V3),t5.c8⟩:Pln),(⟨(⟨(-1),0,0⟩:V3),t5.d8⟩:Pln),(⟨(⟨0,1,0⟩:V3),t5.d9⟩:Pln),(⟨(⟨0,(-1),0⟩:V3),t5.e7⟩:Pln),(⟨(⟨0,0,1⟩:V3),t5.e8⟩:Pln),(⟨(⟨0,0,(-1)⟩:V3),t5.f0⟩:Pln)] t2) (sl (t13==t15) (sl (A2 [(⟨(⟨1,0,0⟩:V3),t4.c8⟩:Pln),(⟨(⟨(-1),0,0⟩:V3),t4.d8⟩:Pln),(⟨(⟨0,1,0⟩:V3),t4.d9⟩:Pln),(⟨(⟨0,(-1),0⟩:V3),t4.e7⟩:Pln),(⟨(⟨0,0,1⟩:V3),t4.e8⟩:Pln),(⟨(⟨0,0,(-1)⟩:V3),t4.f0⟩:Pln)] [(⟨(⟨1,0,0⟩:V3),t4.c8⟩:Pln),(⟨(⟨(-1),0,0⟩:V3),t4.d8⟩:Pln),(⟨(⟨0,1,0⟩:V3),t4.d9⟩:Pln),(⟨(⟨0,(-1),0⟩:V3),t4.e7⟩:Pln),(⟨(⟨0,0,1⟩:V3),t4.e8⟩:Pln),(⟨(⟨0,0,(-1)⟩:V3),t4.f0⟩:Pln)]) (sl t16 (sl (E7 [(⟨(⟨1,0,0⟩:V3),t4.c8⟩:Pln),(⟨(⟨(-1),0,0⟩:V3),t4.d8⟩:Pln),(⟨(⟨0,1,0⟩:V3),t4.d9⟩:Pln),(⟨(⟨0,(-1),0⟩:V3),t4.e7⟩:Pln),(⟨(⟨0,0,1⟩:V3),t4.e8⟩:Pln),(⟨(⟨0,0,(-1)⟩:V3),t4.f0⟩:Pln)] [(⟨(⟨1,0,0⟩:V3),t4.c8⟩:Pln),(⟨(⟨(-1),0,0⟩:V3),t4.d8⟩:Pln),(⟨(⟨0,1,0⟩:V3),t4.d9⟩:Pln),(⟨(⟨0,(-1),0⟩:V3),t4.e7⟩:Pln),(⟨(⟨0,0,1⟩:V3),t4.e8⟩:Pln),(⟨(⟨0,0,(-1)⟩:V3),t4.f0⟩:Pln)]) (some ((b (!t17)),[])) none) (some ((b false),[]))) none) (some ((b false),[]))) none) (sl (t13==false) (sl (A2 [(⟨(⟨1,0,0⟩:V3),t4.c8⟩:Pln),(⟨(⟨(-1),0,0⟩:V3),t4.d8⟩:Pln),(⟨(⟨0,1,0⟩:V3),t4.d9⟩:Pln),(⟨(⟨0,(-1),0⟩:V3),t4.e7⟩:Pln),(⟨(⟨0,0,1⟩:V3),t4.e8⟩:Pln),(⟨(⟨0,0,(-1)⟩:V3),t4.f0⟩:Pln)] [(⟨(⟨1,0,0⟩:V3),t4.c8⟩:Pln),(⟨(⟨(-1),0,0⟩:V3),t4.d8⟩:Pln),(⟨(⟨0,1,0⟩:V3),t4.d9⟩:Pln),(⟨(⟨0,(-1),0⟩:V3),t4.e7⟩:Pln),(⟨(⟨0,0,1⟩:V3),t4.e8⟩:Pln),(⟨(⟨0,0,(-1)⟩:V3),t4.f0⟩:Pln)]) (sl t16 (sl (E7 [(⟨(⟨1,0,0⟩:V3),t4.c8⟩:Pln),(⟨(⟨(-1),0,0⟩:V3),t4.d8⟩:Pln),(⟨(⟨0,1,0⟩:V3),t4.d9⟩:Pln),(⟨(⟨0,(-1),0⟩:V3),t4.e7⟩:Pln),(⟨(⟨0,0,1⟩:V3),t4.e8⟩:Pln),(⟨(⟨0,0,(-1)⟩:V3),t4.f0⟩:Pln)] [(⟨(⟨1,0,0⟩:V3),t4.c8⟩:Pln),(⟨(⟨(-1),0,0⟩:V3),t4.d8⟩:Pln),(⟨(⟨0,1,0⟩:V3),t4.d9⟩:Pln),(⟨(⟨0,(-1),0⟩:V3),t4.e7⟩:Pln),(⟨(⟨0,0,1⟩:V3),t4.e8⟩:Pln),(⟨(⟨0,0,(-1)⟩:V3),t4.f0⟩:Pln)]) (some ((b (!t17)),[])) none) (some ((b false),[]))) none) (some ((b false),[])))) none) none) (some ((b false),[]))) none) (some ((b false),[])))) (sl t1 (sl (E7 [(⟨(⟨1,0,0⟩:V3),t4.c8⟩:Pln),(⟨(⟨(-1),0,0⟩:V3),t4.d8⟩:Pln),(⟨(⟨0,1,0⟩:V3),t4.d9⟩:Pln),(⟨(⟨0,(-1),0⟩:V3),t4.e7⟩:Pln),(⟨(⟨0,0,1⟩:V3),t4.e8⟩:Pln),(⟨(⟨0,0,(-1)⟩:V3),t4.f0⟩:Pln)] [(⟨(⟨1,0,0⟩:V3),t5.c8⟩:Pln),(⟨(⟨(-1),0,0⟩:V3),t5.d8⟩:Pln),(⟨(⟨0,1,0⟩:V3),t5.d9⟩:Pln),(⟨(⟨0,(-1),0⟩:V3),t5.e7⟩:Pln),(⟨(⟨0,0,1⟩:V3),t5.e8⟩:Pln),(⟨(⟨0,0,(-1)⟩:V3),t5.f0⟩:Pln)]) (sl (t12==true) (sl (A2 [(⟨(⟨1,0,0⟩:V3),t4.c8⟩:Pln),(⟨(⟨(-1),0,0⟩:V3),t4.d8⟩:Pln),(⟨(⟨0,1,0⟩:V3),t4.d9⟩:Pln),(⟨(⟨0,(-1),0⟩:V3),t4.e7⟩:Pln),(⟨(⟨0,0,1⟩:V3),t4.e8⟩:Pln),(⟨(⟨0,0,(-1)⟩:V3),t4.f0⟩:Pln)] [(⟨(⟨1,0,0⟩:V3),t5.c8⟩:Pln),(⟨(⟨(-1),0,0⟩:V3),t5.d8⟩:Pln),(⟨(⟨0,1,0⟩:V3),t5.d9⟩:Pln),(⟨(⟨0,(-1),0⟩:V3),t5.e7⟩:Pln),(⟨(⟨0,0,1⟩:V3),t5.e8⟩:Pln),(⟨(⟨0,0,(-1)⟩:V3),t5.f0⟩:Pln)]) (sl (W5 [(⟨(⟨1,0,0⟩:V3),t5.c8⟩:Pln),(⟨(⟨(-1),0,0⟩:V3),t5.d8⟩:Pln),(⟨(⟨0,1,0⟩:V3),t5.d9⟩:Pln),(⟨(⟨0,(-1),0⟩:V3),t5.e7⟩:Pln),(⟨(⟨0,0,1⟩:V3),t5.e8⟩:Pln),(⟨(⟨0,0,(-1)⟩:V3),t5.f0⟩:Pln)] (⟨a0,a1,a2⟩:V3)) (sl t14 (sl (W5 [(⟨(⟨1,0,0⟩:V3),t5.c8⟩:Pln),(⟨(⟨(-1),0,0⟩:V3),t5.d8⟩:Pln),(⟨(⟨0,1,0⟩:V3),t5.d9⟩:Pln),(⟨(⟨0,(-1),0⟩:V3),t5.e7⟩:Pln),(⟨(⟨0,0,1⟩:V3),t5.e8⟩:Pln),(⟨(⟨0,0,(-1)⟩:V3),t5.f0⟩:Pln)] t2) (sl (t13==t15) (sl (A2 [(⟨(⟨1,0,0⟩:V3),t4.c8⟩:Pln),(⟨(⟨(-1),0,0⟩:V3),t4.d8⟩:Pln),(⟨(⟨0,1,0⟩:V3),t4.d9⟩:Pln),(⟨(⟨0,(-1),0⟩:V3),t4.e7⟩:Pln),(⟨(⟨0,0,1⟩:V3),t4.e8⟩:Pln),(⟨(⟨0,0,(-1)⟩:V3),t4.f0⟩:Pln)] [(⟨(⟨1,0,0⟩:V3),t4.c8⟩:Pln),(⟨(⟨(-1),0,0⟩:V3),t4.d8⟩:Pln),(⟨(⟨0,1,0⟩:V3),t4.d9⟩:Pln),(⟨(⟨0,(-1),0⟩:V3),t4.e7⟩:Pln),(⟨(⟨0,0,1⟩:V3),t4.e8⟩:Pln),(⟨(⟨0,0,(-1)⟩:V3),t4.f0⟩:Pln)]) (sl t16 (sl (E7 [(⟨(⟨1,0,0⟩:V3),t4.c8⟩:Pln),(⟨(⟨(-1),0,0⟩:V3),t4.d8⟩:Pln),(⟨(⟨0,1,0⟩:V3),t4.d9⟩:Pln),(⟨(⟨0,(-1),0⟩:V3),t4.e7⟩:Pln),(⟨(⟨0,0,1⟩:V3),t4.e8⟩:Pln),(⟨(⟨0,0,(-1)⟩:V3),t4.f0⟩:Pln)] [(⟨(⟨1,0,0⟩:V3),t4.c8⟩:Pln),(⟨(⟨(-1),0,0⟩:V3),t4.d8⟩:Pln),(⟨(⟨0,1,0⟩:V3),t4.d9⟩:Pln),(⟨(⟨0,(-1),0⟩:V3),t4.e7⟩:Pln),(⟨(⟨0,0,1⟩:V3),t4.e8⟩:Pln),(⟨(⟨0,0,(-1)⟩:V3),t4.f0⟩:Pln)]) (some ((b (!t17)),[])) none) (some ((b false),[]))) none) (some ((b false),[]))) none) (sl (t13==false) (sl (A2 [(⟨(⟨1,0,0⟩:V3),t4.c8⟩:Pln),(⟨(⟨(-1),0,0⟩:V3),t4.d8⟩:Pln),(⟨(⟨0,1,0⟩:V3),t4.d9⟩:Pln),(⟨(⟨0,(-1),0⟩:V3),t4.e7⟩:Pln),(⟨(⟨0,0,1⟩:V3),t4.e8⟩:Pln),(⟨(⟨0,0,(-1)⟩:V3),t4.f0⟩:Pln)] [(⟨(⟨1,0,0⟩:V3),t4.c8⟩:Pln),(⟨(⟨(-1),0,0⟩:V3),t4.d8⟩:Pln),(⟨(⟨0,1,0⟩:V3),t4.d9⟩:Pln),(⟨(⟨0,(-1),0⟩:V3),t4.e7⟩:Pln),(⟨(⟨0,0,1⟩:V3),t4.e8⟩:Pln),(⟨(⟨0,0,(-1)⟩:V3),t4.f0⟩:Pln)]) (sl t16 (sl (E7 [(⟨(⟨1,0,0⟩:V3),t4.c8⟩:Pln),(⟨(⟨(-1),0,0⟩:V3),t4.d8⟩:Pln),(⟨(⟨0,1,0⟩:V3),t4.d9⟩:Pln),(⟨(⟨0,(-1),0⟩:V3),t4.e7⟩:Pln),(⟨(⟨0,0,1⟩:V3),t4.e8⟩:Pln),(⟨(⟨0,0,(-1)⟩:V3),t4.f0⟩:Pln)] [(⟨(⟨1,0,0⟩:V3),t4.c8⟩:Pln),(⟨(⟨(-1),0,0⟩:V3),t4.d8⟩:Pln),(⟨(⟨0,1,0⟩:V3),t4.d9⟩:Pln),(⟨(⟨0,(-1),0⟩:V3),t4.e7⟩:Pln),(⟨(⟨0,0,1⟩:V3),t4.e8⟩:Pln),(⟨(⟨0,0,(-1)⟩:V3),t4.f0⟩:Pln)]) (some ((b (!t17)),[])) none) (some ((b false),[]))) none) (some ((b false),[])))) none) none) (some ((b false),[]))) none) (some ((b false),[])))))))) none)) none) none) none)
noncomputable def ha5 (x:B6) (y:B6):Bool:=la8 (one r1B) (Z2 x y)
noncomputable def ha6 (x:B6) (y:B6):Bool:=okO (one r1B) (Z2 x y)
noncomputable def ub6:Sum:=wa6 (Ia3 tS) (Ia3 tS) (fun x y=>.guard (ha6 x y) (.ret ((one r1B).enc (ha5 x y),[])))
theorem nb6:j7 prog G 3 ub6:=Jb7 (bd b3 ib4) (one r1B) (o:=Z2) fun x y=>J5 (by kernel_rfl)
end Go.Ev.Ce
end
namespace Go.Ev.Ce
open Go Go.Ev Go.Ev.L Go.Proofs
theorem ub7 {lo hi:V3} (h:Box lo hi) {x:Pt} (hx:x∈bxE lo hi):Okx x:=gb3 (ka5 h).bds x ((Bc6 h x).2 hx)
theorem pc5 {lo hi:V3} (h:Box lo hi):∀ p∈bx lo hi,Bd p:=fun p hp=>Mb6 ((ka5 h).v p hp)
theorem ld5 {lo hi:V3} (h:Box lo hi):∀ p∈bx lo hi,3≤onc (pts (bx lo hi)) p:=by
 intro p hp
 unfold onc
 rw[(Va7 h).countP_eq]
 have e:(bxE lo hi).countP (fun x=>rm p x==0)=(bxE lo hi).countP (fun x=>rmZ p x==0):=List.countP_congr fun x hx=>by rw[wc0 (pc5 h p hp) (ub7 h hx)]
 rw[e]
 simp only[bx,List.mem_cons,List.not_mem_nil,or_false] at hp
 rcases hp with rfl | rfl | rfl | rfl | rfl | rfl<;>simp[bxE,List.countP_cons,rmZ,Int.add_left_neg]<;>omega
theorem Tc0:∀ (l:List Pln),l.Nodup→dd l=l
 | [],_=>rfl
 | a::l,h=>by
  have key:∀ (l:List Pln) (a:Pln),(a::l).Nodup→ddF a l=l:=fun l=>by
   induction l with
   | nil=>intro a _;rfl
   | cons x l ih =>
    intro a h
    have h1:=List.nodup_cons.1 h
    have hne:¬ eqP x a=true:=fun e=>h1.1 (by rw[(Ac8 x a).1 e];exact List.mem_cons_self)
    show (if eqP x a then ddF x l else x::ddF x l)=_
    rw[if_neg hne,ih x h1.2]
  show a::ddF a l=_
  rw[key l a h]
theorem Tc1 (lo hi:V3):(bx lo hi).Nodup:=by simp[bx]
theorem Tc2 {lo hi:V3} (h:Box lo hi):(lean (bx lo hi)).length=6:=by
 unfold lean
 rw[if_pos (ka5 h).ful]
 have hf:(bx lo hi).filter (keep (pts (bx lo hi)))=bx lo hi:=List.filter_eq_self.2 fun p hp=>by
  have:=ld5 h p hp
  unfold keep
  simp only[Bool.not_eq_true',decide_eq_false_iff_not]
  omega
 rw[hf,Tc0 _ ((nb4 _).nodup_iff.2 (Tc1 lo hi)),(nb4 _).length_eq]
 rfl
theorem zb7 (a c s:Int):(if c < (if a < s then a else s) then c else (if a < s then a else s))=(if a < (if c < s then c else s) then a else (if c < s then c else s)):=by
 repeat' split
 all_goals omega
theorem zb8 (a c s:Int):(if c > (if a > s then a else s) then c else (if a > s then a else s))=(if a > (if c > s then c else s) then a else (if c > s then c else s)):=by
 repeat' split
 all_goals omega
theorem wc2 (s:V3×V3) (x y:Pt):Ha3 (Ha3 s x) y=Ha3 (Ha3 s y) x:=by
 unfold Ha3
 simp only
 rw[zb7 (x.px / x.pw),zb7 (x.py / x.pw),zb7 (x.pz / x.pw),zb8 (W (0 - -x.px / x.pw)),zb8 (W (0 - -x.py / x.pw)),zb8 (W (0 - -x.pz / x.pw))]
theorem bd1 {lo hi:V3} (h:Box lo hi):bnd (bx lo hi)=(lo,hi,true):=by
 unfold bnd
 rw[if_pos (ka5 h).ful,(Va7 h).foldl_eq' (fun x _ y _ z=>wc2 z x y)]
 obtain⟨⟨a1,a2⟩,⟨a3,a4⟩,⟨a5,a6⟩,⟨b1,b2⟩,⟨b3,b4⟩,⟨b5,b6⟩,c1,c2,c3⟩:=h
 have w:∀ {x:Int},-20≤x→x≤20→W (0 - -x)=x:=fun h h'=>by rw[Ca9 (by omega) (by omega)];omega
 have n1:¬ hi.x < lo.x:=by omega
 have n2:¬ hi.y < lo.y:=by omega
 have n3:¬ hi.z < lo.z:=by omega
 have l1:lo.x < 24:=by omega
 have l2:lo.y < 24:=by omega
 have l3:lo.z < 24:=by omega
 have m1:-24 < lo.x:=by omega
 have m2:-24 < lo.y:=by omega
 have m3:-24 < lo.z:=by omega
 simp only[bxE,List.foldl_cons,List.foldl_nil,Ha3,Int.ediv_one,w a1 a2,w a3 a4,w a5 a6,w b1 b2,w b3 b4,w b5 b6,gt_iff_lt,n1,n2,n3,l1,l2,l3,m1,m2,m3,c1,c2,c3,Int.lt_irrefl,if_true,if_false]
theorem zb9 (a c d e:Int):A0 a c d e=true↔a < c∧a < e∧d < c∧d < e:=by
 unfold A0
 rw[decide_eq_true_eq]
 split<;>split<;>omega
theorem wc3 {a c d e:Int} (h:a < c∧a < e∧d < c∧d < e):∃ m n,a≤m∧d≤m∧n≤c∧n≤e∧m < n:=by
 refine⟨if d > a then d else a,if e < c then e else c,?_⟩
 split<;>split<;>omega
theorem Ea8 {a c w p:Int} (hw:0 < w) (h1:a*w < p) (h2:p < c*w):a < c:=Int.lt_of_mul_lt_mul_right (Int.lt_trans h1 h2) (Int.le_of_lt hw)
theorem Xb2 {lo hi lo' hi' : V3} (h : Box lo hi) (h' : Box lo' hi') :
  apart (bx lo hi) (bx lo' hi')=!(A0 lo.x hi.x lo'.x hi'.x&&(A0 lo.y hi.y lo'.y hi'.y&&A0 lo.z hi.z lo'.z hi'.z)):=by
 have k1:=(ka5 h).chk
 have k2:=(ka5 h').chk
 unfold apart
 rw[k1,k2]
 rw[Bool.and_self,Bool.not_true,Bool.false_or]
 refine congrArg not (Bool.eq_iff_iff.2 ?_)
 rw[Xb0 (oc0 k1 k2).1 (Sc3 _) (by simp[ws]),Bool.and_eq_true,Bool.and_eq_true,zb9,zb9,zb9]
 have hx:=h.x;have hy:=h.y;have hz:=h.z
 have hx':=h'.x;have hy':=h'.y;have hz':=h'.z
 constructor
 ·rintro⟨x,hw,hin⟩
  have g:∀ p,p∈bx lo hi∨p∈bx lo' hi'→0 < rmZ p x:=fun p hp=>hin p (List.mem_append_left _ (List.mem_append.2 hp))
  have q1:=g ⟨⟨1,0,0⟩,hi.x⟩ (.inl (by simp[bx]))
  have q2:=g ⟨⟨-1,0,0⟩,-lo.x⟩ (.inl (by simp[bx]))
  have q3:=g ⟨⟨0,1,0⟩,hi.y⟩ (.inl (by simp[bx]))
  have q4:=g ⟨⟨0,-1,0⟩,-lo.y⟩ (.inl (by simp[bx]))
  have q5:=g ⟨⟨0,0,1⟩,hi.z⟩ (.inl (by simp[bx]))
  have q6:=g ⟨⟨0,0,-1⟩,-lo.z⟩ (.inl (by simp[bx]))
  have r1:=g ⟨⟨1,0,0⟩,hi'.x⟩ (.inr (by simp[bx]))
  have r2:=g ⟨⟨-1,0,0⟩,-lo'.x⟩ (.inr (by simp[bx]))
  have r3:=g ⟨⟨0,1,0⟩,hi'.y⟩ (.inr (by simp[bx]))
  have r4:=g ⟨⟨0,-1,0⟩,-lo'.y⟩ (.inr (by simp[bx]))
  have r5:=g ⟨⟨0,0,1⟩,hi'.z⟩ (.inr (by simp[bx]))
  have r6:=g ⟨⟨0,0,-1⟩,-lo'.z⟩ (.inr (by simp[bx]))
  simp only[rmZ,Int.neg_mul] at q1 q2 q3 q4 q5 q6 r1 r2 r3 r4 r5 r6
  exact⟨⟨hx,Ea8 hw (p:=x.px) (by omega) (by omega),Ea8 hw (p:=x.px) (by omega) (by omega),hx'⟩,⟨hy,Ea8 hw (p:=x.py) (by omega) (by omega),Ea8 hw (p:=x.py) (by omega) (by omega),hy'⟩,
   ⟨hz,Ea8 hw (p:=x.pz) (by omega) (by omega),Ea8 hw (p:=x.pz) (by omega) (by omega),hz'⟩⟩
 ·rintro⟨e1,e2,e3⟩
  obtain⟨m1,n1,i1,j1,u1,v1,t1⟩:=wc3 e1
  obtain⟨m2,n2,i2,j2,u2,v2,t2⟩:=wc3 e2
  obtain⟨m3,n3,i3,j3,u3,v3,t3⟩:=wc3 e3
  obtain⟨⟨a1,a2⟩,⟨a3,a4⟩,⟨a5,a6⟩,⟨b1,b2⟩,⟨b3,b4⟩,⟨b5,b6⟩,c1,c2,c3⟩:=h
  refine⟨⟨m1+n1,m2+n2,m3+n3,2⟩,by show (0:Int) < 2;omega,fun p hp=>?_⟩
  simp only[bx,ws,List.cons_append,List.nil_append,List.mem_cons,List.not_mem_nil,or_false] at hp
  rcases hp with rfl | rfl | rfl | rfl | rfl | rfl | rfl | rfl | rfl | rfl | rfl | rfl | rfl | rfl | rfl | rfl | rfl | rfl<;>simp only[rmZ]<;>omega
theorem Tc3 {lo hi lo' hi':V3} (h:Box lo hi) (h':Box lo' hi'):dc5 (bx lo hi) (bx lo' hi')=(has (bx lo' hi') lo&&has (bx lo' hi') hi):=by
 have k2:=(ka5 h').chk
 have i1:inV lo=true:=(dc0 lo).2 ⟨h.lx.mono (by omega),h.ly.mono (by omega),h.lz.mono (by omega)⟩
 have i2:inV hi=true:=(dc0 hi).2 ⟨h.hx.mono (by omega),h.hy.mono (by omega),h.hz.mono (by omega)⟩
 unfold dc5 has
 rw[(ka5 h).ful,k2,i1,i2]
 simp only[Bool.true_and]
 have l1:(⟨lo.x,lo.y,lo.z,1⟩:Pt)∈bxE lo hi:=by simp[bxE]
 have l2:(⟨hi.x,hi.y,hi.z,1⟩:Pt)∈bxE lo hi:=by simp[bxE]
 apply Bool.eq_iff_iff.2
 rw[List.all_eq_true,Bool.and_eq_true]
 constructor
 ·exact fun hh=>⟨hh _ ((Va7 h).mem_iff.2 l1),hh _ ((Va7 h).mem_iff.2 l2)⟩
 ·rintro⟨g1,g2⟩ x hx
  have hx:=(Va7 h).mem_iff.1 hx
  have g1:=(Fb7 (pc5 h') (ub7 h l1)).1 g1
  have g2:=(Fb7 (pc5 h') (ub7 h l2)).1 g2
  refine (Fb7 (pc5 h') (ub7 h hx)).2 fun p hp=>?_
  have q1:=g1 p hp
  have q2:=g2 p hp
  obtain⟨hw,e1,e2,e3⟩:=gb6.1 hx
  simp only[bx,List.mem_cons,List.not_mem_nil,or_false] at hp
  rcases hp with rfl | rfl | rfl | rfl | rfl | rfl<;>simp only[rmZ,hw] at q1 q2 ⊢<;>omega
end Go.Ev.Ce
namespace Go.Ev.Ce
open Go Go.Ev Go.Ev.L Go.Proofs
theorem Tc4 {lo hi:V3} (h:Box lo hi):dc5 (bx lo hi) (bx lo hi)=true∧apart (bx lo hi) (bx lo hi)=false:=by
 constructor
 ·unfold dc5
  rw[(ka5 h).ful,(ka5 h).chk,Bool.true_and,Bool.true_and,List.all_eq_true]
  intro x hx
  have hx:=(Va7 h).mem_iff.1 hx
  have hi:=(Sc8 h hx).inr h (by have:=(gb6.1 hx).1;omega)
  exact (Fb7 (pc5 h) (ub7 h hx)).2 fun p hp=>hi.h p (ub4 hp)
 ·rw[Xb2 h h,(zb9 _ _ _ _).2 ⟨h.x,h.x,h.x,h.x⟩,(zb9 _ _ _ _).2 ⟨h.y,h.y,h.y,h.y⟩,(zb9 _ _ _ _).2 ⟨h.z,h.z,h.z,h.z⟩]
  rfl
structure wc4 (x:B6):Prop where
 p0:0≤x.c0
 p1:0≤x.c1
 p2:0≤x.c2
 p3:0≤x.c3
 p4:0≤x.c4
 p5:0≤x.c5
theorem crn {y:Int} (h:0≤y):-10≤W (W (Int.tmod y 20) - 10)∧W (W (Int.tmod y 20) - 10)≤9:=by
 have h1:=Int.tmod_nonneg 20 h
 have h2:=Int.tmod_lt_of_pos y (show (0:Int) < 20 by omega)
 rw[Ca9 (n:=Int.tmod y 20) (by omega) (by omega),Ca9 (by omega) (by omega)]
 omega
theorem sde {y:Int} (h:0≤y):1≤W (1+W (Int.tmod y 8))∧W (1+W (Int.tmod y 8))≤8:=by
 have h1:=Int.tmod_nonneg 8 h
 have h2:=Int.tmod_lt_of_pos y (show (0:Int) < 8 by omega)
 rw[Ca9 (n:=Int.tmod y 8) (by omega) (by omega),Ca9 (by omega) (by omega)]
 omega
theorem Tc5 {a1 a2 a3 s1 s2 s3:Int} (h1:-10≤a1∧a1≤9) (h2:-10≤a2∧a2≤9) (h3:-10≤a3∧a3≤9) (k1:1≤s1∧s1≤8) (k2:1≤s2∧s2≤8) (k3:1≤s3∧s3≤8):Box ⟨a1,a2,a3⟩ (G7 ⟨a1,a2,a3⟩ ⟨s1,s2,s3⟩):=by
 have w:∀ {a s:Int},-10≤a∧a≤9→1≤s∧s≤8→W (a+s)=a+s:=fun h k=>Ca9 (by omega) (by omega)
 unfold G7
 simp only[w h1 k1,w h2 k2,w h3 k3]
 constructor<;>(try constructor)<;>simp only<;>omega
theorem Tc6 (lo hi:V3):ya7 ((⟨⟨1,0,0⟩,(u9 lo hi).c8⟩:Pln),[(⟨⟨-1,0,0⟩,(u9 lo hi).d8⟩:Pln),⟨⟨0,1,0⟩,(u9 lo hi).d9⟩,⟨⟨0,-1,0⟩,(u9 lo hi).e7⟩,⟨⟨0,0,1⟩,(u9 lo hi).e8⟩,⟨⟨0,0,-1⟩,(u9 lo hi).f0⟩])=lean (vc3 lo hi) :=
 Qc7 _ _ (by decide:5≤1000000)
theorem Hc8 (lo hi:V3):ya8 ((⟨⟨1,0,0⟩,(u9 lo hi).c8⟩:Pln),[(⟨⟨-1,0,0⟩,(u9 lo hi).d8⟩:Pln),⟨⟨0,1,0⟩,(u9 lo hi).d9⟩,⟨⟨0,-1,0⟩,(u9 lo hi).e7⟩,⟨⟨0,0,1⟩,(u9 lo hi).e8⟩,⟨⟨0,0,-1⟩,(u9 lo hi).f0⟩])=true :=
 Qc8 _ _ (by decide:5≤1000000)
theorem bd2 (lo hi:V3):[(⟨⟨1,0,0⟩,(u9 lo hi).c8⟩:Pln),⟨⟨-1,0,0⟩,(u9 lo hi).d8⟩,⟨⟨0,1,0⟩,(u9 lo hi).d9⟩,⟨⟨0,-1,0⟩,(u9 lo hi).e7⟩,⟨⟨0,0,1⟩,(u9 lo hi).e8⟩,⟨⟨0,0,-1⟩,(u9 lo hi).f0⟩]=vc3 lo hi:=rfl
theorem pc6 (x y:B6) (hx:wc4 x) (hy:wc4 y):Z2 x y=some (b true,[]):=by
 have hA:=Tc5 (crn hx.p0) (crn hx.p1) (crn hx.p2) (sde hy.p0) (sde hy.p1) (sde hy.p2)
 have hB:=Tc5 (crn hx.p3) (crn hx.p4) (crn hx.p5) (sde hy.p3) (sde hy.p4) (sde hy.p5)
 unfold Z2
 simp only[Qc9,Rc0,Tc6,Hc8,bd2]
 generalize W (W (Int.tmod x.c0 20) - 10)=a0 at *
 generalize W (W (Int.tmod x.c1 20) - 10)=a1 at *
 generalize W (W (Int.tmod x.c2 20) - 10)=a2 at *
 generalize W (W (Int.tmod x.c3 20) - 10)=a3 at *
 generalize W (W (Int.tmod x.c4 20) - 10)=a4 at *
 generalize W (W (Int.tmod x.c5 20) - 10)=a5 at *
 generalize G7 ⟨a0,a1,a2⟩ _=ha at *
 generalize G7 ⟨a3,a4,a5⟩ _=hb at *
 rw[ec3 hA,ec3 hB]
 have l:∀ {lo hi:V3},(bx lo hi).length≤1000000000:=fun {lo hi}=>(by decide:6≤1000000000)
 have l':∀ {lo hi:V3},(bx lo hi).length≤100000000:=fun {lo hi}=>(by decide:6≤100000000)
 have e1:=Xb2 hA hB
 have e2:=Tc3 hA hB
 have e3:=Tc4 hA
 simp only at e1 e2
 simp only[Ac1 l,Ac2 l,Qa6 l,Qa7 l,Ac4 l' l',Ac5 l' l',oc2 l l,oc3 l l,dd5 l,dd6 l,bd1 hA,rd0 hA,Tc2 hA,e1,e2,e3.1,e3.2,beq_self_eq_true,Bool.and_true,Bool.not_true,na5,Jc9,
  show (((8:Nat):Int) != 8)=false from rfl,show (((6:Nat):Int) != 6)=false from rfl]
 cases A0 a0 ha.x a3 hb.x<;>cases A0 a1 ha.y a4 hb.y<;>cases A0 a2 ha.z a5 hb.z<;>cases has (bx ⟨a3,a4,a5⟩ hb) ⟨a0,a1,a2⟩<;>cases has (bx ⟨a3,a4,a5⟩ hb) ha<;>rfl
theorem bd3 (x y:B6) (hx:wc4 x) (hy:wc4 y):ha5 x y=true:=by unfold ha5;rw[pc6 x y hx hy];rfl
theorem bd4 (x y:B6) (hx:wc4 x) (hy:wc4 y):ha6 x y=true:=by unfold ha6;rw[pc6 x y hx hy];rfl
end Go.Ev.Ce
namespace Go.Ev.Ce
open Go Go.Ev Go.Ev.L Go.ChangeShapes Go.RowKit
theorem Bc7 (g:Nat→Int) (h:∀ c,c < 6→0≤g c∧g c≤255):∃ a,Rdg (Ia3 tS) (.agg (Va6 .u8 6 g)) a∧wc4 a :=
 ⟨⟨g 0,g 1,g 2,g 3,g 4,g 5⟩,⟨rfl,rfl⟩,(h 0 (by omega)).1,(h 1 (by omega)).1,(h 2 (by omega)).1,(h 3 (by omega)).1,(h 4 (by omega)).1,(h 5 (by omega)).1⟩
theorem Bc8 {D : Type} {enc : TypeId × Value → D} {P : Program} {w : World} {base : Nat} {spare : Nat → Bool} {held : Bool} {ρ : Rho} {H : List a8} {F : Fz} {t e f : TypeId} {d : Nat} {v : Value} {dd : DataW D} {pp : List MemPlace} {bs : Nat} {r : Reach}
  (ht:P.underlying t=some (.array 2 f)) (he:P.underlying e=some (.int .u8)) (hts:P.cellTypes P.depth t=some [e,e,e,e,e,e]) (hf:R4 P d t=some (oa4 .u8 6)) (hes:P.cellsOf t=6)
  (hok:Value.okWide P w r bs t v) (h:DataW.Trod enc P w base spare held t v dd pp):∃ g:Nat→Int,(∀ c,c < 6→0≤g c∧g c≤255)∧S1 ρ H F w (.agg (Va6 .u8 6 g)) v:=by
 obtain⟨g,hv⟩:=ad9 (ρ:=ρ) (H:=H) (F:=F) (by simp[agT,ht]) hf hes hok h
 refine⟨g,fun c hc=>?_,hv⟩
 obtain⟨vs,e0,hl,hr⟩:=ha2 (.val hv)
 subst e0
 have hlen:vs.size=6:=by rw[← hl];simp[Va6]
 have hc':c < vs.size:=by omega
 have hg:(Va6 .u8 6 g)[c]?=some (.v (.int .u8 (g c))):=by
  unfold Va6
  rw[List.getElem?_map,List.getElem?_range hc]
  rfl
 have hx:=R5 (.val (.cell (hr c _ _ hg (Array.getElem?_eq_getElem hc'))))
 unfold Value.okWide at hok
 rw[ht] at hok
 obtain⟨cs,e1,hsz,ts,h1,h2,h3⟩:=hok
 injection e1 with e1
 subst e1
 rw[hts] at h1
 injection h1 with h1
 subst h1
 obtain⟨u,hu,hcell⟩:=h3 c _ (Array.getElem?_eq_getElem hc')
 rw[hx] at hcell
 have hue:u=e:=by
  have:c=0∨c=1∨c=2∨c=3∨c=4∨c=5:=by omega
  rcases this with rfl | rfl | rfl | rfl | rfl | rfl<;>simpa using hu.symm
 subst hue
 simp only[Cell.okWide,Cell.ok,he] at hcell
 have:=hcell.2
 simp only[IntKind.has,IntKind.min,IntKind.max,IntKind.bits,IntKind.signed] at this
 simp at this
 omega
end Go.Ev.Ce
