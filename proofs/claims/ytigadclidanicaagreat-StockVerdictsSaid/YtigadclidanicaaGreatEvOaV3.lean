/- Own work. -/
import Derived.Test.YtigadclidanicaaGreatEvOaV1
import Derived.ChangeStays
import Derived.ChangeSame
import Derived.OpenShut
import Derived.RowKit
set_option linter.all false
noncomputable section
def Qja:=@Int.le_of_lt
def Qjb:=@List.pairwise_cons
def Qjc:=@Int.mul_nonneg
def Qjd:=@Option.bind_eq_some_iff
def Qje:=@Int.natCast_dvd_natCast
def Qjf:=@Int.mul_le_mul_of_nonneg_right
def Qjg:=@Nat.gcd_dvd_right
def Qjh:=@Int.mul_pos
def Qji:=@Nat.gcd_dvd_left
def Qjj:=@Int.mul_eq_zero
def Qjk:=@Int.dvd_natAbs
def Qjl:=@Nat.dvd_trans
def Qjm:=@List.foldl_append
def Qjn:=@List.take_add_one
def Qjo:=@List.pairwise_singleton
def Qjp:=@List.length_filter_le
def Qjq:=@List.getElem?_range
def Qjr:=@Int.zero_mul
def Qjs:=@List.find?_eq_none
def Qjt:=@Go.Ev.L.Lo.okq
namespace Go.Ev.Ce
open Go Go.Ev Go.Ev.L Go.Proofs
set_option maxRecDepth 100000
structure Kb1 where
 (g9 m8:PLq)
def sd5:List (Nat×Sum):=[(28,hd8)]
theorem kd3:A4 prog G sd5:=⟨Vc8,trivial⟩
def Kb3{α:Type}(kk:la8->α)(x:Kb1):α:=let t1:=(Ob2 (rt tP x.m8) (rt tP x.g9));(sl (okE tP x.m8) (sl (okE tP x.g9) (sl (Ob3 (rt tP x.m8) (rt tP x.g9)) (kk ⟨1,!t1⟩) (kk ⟨0,false⟩)) (kk ⟨0,false⟩)) (kk ⟨0,false⟩))
def jb9(x:Kb1):la8:=Kb3 (λr=>r) x
def lc9(x:Kb1)(r:la8):DT (b7×List c7):=(Ma1 r.alt 1 (b r.bs0,[bq 0 1 [[eL tP x.m8]]]) .fail)
def xc5:Sum:=Sa6 ⟨[sLq tP,sPq 0],[⟨0,1,true,some [[.c 4 (nL tP)]]⟩],λa H=>(⟨aLq tP a 0,hLq tP H 0 0 0⟩,())⟩ (λx=>lc9 x (jb9 x))
theorem sd6:l8 prog G 62 xc5:=K3 (enc:=λx=>⟨[eL tP x.g9,.ptr 0 0 0 0],[bq 0 1 [[eL tP x.m8]]]⟩) (λa H=>by kernel_rfl) (bd b62 kd3) λx=>Fa0 (mEq @Kb3 (λr=>(lc9 x r).run) x)
structure sa4 where
 n7:LPq
 m8:PLq
def Ra4:List (Nat×Sum):=[(62,xc5)]
theorem Kb4:A4 prog G Ra4:=⟨sd6,trivial⟩
structure B6 where
 is8:Int
 m8:PLq
def Ja3(p:Q7)(s:B6):St:=⟨eL tLq p.n7::.fn 62 [.ptr 0 0 0 0]::ra 5 (i p.is7::i s.is8::ra 10 []),[bq 0 1 [[eL tP s.m8]]]⟩
def U9{α:Type}(k:B6->α)(e:Nat->α)(z:α)(p:Q7)(s:B6):α:=let t1:=(jb9 ⟨rt tP (gL tLq p.n7 s.is8.toNat),rt tP s.m8⟩);(sl (decide (s.is8<p.is7)) (sl (inB s.is8 (List.length p.n7)) (sl ((cnE tP (gL tLq p.n7 s.is8.toNat))&&((cnE tP s.m8)&&true)) (sl (Nat.beq t1.alt 1) (sl t1.bs0 (e 1) (k ⟨W (s.is8+1),rt tP s.m8⟩)) z) z) z) (e 2))
def M4(p:Q7)(s:B6):Stp B6:=U9 .next .exit .fail p s
def na4:Lo Q7 B6:=⟨En Ra4,1,ig4,[1,0,1,4,4],[0,1,7,8],.p,[⟨sLq tLq::.fn 62 [.o (.ptr 0 0 0 0)]::ru2 5 (sIq::sIq::ru2 10 []),[⟨0,1,true,some [[.c 4 (nL tP)]]⟩],λa H=>(⟨aLq tLq a 0,aIq a 7⟩,⟨aIq a 8,hLq tP H 0 0 0⟩)⟩],M4,[(none,λp s=>⟨[i s.is8],[bq 0 1 [[eL tP (rt tP s.m8)]]]⟩),(some 0,λp s=>upq (Ja3 p s) [(9,b (decide (s.is8<p.is7)))])],Ja3⟩
theorem Fb4:na4.Ok:=Qjt [] .nil λp s=>(.ofq @U9)
structure sa5 where
 alt:Nat
 is0:Int
 m8:PLq
def sa6{α:Type}(kk:sa5->α)(x:sa4):α:=let t1:=(lp (M4 (⟨rt tLq x.n7,(↑(List.length x.n7):Int)⟩:Q7)) (⟨0,rt tP x.m8⟩:B6));(sl ((cnE tLq x.n7)&&((cnE tP x.m8)&&true)) (sl (Nat.beq t1.1 1) (kk ⟨1,t1.2.is8,rt tP t1.2.m8⟩) (sl (Nat.beq t1.1 2) (kk ⟨1,-1,t1.2.m8⟩) (kk ⟨0,0,[]⟩))) (kk ⟨0,0,[]⟩))
def da3(x:sa4):sa5:=sa6 (λr=>r) x
def Ra5(x:sa4)(r:sa5):DT (b7×List c7):=(Ma1 r.alt 1 (i r.is0,[bq 0 1 [[eL tP r.m8]]]) .fail)
def Wa4:Sum:=Sa6 ⟨[sLq tLq,.fn 62 [.o (.ptr 0 0 0 0)]],[⟨0,1,true,some [[.c 4 (nL tP)]]⟩],λa H=>(⟨aLq tLq a 0,hLq tP H 0 0 0⟩,())⟩ (λx=>Ra5 x (da3 x))
theorem Ob8:l8 prog G 77 Wa4:=K3 (enc:=λx=>⟨[eL tLq x.n7,.fn 62 [.ptr 0 0 0 0]],[bq 0 1 [[eL tP x.m8]]]⟩) (λa H=>by kernel_rfl) (bd b77 Kb4) λx=>Q3 (.s .p (.s (.s .p (.b (.u na4.ls))) .p)) [na4.pr] (.cons Fb4 .nil) (mEq @sa6 (λr=>(Ra5 x r).run) x)
def zb7:List (Nat×Sum):=[(77,Wa4)]
theorem vb6:A4 prog G zb7:=⟨Ob8,trivial⟩
structure ja1 where
 alt:Nat
 bs0:Bool
 m8:PLq
def ja2{α:Type}(kk:ja1->α)(x:sa4):α:=let t1:=(da3 ⟨rt tLq x.n7,rt tP x.m8⟩);(sl ((cnE tLq x.n7)&&((cnE tP x.m8)&&true)) (sl (Nat.beq t1.alt 1) (kk ⟨1,decide (t1.is0>=0),t1.m8⟩) (kk ⟨0,false,[]⟩)) (kk ⟨0,false,[]⟩))
def ja3(x:sa4):ja1:=ja2 (λr=>r) x
def Ga4(x:sa4)(r:ja1):DT (b7×List c7):=(Ma1 r.alt 1 (b r.bs0,[bq 0 1 [[eL tP r.m8]]]) .fail)
def Ja4:Sum:=Sa6 ⟨[sLq tLq,.fn 62 [.o (.ptr 0 0 0 0)]],[⟨0,1,true,some [[.c 4 (nL tP)]]⟩],λa H=>(⟨aLq tLq a 0,hLq tP H 0 0 0⟩,())⟩ (λx=>Ga4 x (ja3 x))
theorem zb8:l8 prog G 61 Ja4:=K3 (enc:=λx=>⟨[eL tLq x.n7,.fn 62 [.ptr 0 0 0 0]],[bq 0 1 [[eL tP x.m8]]]⟩) (λa H=>by kernel_rfl) (bd b61 vb6) λx=>Fa0 (mEq @ja2 (λr=>(Ga4 x r).run) x)
def Pd7:List (Nat×Sum):=[(61,Ja4)]
theorem Cd2:A4 prog G Pd7:=⟨zb8,trivial⟩
def gb8(x:PLq)(y:LPq):ROq:=let t1:=(ja3 ⟨rt tLq y,rt tP x⟩);(sl ((cnE tLq y)&&((cnE tP x)&&true)) (sl (Nat.beq t1.alt 1) (some (b (!t1.bs0),[])) none) none)
def gb9(x:PLq)(y:LPq):Bool:=L9 (one r1B) (gb8 x y)
def hb5(x:PLq)(y:LPq):Bool:=okO (one r1B) (gb8 x y)
def gc1:Sum:=Z7 (M3 tP) (M3 tLq) (λx y=>.guard (hb5 x y) (.ret ((one r1B).enc (gb9 x y),[])))
theorem Vb1:l8 prog G 27 gc1:=Sb2 (bd b27 Cd2) (one r1B) (o:=gb8)
end Go.Ev.Ce
namespace Go.Ev
open Go Go.ChangeShapes Go.RowKit
structure Pd8(w w':World):Prop where
 os:w'.os=w.os
 output:w'.output=w.output
 size:w.heap.size<=w'.heap.size
 block:∀k,k<w.heap.size->w'.heap[k]?=w.heap[k]?
theorem Pd8.kept{w w':World}(h:Pd8 w w')(may:MemPlace->Prop):w.keptBut w' may:=by
 refine⟨h.os,h.output,λi hi=>?_⟩
 rw[h.block i hi]
 grind
theorem Pd8.frozen{w w':World}(h:Pd8 w w')(b off:Nat)(hb:b<w.heap.size):w'.frozen? ⟨b,off,none⟩=w.frozen? ⟨b,off,none⟩:=by
 simp only[World.frozen?,h.block b hb]
theorem Pd8.cell{w w':World}(h:Pd8 w w')(b off:Nat)(hb:b<w.heap.size):w'.cell? ⟨b,off,none⟩=w.cell? ⟨b,off,none⟩:=by
 simp only[World.cell?,h.block b hb]
theorem Pd8.same{w w':World}(h:Pd8 w w')(p:MemPlace)(hp:p.block<w.heap.size):w.sameAt w' p:=by
 cases p with
 |cell b off=>exact h.cell b off hp
 |map b=>exact h.block b hp
theorem Ic4{α β:Type}{f:α->Option β}:∀{l:List α} {r:List β},l.mapM f=some r->r.length=l.length/\∀(j:Nat) y,r[j]?=some y->∃x,l[j]?=some x/\f x=some y
 |[],r,h=>by
  simp_all
 |x::l,r,h=>by
  rw[List.mapM_cons] at h;obtain⟨y,h1,h2⟩:=Qjd.1 h;obtain⟨r',h3,h4⟩:=Qjd.1 h2
  have:r=y::r':=by simpa using h4.symm
  subst this;obtain⟨g1,g2⟩:=Ic4 h3
  grind
section
variable{D:Type}{enc:TypeId×Value->D}{P:Program}
theorem Wc2{T:TypeId->Prop}(K:Kids P T)(hsz:∀{t e:TypeId},T t->P.underlying t=some (.slice e)->0<P.cellsOf e){w w':World}{sp:Nat->Bool}(hs:Pd8 w w') :
  ∀{ts:List TypeId} {vs:List Value} {ds:List (DataW D)} {ps:List MemPlace},(∀t∈ts,T t)->DataW.TrodAll enc P w 0 (λ_=>true) true ts vs ds ps->(∀p∈ps,p.block<w.heap.size)->(∀p∈ps,sp p.block=true)->DataW.TrodAll enc P w' 0 sp true ts vs ds ps
 |[],[],[],_,_,h,_,_=>h
 |t::ts,v::vs,d::ds,ps,ht,h,hlt,hsp=>by
  obtain⟨p,q,⟨fuel,h1⟩,h2,rfl⟩:=h;refine⟨p,q,⟨fuel,?_⟩,Wc2 K hsz hs (λt h=>ht t (by simp[h])) h2 (λx hx=>hlt x (by simp[hx])) (λx hx=>hsp x (by simp[hx])),rfl⟩
  exact DataW.trod_stays K hsz (λh=>by cases h) (ht t (by simp)) h1 (λx hx=>hs.same x (hlt x (by simp at hx ⊢;exact .inl hx))) (λx hx=>hsp x (by simp at hx ⊢;exact .inl hx))
 |[],_::_,_,_,_,h,_,_=>h.elim
 |[],[],_::_,_,_,h,_,_=>h.elim
 |_::_,[],_,_,_,h,_,_=>h.elim
 |_::_,_::_,[],_,_,h,_,_=>h.elim
theorem Df8{T:TypeId->Prop}(K:Kids P T)(hsz:∀{t e:TypeId},T t->P.underlying t=some (.slice e)->0<P.cellsOf e){f:Func}{s:ChangeSpec}{apart fresh handsOn again:Bool}{W W':World}{args:Array Value}{ds gs:List (DataW D)}{before:List MemPlace}{tb:TypeId}
  (hT:∀t∈f.params.toList,T t) (hW:DataW.Whole enc P f.params.toList s.vars apart W args.toList ds gs before) (hv:s.vars=[]) (hr:f.resultTypes=#[tb]) (hb:P.underlying tb=some .bool)
  (h1:(s.fn D ds).results=[.lit (.bool true)]) (h2:(s.fn D ds).args=ds) (h3:(s.fn D ds).vars=[]) (hs:Pd8 W W') :
  s.post enc P f apart fresh handsOn again W args (.bool true) W':=by
 have hlt:=hW.lt;obtain⟨pa,pv,hA,hV,hps,hz,hn⟩:=id hW;rw[hv] at hV;have hpv:gs=[]/\pv=[]:=by
  cases gs with
  |nil=>exact⟨rfl,hV⟩
  |cons=>exact hV.elim
 obtain⟨rfl,rfl⟩:=hpv;rw[<- Qbu ds] at h1 h3;have h2:(s.fn D (ds++[])).args=ds:=by rw[Qbu];exact h2
 have hpa:before=pa:=by rw[hps];simp
 subst hpa;have hagain:∀sp:Nat->Bool,(∀p∈before,sp p.block=true)->DataW.TrodAll enc P W' 0 sp true f.params.toList args.toList ds before:=λsp h=>Wc2 K hsz hs hT hA hlt h
 have hres:∀(b:Nat) (sp:Nat->Bool) (hd:Bool),DataW.TrodAll enc P W' b sp hd f.resultTypes.toList ((Value.bool true).resultList f.resultTypes.size) [.lit (.bool true)] []:=λb sp hd=>by
  rw[hr];exact⟨[],[],⟨1,by simp[DataW.trod,hb,Value.cells,Value.resultList]⟩,rfl,rfl⟩
 have hvars:∀sp:Nat->Bool,DataW.TrodVars enc P W' sp s.vars ([]:List (DataW D)) []:=λsp=>by rw[hv];exact rfl
 have hok:∀(j:Nat) (t:TypeId) (r:Value),f.resultTypes[j]?=some t->((Value.bool true).resultList f.resultTypes.size)[j]?=some r->Value.okWide P W' .any 0 t r:=by
  rw[hr];intro j t r h4 h5;cases j with
  |zero =>
   simp at h4
   subst h4
   have:r=.bool true:=by simpa [Value.resultList] using h5.symm
   subst this;exact okWide_bool_mk hb _
  |succ j=>simp at h4
 have hag:DataW.TrodAll enc P W' 0 (λ_=>true) true (f.resultTypes.toList++f.params.toList) ((Value.bool true).resultList f.resultTypes.size++args.toList) (.lit (.bool true)::ds) before:=by
  have:=hagain (λ_=>true) (λ_ _=>rfl)
  rw[hr];exact⟨[],before,⟨1,by simp[DataW.trod,hb,Value.cells,Value.resultList]⟩,this,rfl⟩
 refine⟨ds,[],before,[],before,[],hW,?_,?_,?_,hs.kept _,λ_=>?_⟩
 ·rw[h1];exact hres _ _ _
 ·grind
 ·rw[h3];exact hvars _
 ·refine⟨hok,.lit (.bool true)::ds,[],before,⟨before,[],hag,hvars _,by simp,?_,?_⟩,?_⟩
  ·intro b off hp;rw[hs.frozen b off (hlt _ hp)];exact hz b off (by simpa using hp)
  ·omega
  ·intro p hp _;exact hp
variable{w:World}{base:Nat}{spare:Nat->Bool}{held:Bool}
def Ie7(w:World):Fz:=λb o=>(w.cell? ⟨b,o,none⟩).isSome
theorem lg1{fuel:Nat}{t:TypeId}{k:IntKind}{cs:List Value}{x:DataW D×List MemPlace}(ht:P.underlying t=some (.int k))(h:DataW.trod enc P w base spare held fuel t cs=some x) :
  ∃n,cs=[.int k n]/\(Lit.int k n).wf=true/\x.1=.lit (.int k n):=by
 cases fuel with
 |zero=>cases h
 |succ fuel =>
  match cs,h with
  |[],h=>simp[DataW.trod,ht] at h
  |[v],h =>
   cases v with
   |int k' n =>
    simp only[DataW.trod,ht] at h
    grind
   |_=>simp[DataW.trod,ht] at h
  |a::b::r,h=>simp[DataW.trod,ht] at h
theorem Sf0{fuel:Nat}{t:TypeId}{cs:List Value}{x:DataW D×List MemPlace}(ht:P.underlying t=some .bool)(h:DataW.trod enc P w base spare held fuel t cs=some x) :
  ∃n,cs=[.bool n]/\x.1=.lit (.bool n):=by
 cases fuel with
 |zero=>cases h
 |succ fuel =>
  match cs,h with
  |[],h=>simp[DataW.trod,ht] at h
  |[v],h =>
   cases v with
   |bool n =>
    simp only[DataW.trod,ht] at h
    grind
   |_=>simp[DataW.trod,ht] at h
  |a::b::r,h=>simp[DataW.trod,ht] at h
theorem Ie8{fuel:Nat}{t e:TypeId}{n:Nat}{cs:List Value}{x:DataW D×List MemPlace}(ht:P.underlying t=some (.array n e))(h:DataW.trod enc P w base spare held fuel t cs=some x) :
  cs.length=P.cellsOf t/\∃(fuel':Nat) (xs:List (DataW D×List MemPlace)),xs.length=n/\x.1=.agg (xs.map (·.1))/\∀(j:Nat) y,xs[j]?=some y->DataW.trod enc P w base spare held fuel' e ((cs.drop (j*P.cellsOf e)).take (P.cellsOf e))=some y:=by
 cases fuel with
 |zero=>cases h
 |succ fuel =>
  unfold DataW.trod at h;rw[ht] at h
  simp only at h
  split at h
  ·rename_i hl;obtain⟨xs,h1,h2⟩:=Qbm.1 h;have hx:=Ic4 h1;exact⟨hl,fuel,xs,by simpa using hx.1,by rw[<- h2],λj y hy=>by
    obtain⟨a,ha,hb⟩:=hx.2 j y hy
    have:j<n:=by
     have:=(Qab.1 hy).1
     rw[hx.1] at this;simpa using this
    rw[Qjq this] at ha;injection ha with ha;subst ha;exact hb⟩
  ·cases h
theorem je0{fuel:Nat}{t:TypeId}{fs:Array Field}{cs:List Value}{x:DataW D×List MemPlace}(ht:P.underlying t=some (.struct fs))(h:DataW.trod enc P w base spare held fuel t cs=some x) :
  cs.length=P.cellsOf t/\∃(fuel':Nat) (xs:List (DataW D×List MemPlace)),xs.length=fs.size/\x.1=.agg (xs.map (·.1))/\∀(j:Nat) f,fs[j]?=some f->∃y,xs[j]?=some y/\DataW.trod enc P w base spare held fuel' f.type ((cs.drop f.offset).take (P.cellsOf f.type))=some y:=by
 cases fuel with
 |zero=>cases h
 |succ fuel =>
  unfold DataW.trod at h;rw[ht] at h
  simp only at h
  split at h
  ·rename_i hl;obtain⟨xs,h1,h2⟩:=Qbm.1 h;have hx:=Ic4 h1;refine⟨hl,fuel,xs,by simpa using hx.1,by rw[<- h2],λj f hf=>?_⟩
   grind
  ·cases h
theorem Df9{fuel:Nat}{t e:TypeId}{cs:List Value}{x:DataW D×List MemPlace}(ht:P.underlying t=some (.slice e))(h:DataW.trod enc P w base spare held fuel t cs=some x) :
  cs=[.slice none 0 0]\/∃(a:Addr) (n cap fuel':Nat),cs=[.slice (some a) n cap]/\n<=cap/\cap<=maxLen/\∀j,j<n->∃row y,w.cells? base (a.add (j*P.cellsOf e)) (P.cellsOf e)=some row/\DataW.trod enc P w base spare held fuel' e row=some y:=by
 cases fuel with
 |zero=>cases h
 |succ fuel =>
  match cs,h with
  |[],h=>simp[DataW.trod,ht] at h
  |[v],h =>
   cases v with
   |slice a len cap =>
    cases a with
    |none =>
     simp only[DataW.trod,ht] at h
     grind
    |some a =>
     refine .inr ?_;simp only[DataW.trod,ht] at h
     split at h
     ·rename_i hc;obtain⟨elems,h1,h2⟩:=Qjd.1 h;have hx:=Ic4 h1;refine⟨a,len,cap,fuel,rfl,hc.2.1,hc.2.2,λj hj=>?_⟩
      have hj':j<elems.length:=by rw[hx.1];simpa using hj
      obtain⟨i,hi,hb⟩:=hx.2 j _ (Qaa hj');rw[Qjq hj] at hi;injection hi with hi;subst hi;obtain⟨row,r1,r2⟩:=Qjd.1 hb;exact⟨row,_,r1,r2⟩
     ·cases h
   |_=>simp[DataW.trod,ht] at h
  |a::b::r,h=>simp[DataW.trod,ht] at h
theorem df9:∀(d:Nat) (t:TypeId) (l:List (Nat×CK)),ka2 P d t=some l->∀(fuel:Nat) (cs:List Value) (x:DataW D×List MemPlace),DataW.trod enc P w base spare held fuel t cs=some x->∀p∈l,ab0 cs.toArray p
 |0,_,_,h,_,_,_,_=>by cases h
 |d+1,t,l,h,fuel,cs,x,hx=>by
  have hpart:∀{off n:Nat} {e:TypeId} {l':List (Nat×CK)} {fuel':Nat} {y:DataW D×List MemPlace},Cc6 off n (ka2 P d e)=some l'->DataW.trod enc P w base spare held fuel' e ((cs.drop off).take n)=some y->∀p∈l',ab0 cs.toArray p:=λ{off n e l' fuel' y} h1 h2 p hp=>by
   obtain⟨l2,g1,g2,rfl⟩:=mb4 h1;obtain⟨q,hq,rfl⟩:=Qbq.1 hp
   have:=df9 d e l2 g1 fuel' _ y h2 q hq
   have hlt:=g2 q hq;unfold ab0 at this ⊢;simp only[List.getElem?_toArray,Qap,hlt,if_true,Qbg] at this ⊢;exact this
  have hcat:∀{α:Type} (f:α->Option (List (Nat×CK))) (xs:List α) (l:List (Nat×CK)),Ba9 (xs.map f)=some l->∀p∈l,∃a∈xs,∃l',f a=some l'/\p∈l':=λ{α} f xs=>by
   induction xs with
   |nil=>intro l h;simp only[List.map_nil,Ba9] at h;injection h with h;subst h;simp
   |cons a xs ih =>
    intro l h p hp;simp only[Qbp,Ba9] at h;cases h1:f a with
    |none=>simp[h1] at h
    |some l1 =>
    cases h2:Ba9 (xs.map f) with
    |none=>simp[h1,h2] at h
    |some l2 =>
    simp only[h1,h2] at h;injection h with h;subst h
    rcases Qis.1 hp with hp|hp
    ·exact⟨a,by simp,l1,h1,hp⟩
    ·obtain⟨b,hb,r⟩:=ih l2 h2 p hp;exact⟨b,by simp[hb],r⟩
  unfold ka2 at h;cases hu:P.underlying t with
  |none=>simp[hu] at h
  |some u =>
  cases u with
  |int k =>
   simp only[hu] at h;injection h with h;subst h
   obtain⟨n,rfl,_,_⟩:=lg1 hu hx;intro p hp;simp at hp;subst hp;exact⟨n,rfl⟩
  |bool =>
   simp only[hu] at h;injection h with h;subst h
   obtain⟨n,rfl,_⟩:=Sf0 hu hx;intro p hp;simp at hp;subst hp;exact⟨n,rfl⟩
  |struct fs =>
   simp only[hu] at h
   split at h
   ·cases h
   obtain⟨_,fuel',xs,_,_,hxs⟩:=je0 hu hx;intro p hp;obtain⟨f,hf,l',h1,h2⟩:=hcat _ _ _ h p hp
   split at h1
   ·cases h1
   obtain⟨j,hj⟩:=List.getElem?_of_mem hf;obtain⟨y,_,hy⟩:=hxs j f (by simpa using hj)
   have hc:P.cellsOf f.type=szT P f.type:=by
    unfold Program.cellsOf szT
    grind
   grind
  |array n e =>
   simp only[hu] at h
   split at h
   case isFalse=>cases h
   obtain⟨_,fuel',xs,hn,_,hxs⟩:=Ie8 hu hx;intro p hp;obtain⟨j,hj,l',h1,h2⟩:=hcat _ _ _ h p hp;have hj':j<xs.length:=by rw[hn];simpa using hj
   have hy:=hxs j _ (Qaa hj');have hc:P.cellsOf e=szT P e:=by
    unfold Program.cellsOf szT;cases P.info? e<;>rfl
   grind
  |_=>simp[hu] at h
def Ic5(k:IntKind)(es:Nat)(g:Nat->Int):List b7:=(List.range es).map λc=>.v (.int k (g c))
def db9(k:IntKind)(es:Nat):List (Nat×CK):=(List.range es).map λc=>(c,.int k)
theorem ef0{d:Nat}{t:TypeId}{k:IntKind}{es:Nat}(hf:ka2 P d t=some (db9 k es)){fuel:Nat}{cs:List Value}{x:DataW D×List MemPlace}(hx:DataW.trod enc P w base spare held fuel t cs=some x)(hl:cs.length=es) :
  ∃g:Nat->Int,∀c,c<es->cs[c]?=some (.int k (g c)):=by
 have h:=df9 d t _ hf fuel cs x hx;have h':∀c,∃n:Int,c<es->cs[c]?=some (.int k n):=λc=>by
  by_cases hc:c<es
  ·have:=h (c,.int k) (Qbq.2 ⟨c,by simpa using hc,rfl⟩)
   obtain⟨n,hn⟩:=this;exact⟨n,λ_=>by simpa using hn⟩
  ·exact⟨0,λh=>absurd h hc⟩
 exact⟨λc=>Classical.choose (h' c),λc hc=>Classical.choose_spec (h' c) hc⟩
theorem Ie9{F:Fz}{w:World}(k:IntKind)(n:Int):fa8 F w (.v (.int k n)) (.int k n):=.v _ rfl
theorem Pd9{k:IntKind}{es:Nat}{g:Nat->Int}{c:Nat}{x:b7}(h:(Ic5 k es g)[c]?=some x):c<es/\x=.v (.int k (g c)):=by
 unfold Ic5 at h
 grind
theorem of8(w:World):J0 (λk=>w.heap.size<=k) (λ_=>⟨0,0,0⟩) [] (Ie7 w) w :=
 ⟨λid b h=>by simp at h,λid id' b b' h=>by simp at h,λ_ _ h=>h,λ_ h=>h⟩
theorem of9{G:Nat->List Value}{f:FuncId}{S:Sum}(hS:l8 P G f S){aargs:List b7}{args:List Value}(hrun:∃out,(S aargs []).run=some (b true,out))(hl:aargs.length=args.length)
  (ha:∀(i:Nat) x x',aargs[i]?=some x->args[i]?=some x'->ra2 (λ_=>⟨0,0,0⟩) [] (Ie7 w) w x x') (hG:∀g (c:Nat) x,(G g)[c]?=some x->x.oneCell'=true/\w.cell? ⟨g,c,none⟩=some x) :
  Calls P f args.toArray w λe w'=>e=.returned (.bool true)/\Pd8 w w':=by
 obtain⟨out,hrun⟩:=hrun;obtain⟨_,hc⟩:=hS aargs [] (b true) out hrun (λk=>w.heap.size<=k) (λ_=>⟨0,0,0⟩) (Ie7 w) w args (of8 w) hl (λi x x' h1 h2=>.val (ha i x x' h1 h2)) (λg c x hx=>by
  obtain⟨h1,h2⟩:=hG g c x hx;exact⟨h1,by unfold Ie7;rw[h2];rfl,h2⟩)
 refine hc.mono λe w' ⟨r',he,ρ',F',hA,hH,hW⟩=>?_
 have:=fa0 hW
 subst this;exact⟨he,hA.ext.os,hA.ext.output,hA.ext.size,λk hk=>hA.ext.block k hk (by omega)⟩
end
end Go.Ev
namespace Go.Ev.L
open Go Go.Ev
def Rdg{α:Type}(c:Cod α)(x:b7)(a:α):Prop:=c.dec x=some a/\c.grd x=true
section
variable{α β γ δ ε:Type}{c:Cod α}{d:Cod β}{e:Cod γ}{f:Cod δ}{c5:Cod ε}{x y z w v:b7}{a:α}{b':β}{g:γ}{j:δ}{m:ε}{r:b7×List c7}
theorem Mg9{k:α->DT (b7×List c7)}(h1:Rdg c x a)(h:(k a).run=some r):(S7 c k [x] []).run=some r:=by
 unfold S7;simp only[h1.1,h1.2];exact h
end
theorem lg2{g p:Bool}(hg:g=true)(hp:p=true):(DT.guard g (.ret ((one r1B).enc p,([]:List c7)))).run=some (b true,([]:List c7)):=by subst hg;subst hp;rfl
def zg7:Value->ByteArray
 |.string s=>s
 |_=>⟨#[]⟩
def Fb5(H H':List c7):Prop:=∀id g,(blkAt H id g).map (λb=>(b.es,b.elems))=(blkAt H' id g).map (λb=>(b.es,b.elems))
theorem Fb5.refl(H:List c7):Fb5 H H:=λ_ _=>rfl
theorem Fb5.disown(H:List c7)(id:Nat):Fb5 (disown H id) H:=λj g=>by
 rw[fd0];cases blkAt H j g with
 |none=>rfl
 |some b =>
  grind
theorem Fb5.trans{H1 H2 H3:List c7}(h:Fb5 H1 H2)(k:Fb5 H2 H3):Fb5 H1 H3:=λid g=>(h id g).trans (k id g)
theorem Fb5.symm{H1 H2:List c7}(h:Fb5 H1 H2):Fb5 H2 H1:=λid g=>(h id g).symm
theorem Cd3{H H':List c7}(h:Fb5 H H')(x:b7):(freezeCell H x).map (·.1)=(freezeCell H' x).map (·.1)/\∀y H1 H1',freezeCell H x=some (y,H1)->freezeCell H' x=some (y,H1')->Fb5 H1 H1':=by
 cases x with
 |v u =>
  simp only[freezeCell]
  grind
 |tree es n get =>
  refine⟨rfl,λy H1 H1' e e'=>?_⟩
  injection e with e;injection e with _ e;injection e' with e';injection e' with _ e'
  subst e e';exact h
 |fn f caps =>
  simp only[freezeCell]
  grind
 |sl id off n g =>
  simp only[freezeCell];have hb:=h id g;cases h1:blkAt H id g with
  |none =>
   grind
  |some b =>
   cases h2:blkAt H' id g with
   |none=>rw[h1,h2] at hb;cases hb
   |some b' =>
    rw[h1,h2] at hb;simp only[Option.map_some] at hb;injection hb with hb;injection hb with e1 e2
    refine⟨by simp only[Option.map_some,oc4,e1,e2],λy H1 H1' e e'=>?_⟩
    injection e with e;injection e with _ e;injection e' with e';injection e' with _ e'
    subst e e';exact (Fb5.disown H id).trans (h.trans (Fb5.disown H' id).symm)
 |_=>exact⟨rfl,λy H1 H1' e=>by cases e⟩
theorem mc0:∀(cs:List b7) {H H':List c7},Fb5 H H'->(freezeCells H cs).map (·.1)=(freezeCells H' cs).map (·.1)
 |[],H,H',h=>rfl
 |x::r,H,H',h=>by
  obtain⟨h1,h2⟩:=Cd3 h x;simp only[freezeCells];cases e1:freezeCell H x with
  |none =>
   grind
  |some p =>
   cases e2:freezeCell H' x with
   |none=>rw[e1,e2] at h1;cases h1
   |some q =>
    rw[e1,e2] at h1;obtain⟨y,H1⟩:=p;obtain⟨y',H1'⟩:=q;simp only[Option.map_some] at h1;injection h1 with h1;subst h1
    have:=mc0 r (h2 _ _ _ e1 e2)
    grind
theorem Qd0{H H':List c7}{x y:b7}(h:freezeCell H x=some (y,H')):Dis H H':=by
 cases x with
 |v u =>
  simp only[freezeCell] at h;cases hu:zd9 u with
  |true=>rw[hu] at h;injection h with h;injection h with _ h;subst h;exact .refl
  |false=>rw[hu] at h;cases h
 |tree es n get=>injection h with h;injection h with _ h;subst h;exact .refl
 |fn f caps =>
  simp only[freezeCell] at h;cases hu:Za6 cd1 caps with
  |true=>rw[hu] at h;injection h with h;injection h with _ h;subst h;exact .refl
  |false=>rw[hu] at h;cases h
 |sl id off n g =>
  simp only[freezeCell] at h;cases h1:blkAt H id g with
  |none=>rw[h1] at h;cases h
  |some b=>rw[h1] at h;injection h with h;injection h with _ h;subst h;exact .step id .refl
 |_=>cases h
theorem Dis.app{H H1 H2:List c7}(h:Dis H H1)(k:Dis H1 H2):Dis H H2:=by
 induction k with
 |refl=>exact h
 |step id _ ih=>exact .step id ih
theorem xc6:∀{cs l:List b7} {H H':List c7},freezeCells H cs=some (l,H')->Dis H H'
 |[],l,H,H',h=>by
  injection h with h;injection h with _ h;subst h;exact .refl
 |x::r,l,H,H',h=>by
  simp only[freezeCells] at h;cases e1:freezeCell H x with
  |none=>rw[e1] at h;cases h
  |some p =>
   obtain⟨y,H1⟩:=p;rw[e1] at h
   simp only at h
   cases e2:freezeCells H1 r with
   |none=>rw[e2] at h;cases h
   |some q =>
    obtain⟨l2,H2⟩:=q;rw[e2] at h
    simp only at h
    injection h with h;injection h with _ h;subst h
    exact (Qd0 e1).app (xc6 e2)
section
variable{α:Type}(t:Ty α)
def r1S:R1 α where
 enc x:=.agg (t.row x)
 rd H x:=match x with
  |.agg cs=>Option.rec (motive:=λ_=>Option α) none (λp=>Bool.rec (motive:=λ_=>Option α) none (some (t.rd p)) (t.ok p)) ((freezeCells H cs).map (·.1))
  |_=>none
 d:=t.d
 le H x r h:=by
  split at h
  ·rename_i cs;cases hf:freezeCells H cs with
   |none=>rw[hf] at h;cases h
   |some q =>
    obtain⟨l,H'⟩:=q;rw[hf] at h;simp only[Option.map_some] at h;cases hb:t.ok l with
    |false=>rw[hb] at h;cases h
    |true =>
     rw[hb] at h;have h:some (t.rd l)=some r:=h;injection h with h;subst h;have h3:=t.h3 l hb;refine⟨.agg l,H',by simp only[Ja6,hf],xc6 hf,λρ' H2 F w v hv=>?_⟩
     obtain⟨vs,rfl,hl,hr⟩:=Ja5 (.val hv);refine .agg _ _ (by rw[<- h3.length];exact hl) λi y v' hy hv'=>?_
     obtain⟨x,hx,hle⟩:=h3.get i y hy;exact hle.c _ _ _ _ _ (hr i x v' hx hv')
  ·cases h
 dis H id x:=by
  cases x with
  |agg cs=>simp only[mc0 cs (Fb5.disown H id)]
  |_=>rfl
def Qd1(es:Nat):b7->Bool
 |.tree e _ _=>Nat.beq e es
 |.v (.slice none 0 0)=>true
 |_=>false
def lg3(sh:List b7->Bool):Cod α where
 enc x:=.agg (t.row x)
 dec x:=match x with
  |.agg cs=>Bool.rec (motive:=λ_=>Option α) none (some (t.rd cs)) (sh cs)
  |_=>none
 grd x:=match x with
  |.agg cs=>t.ok cs
  |_=>false
 ok x a hx hg:=by
  split at hx
  ·rename_i cs;cases hb:sh cs with
   |false=>rw[hb] at hx;cases hx
   |true =>
    rw[hb] at hx;have hx:some (t.rd cs)=some a:=hx;injection hx with hx;subst hx;have h3:=t.h3 cs hg;intro ρ H F w v hv;obtain⟨vs,rfl,hl,hr⟩:=Ja5 hv;refine .val (.agg _ _ (by rw[<- h3.length];exact hl) λi y v' hy hv'=>?_)
    obtain⟨x,hx,hle⟩:=h3.get i y hy;exact hle.c _ _ _ _ _ (hr i x v' hx hv')
  ·cases hx
end
end Go.Ev.L
namespace Go.Ev.Ce
open Go Go.Ev Go.Ev.L Go.Proofs
theorem hd1{x y:b7}(h:Ec2 [x] [y]):CLe x y:=by cases h with | cons h _=>exact h
structure Prt where
 nm:ByteArray
 cl:LPq
 wt:List Int
def ag6:List b7->Bool
 |[.v (.string _),x1,x2]=>Bool.and (tMq.ok [x1]) (Bool.and ((tLs tI).ok [x2]) (true))
 |_=>false
def tJ:Ty Prt where
 es:=3
 row x:=[.v (.string x.nm),eL tLq x.cl,eL tI x.wt]
 rd r:=⟨zg7 (toV (hdA r)),rL tLq (hdA (tlA r)),rL tI (hdA (tlA (tlA r)))⟩
 ok:=ag6
 cks:=[.any,.sl 1,.sl 1]
 d:=⟨⟨#[]⟩,[],[]⟩
 h0 _:=rfl
 h1 x:=by
  show Prt.mk x.nm (rL tLq (eL tLq x.cl)) (rL tI (eL tI x.wt))=x;rw[show rL tLq (eL tLq x.cl)=x.cl from l9 tLq x.cl,show rL tI (eL tI x.wt)=x.wt from l9 tI x.wt]
 h2 x:=by
  show Bool.and (tMq.ok (tMq.row x.cl)) (Bool.and ((tLs tI).ok ((tLs tI).row x.wt)) (true))=true;rw[tMq.h2 x.cl,(tLs tI).h2 x.wt];rfl
 h3 r h:=by
  unfold ag6 at h
  split at h
  ·rename_i _ x1 x2;simp only[Qas] at h;obtain⟨h1,h2,_⟩:=h;have c1:=tMq.h3 _ h1;have c2:=(tLs tI).h3 _ h2;exact .cons (.refl _) (.cons (hd1 c1) (.cons (hd1 c2) (.nil)))
  ·cases h
 h4 _:=rfl
 h5 _:=rfl
def r1J:R1 Prt:=r1S tJ
structure Pce where
 su:List Bool
 to:List Bool
 cu:LPq
def ag7:List b7->Bool
 |[x0,x1,x2]=>Bool.and ((tLs tB).ok [x0]) (Bool.and ((tLs tB).ok [x1]) (Bool.and (tMq.ok [x2]) (true)))
 |_=>false
def tO:Ty Pce where
 es:=3
 row x:=[eL tB x.su,eL tB x.to,eL tLq x.cu]
 rd r:=⟨rL tB (hdA r),rL tB (hdA (tlA r)),rL tLq (hdA (tlA (tlA r)))⟩
 ok:=ag7
 cks:=[.sl 1,.sl 1,.sl 1]
 d:=⟨[],[],[]⟩
 h0 _:=rfl
 h1 x:=by
  show Pce.mk (rL tB (eL tB x.su)) (rL tB (eL tB x.to)) (rL tLq (eL tLq x.cu))=x;rw[show rL tB (eL tB x.su)=x.su from l9 tB x.su,show rL tB (eL tB x.to)=x.to from l9 tB x.to,show rL tLq (eL tLq x.cu)=x.cu from l9 tLq x.cu]
 h2 x:=by
  show Bool.and ((tLs tB).ok ((tLs tB).row x.su)) (Bool.and ((tLs tB).ok ((tLs tB).row x.to)) (Bool.and (tMq.ok (tMq.row x.cu)) (true)))=true;rw[(tLs tB).h2 x.su,(tLs tB).h2 x.to,tMq.h2 x.cu];rfl
 h3 r h:=by
  unfold ag7 at h
  split at h
  ·rename_i x0 x1 x2;simp only[Qas] at h;obtain⟨h0,h1,h2,_⟩:=h;have c0:=(tLs tB).h3 _ h0;have c1:=(tLs tB).h3 _ h1;have c2:=tMq.h3 _ h2;exact .cons (hd1 c0) (.cons (hd1 c1) (.cons (hd1 c2) (.nil)))
  ·cases h
 h4 _:=rfl
 h5 _:=rfl
def r1O:R1 Pce:=r1S tO
structure Cse where
 p0:List Int
 p1:List Int
 c0:List (List Int)
 c1:List (List Int)
 t0:List (List Int)
 t1:List (List Int)
 q0:Int
 q1:Int
 q2:Int
 q3:Int
 q4:Int
 q5:Int
def ef1:List b7->Bool
 |[x0,x1,x2,x3,x4,x5,.v (.int .i64 _),.v (.int .i64 _),.v (.int .i64 _),.v (.int .i64 _),.v (.int .i64 _),.v (.int .i64 _)]=>Bool.and ((tLs tI).ok [x0]) (Bool.and ((tLs tI).ok [x1]) (Bool.and ((tLs (tLs tI)).ok [x2]) (Bool.and ((tLs (tLs tI)).ok [x3]) (Bool.and ((tLs (tLs tI)).ok [x4]) (Bool.and ((tLs (tLs tI)).ok [x5]) (true))))))
 |_=>false
def tF:Ty Cse where
 es:=12
 row x:=[eL tI x.p0,eL tI x.p1,eL (tLs tI) x.c0,eL (tLs tI) x.c1,eL (tLs tI) x.t0,eL (tLs tI) x.t1,i x.q0,i x.q1,i x.q2,i x.q3,i x.q4,i x.q5]
 rd r:=⟨rL tI (hdA r),rL tI (hdA (tlA r)),rL (tLs tI) (hdA (tlA (tlA r))),rL (tLs tI) (hdA (tlA (tlA (tlA r)))),rL (tLs tI) (hdA (tlA (tlA (tlA (tlA r))))),rL (tLs tI) (hdA (tlA (tlA (tlA (tlA (tlA r)))))),toI (hdA (tlA (tlA (tlA (tlA (tlA (tlA r))))))),toI (hdA (tlA (tlA (tlA (tlA (tlA (tlA (tlA r)))))))),toI (hdA (tlA (tlA (tlA (tlA (tlA (tlA (tlA (tlA r))))))))),toI (hdA (tlA (tlA (tlA (tlA (tlA (tlA (tlA (tlA (tlA r)))))))))),toI (hdA (tlA (tlA (tlA (tlA (tlA (tlA (tlA (tlA (tlA (tlA r))))))))))),toI (hdA (tlA (tlA (tlA (tlA (tlA (tlA (tlA (tlA (tlA (tlA (tlA r))))))))))))⟩
 ok:=ef1
 cks:=[.sl 1,.sl 1,.sl 1,.sl 1,.sl 1,.sl 1,.int .i64,.int .i64,.int .i64,.int .i64,.int .i64,.int .i64]
 d:=⟨[],[],[],[],[],[],0,0,0,0,0,0⟩
 h0 _:=rfl
 h1 x:=by
  show Cse.mk (rL tI (eL tI x.p0)) (rL tI (eL tI x.p1)) (rL (tLs tI) (eL (tLs tI) x.c0)) (rL (tLs tI) (eL (tLs tI) x.c1)) (rL (tLs tI) (eL (tLs tI) x.t0)) (rL (tLs tI) (eL (tLs tI) x.t1)) x.q0 x.q1 x.q2 x.q3 x.q4 x.q5=x;rw[show rL tI (eL tI x.p0)=x.p0 from l9 tI x.p0,show rL tI (eL tI x.p1)=x.p1 from l9 tI x.p1,show rL (tLs tI) (eL (tLs tI) x.c0)=x.c0 from l9 (tLs tI) x.c0,show rL (tLs tI) (eL (tLs tI) x.c1)=x.c1 from l9 (tLs tI) x.c1,show rL (tLs tI) (eL (tLs tI) x.t0)=x.t0 from l9 (tLs tI) x.t0,show rL (tLs tI) (eL (tLs tI) x.t1)=x.t1 from l9 (tLs tI) x.t1]
 h2 x:=by
  show Bool.and ((tLs tI).ok ((tLs tI).row x.p0)) (Bool.and ((tLs tI).ok ((tLs tI).row x.p1)) (Bool.and ((tLs (tLs tI)).ok ((tLs (tLs tI)).row x.c0)) (Bool.and ((tLs (tLs tI)).ok ((tLs (tLs tI)).row x.c1)) (Bool.and ((tLs (tLs tI)).ok ((tLs (tLs tI)).row x.t0)) (Bool.and ((tLs (tLs tI)).ok ((tLs (tLs tI)).row x.t1)) (true))))))=true;rw[(tLs tI).h2 x.p0,(tLs tI).h2 x.p1,(tLs (tLs tI)).h2 x.c0,(tLs (tLs tI)).h2 x.c1,(tLs (tLs tI)).h2 x.t0,(tLs (tLs tI)).h2 x.t1];rfl
 h3 r h:=by
  unfold ef1 at h
  split at h
  ·rename_i x0 x1 x2 x3 x4 x5 _ _ _ _ _ _;simp only[Qas] at h;obtain⟨h0,h1,h2,h3,h4,h5,_⟩:=h;have c0:=(tLs tI).h3 _ h0;have c1:=(tLs tI).h3 _ h1;have c2:=(tLs (tLs tI)).h3 _ h2;have c3:=(tLs (tLs tI)).h3 _ h3;have c4:=(tLs (tLs tI)).h3 _ h4;have c5:=(tLs (tLs tI)).h3 _ h5;exact .cons (hd1 c0) (.cons (hd1 c1) (.cons (hd1 c2) (.cons (hd1 c3) (.cons (hd1 c4) (.cons (hd1 c5) (.cons (.refl _) (.cons (.refl _) (.cons (.refl _) (.cons (.refl _) (.cons (.refl _) (.cons (.refl _) (.nil))))))))))))
  ·cases h
 h4 _:=rfl
 h5 _:=rfl
def zg8:List b7->Bool
 |[.v (.string _),x1,x2]=>Bool.and (Qd1 1 x1) (Bool.and (Qd1 1 x2) (true))
 |_=>false
def cJ:Cod Prt:=lg3 tJ zg8
def zg9:List b7->Bool
 |[x0,x1,x2]=>Bool.and (Qd1 1 x0) (Bool.and (Qd1 1 x1) (Bool.and (Qd1 1 x2) (true)))
 |_=>false
def cO:Cod Pce:=lg3 tO zg9
def ef2:List b7->Bool
 |[x0,x1,x2,x3,x4,x5,.v (.int .i64 _),.v (.int .i64 _),.v (.int .i64 _),.v (.int .i64 _),.v (.int .i64 _),.v (.int .i64 _)]=>Bool.and (Qd1 1 x0) (Bool.and (Qd1 1 x1) (Bool.and (Qd1 1 x2) (Bool.and (Qd1 1 x3) (Bool.and (Qd1 1 x4) (Bool.and (Qd1 1 x5) (true))))))
 |_=>false
def cF:Cod Cse:=lg3 tF ef2
structure LL where
 u:List Int
 v:List Int
structure L2 where
 u:List Int
 v:List Int
def c2L:Cod L2 where
 enc z:=eL (tLs tI) [z.u,z.v]
 dec x:=match (M3 (tLs tI)).dec x with
  |some [u,v]=>some ⟨u,v⟩
  |_=>none
 grd x:=(M3 (tLs tI)).grd x
 ok x a hx hg:=by
  split at hx
  ·rename_i u v h;injection hx with hx;subst hx;exact (M3 (tLs tI)).ok x [u,v] h hg
  ·cases hx
set_option maxRecDepth 100000
def Na9(x:Int):ROq:=(sl (decide (x<1)) (some (b true,[])) (some (b (decide (x>3)),[])))
def kb0(x:Int):Bool:=L9 (one r1B) (Na9 x)
def kb1(x:Int):Bool:=okO (one r1B) (Na9 x)
def xc7:Sum:=S7 cI (λx=>.guard (kb1 x) (.ret ((one r1B).enc (kb0 x),[])))
theorem sd7:l8 prog G 37 xc7:=Sa7 (bd b37 ya0) (one r1B) (o:=Na9)
structure Ga5 where
 oc2:List Int
def hb6:List (Nat×Sum):=[(37,xc7)]
theorem Yb1:A4 prog G hb6:=⟨sd7,trivial⟩
structure V5 where
 oc2:List Int
 is7:Int
def Wa5(p:V5)(s:B8):St:=⟨eL tI p.oc2::.fn 37 []::ra 5 (i p.is7::i s.is8::ra 10 []),[]⟩
def ba1{α:Type}(k:B8->α)(e:Nat->α)(z:α)(p:V5)(s:B8):α:=let t1:=(kb0 (gL tI p.oc2 s.is8.toNat));(sl (decide (s.is8<p.is7)) (sl (inB s.is8 (List.length p.oc2)) (sl (kb1 (gL tI p.oc2 s.is8.toNat)) (sl t1 (e 1) (k ⟨W (s.is8+1)⟩)) z) z) (e 2))
def T2(p:V5)(s:B8):Stp B8:=ba1 .next .exit .fail p s
def wa4:Lo V5 B8:=⟨En hb6,0,ig2,[1,0,1,4,4],[0,1,7,8],.p,[⟨sLq tI::.s (.o (.fn 37))::ru2 5 (sIq::sIq::ru2 10 []),[],λa H=>(⟨aLq tI a 0,aIq a 7⟩,⟨aIq a 8⟩)⟩],T2,[(none,λp s=>⟨[i s.is8],[]⟩),(some 0,λp s=>upq (Wa5 p s) [(9,b (decide (s.is8<p.is7)))])],Wa5⟩
theorem Vb2:wa4.Ok:=Qjt [] .nil λp s=>(.ofq @ba1)
def Ga7{α:Type}(kk:ta8->α)(x:Ga5):α:=let t1:=(lp (T2 (⟨rt tI x.oc2,(↑(List.length x.oc2):Int)⟩:V5)) (⟨0⟩:B8));(sl ((cnE tI x.oc2)&&true) (sl (Nat.beq t1.1 1) (kk ⟨1,t1.2.is8⟩) (sl (Nat.beq t1.1 2) (kk ⟨1,-1⟩) (kk ⟨0,0⟩))) (kk ⟨0,0⟩))
def la2(x:Ga5):ta8:=Ga7 (λr=>r) x
def hb7(x:Ga5)(r:ta8):DT (b7×List c7):=(Ma1 r.alt 1 (i r.is0,[]) .fail)
def nb7:Sum:=Sa6 ⟨[sLq tI,.s (.o (.fn 37))],[],λa H=>(⟨aLq tI a 0⟩,())⟩ (λx=>hb7 x (la2 x))
theorem gc2:l8 prog G 69 nb7:=K3 (enc:=λx=>⟨[eL tI x.oc2,.fn 37 []],[]⟩) (λa H=>by kernel_rfl) (bd b69 Yb1) λx=>Q3 (.s .p (.s (.s .p (.b (.u wa4.ls))) .p)) [wa4.pr] (.cons Vb2 .nil) (mEq @Ga7 (λr=>(hb7 x r).run) x)
def Ob9:List (Nat×Sum):=[(69,nb7)]
theorem Kb5:A4 prog G Ob9:=⟨gc2,trivial⟩
def sa9{α:Type}(kk:la8->α)(x:Ga5):α:=let t1:=(la2 ⟨rt tI x.oc2⟩);(sl ((cnE tI x.oc2)&&true) (sl (Nat.beq t1.alt 1) (kk ⟨1,decide (t1.is0>=0)⟩) (kk ⟨0,false⟩)) (kk ⟨0,false⟩))
def da4(x:Ga5):la8:=sa9 (λr=>r) x
def Ra6(x:Ga5)(r:la8):DT (b7×List c7):=(Ma1 r.alt 1 (b r.bs0,[]) .fail)
def Wa6:Sum:=Sa6 ⟨[sLq tI,.s (.o (.fn 37))],[],λa H=>(⟨aLq tI a 0⟩,())⟩ (λx=>Ra6 x (da4 x))
theorem Pb0:l8 prog G 38 Wa6:=K3 (enc:=λx=>⟨[eL tI x.oc2,.fn 37 []],[]⟩) (λa H=>by kernel_rfl) (bd b38 Kb5) λx=>Fa0 (mEq @sa9 (λr=>(Ra6 x r).run) x)
def Ic6:List (Nat×Sum):=[(38,Wa6),(39,Eb5),(27,gc1)]
theorem Cd4:A4 prog G Ic6:=⟨Pb0,sb4,Vb1,trivial⟩
structure Oa0 where
 xe3:LPq
 pg1:Int
 D4:ByteArray
 b8:LPq
 o6:List Int
structure Y9 where
 Tc6:Int
def mc1(p:Oa0)(s:Y9):St:=⟨.unk::.ptr 0 0 0 0::ra 28 (eL tLq p.xe3::i p.pg1::i s.Tc6::ra 17 []),[bq 0 3 [[.v (.string p.D4),eL tLq p.b8,eL tI p.o6]]]⟩
def Ra7{α:Type}(k:Y9->α)(e:Nat->α)(z:α)(p:Oa0)(s:Y9):α:=let y1:=(s.Tc6.toNat-0);let y0:=(gL tLq p.xe3 s.Tc6.toNat);let t1:=(Va1 (rt tP y0));let t2:=(gb9 (rt tP y0) (lsL tLq y1 (λk=>(λk=>(tLq).row (gL tLq p.b8 k)) (0+k))));(sl (decide (s.Tc6<p.pg1)) (sl (inB s.Tc6 (List.length p.xe3)) (sl (okE tP y0) (sl (Va2 (rt tP y0)) (sl (!t1) (e 1) (sl (inB s.Tc6 ((List.length p.b8)+1)) (sl (okE tP y0) (sl (okL tLq y1 (λk=>(λk=>(tLq).row (gL tLq p.b8 k)) (0+k))) (sl (hb5 (rt tP y0) (lsL tLq y1 (λk=>(λk=>(tLq).row (gL tLq p.b8 k)) (0+k)))) (sl (!t2) (e 1) (k ⟨W (s.Tc6+1)⟩)) z) z) z) z)) z) z) z) (e 2))
def ra3(p:Oa0)(s:Y9):Stp Y9:=Ra7 .next .exit .fail p s
def Kb6:Lo Oa0 Y9:=⟨En Ic6,0,hg5,[1,1,1,1,0,1,4,4],[1,30,31,32],.p,[⟨sUq::sPq 0::ru2 28 (sLq tLq::sIq::sIq::ru2 17 []),[⟨0,3,true,some [[.o .val,.c 1 (nL tLq),.c 1 (nL tI)]]⟩],λa H=>(⟨aLq tLq a 30,aIq a 31,Sa1 (slT (rwT (elT H 0) 0) 0),hLq tLq H 0 0 1,hLq tI H 0 0 2⟩,⟨aIq a 32⟩)⟩],ra3,[(none,λp s=>⟨[i 13],[]⟩),(some 1,λp s=>upq (mc1 p s) [(33,b (decide (s.Tc6<p.pg1)))])],mc1⟩
theorem sd8:Kb6.Ok:=Qjt [] .nil λp s=>(.ofq @Ra7)
def hb8(x:Prt):ROq:=let y0:=(↑(List.length x.cl):Int);let t1:=(da4 ⟨rt tI x.wt⟩);let t2:=(lp (ra3 (⟨rt tLq x.cl,y0,x.nm,rt tLq x.cl,rt tI x.wt⟩:Oa0)) (⟨0⟩:Y9));(sl (y0==0) (some (i 2,[])) (sl (decide (y0>16)) (some (i 2,[])) (sl ((↑(List.length x.wt):Int) != y0) (some (i 1,[])) (sl ((cnE tI x.wt)&&true) (sl (Nat.beq t1.alt 1) (sl t1.bs0 (some (i 1,[])) (sl ((cnE tLq x.cl)&&((cnE tLq x.cl)&&((cnE tI x.wt)&&true))) (sl (Nat.beq t2.1 1) (some (i 13,[])) (sl (Nat.beq t2.1 2) (some (i 0,[])) none)) none)) none) none))))
def Cb0(x:Prt):Int:=L9 (one r1I) (hb8 x)
def Cb1(x:Prt):Bool:=okO (one r1I) (hb8 x)
def Wc3:Sum:=S7 cJ (λx=>.guard (Cb1 x) (.ret ((one r1I).enc (Cb0 x),[])))
theorem Qd2:l8 prog G 12 Wc3:=Sc3 (bd b12 Cd4) (one r1I) (o:=hb8) λx=>Q3 (.s .p (.s .p (.s .p (.s .p (.s (.s .p (.b (.u Kb6.ls))) .p))))) [Kb6.pr] (.cons sd8 .nil)
def mc2:List (Nat×Sum):=[(73,rc4)]
theorem kd4:A4 prog G mc2:=⟨ec8,trivial⟩
structure za4 where
 Bb2:LPq
 is7:Int
def Vb3(p:za4)(s:B8):St:=⟨ra 6 (eL tLq p.Bb2::i p.is7::i s.is8::ra 9 []),[]⟩
def Ea1{α:Type}(k:B8->α)(e:Nat->α)(z:α)(p:za4)(s:B8):α:=let y0:=(gL tLq p.Bb2 s.is8.toNat);let t1:=(Ka3 (rt tP y0));(sl (decide (s.is8<p.is7)) (sl (inB s.is8 (List.length p.Bb2)) (sl (okE tP y0) (sl (rb7 (rt tP y0)) (sl (t1 != 0) (e 1) (k ⟨W (s.is8+1)⟩)) z) z) z) (e 2))
def ta0(p:za4)(s:B8):Stp B8:=Ea1 .next .exit .fail p s
def tb8:Lo za4 B8:=⟨En mc2,0,hg8,[1,0,1,4,4],[6,7,8],.p,[⟨ru2 6 (sLq tLq::sIq::sIq::ru2 9 []),[],λa H=>(⟨aLq tLq a 6,aIq a 7⟩,⟨aIq a 8⟩)⟩],ta0,[(none,λp s=>let t1:=(Ka3 (rt tP (gL tLq p.Bb2 s.is8.toNat)));⟨[i t1],[]⟩),(some 0,λp s=>upq (Vb3 p s) [(9,b (decide (s.is8<p.is7)))])],Vb3⟩
theorem ad3:tb8.Ok:=Qjt [] .nil λp s=>(.ofq @Ea1)
def Oa1(x:LPq):ROq:=let t1:=(lp (ta0 (⟨rt tLq x,(↑(List.length x):Int)⟩:za4)) (⟨0⟩:B8));let t2:=(Ka3 (rt tP (gL tLq (rt tLq x) t1.2.is8.toNat)));(sl ((cnE tLq x)&&true) (sl (Nat.beq t1.1 1) (some (i t2,[])) (sl (Nat.beq t1.1 2) (some (i 0,[])) none)) none)
def kb2(x:LPq):Int:=L9 (one r1I) (Oa1 x)
def kb3(x:LPq):Bool:=okO (one r1I) (Oa1 x)
def xc8:Sum:=S7 (M3 tLq) (λx=>.guard (kb3 x) (.ret ((one r1I).enc (kb2 x),[])))
theorem sd9:l8 prog G 45 xc8:=Sc3 (bd b45 kd4) (one r1I) (o:=Oa1) λx=>Q3 (.s .p (.s (.s .p (.b (.u tb8.ls))) .p)) [tb8.pr] (.cons ad3 .nil)
def Cd5:List (Nat×Sum):=[(12,Wc3),(45,xc8)]
theorem td0:A4 prog G Cd5:=⟨Qd2,sd9,trivial⟩
def Wa7(x:Prt)(y:Pce):ROq:=let y0:=(⟨x.nm,rt tLq x.cl,rt tI x.wt⟩:Prt);let t1:=(Cb0 y0);let t2:=(kb2 (rt tLq y.cu));(sl ((okE tLq x.cl)&&((okE tI x.wt)&&true)) (sl (Cb1 y0) (sl (t1 != 0) (some (i t1,[])) (sl ((↑(List.length y.su):Int) != (↑(List.length x.cl):Int)) (some (i 4,[])) (sl ((↑(List.length y.to):Int) != (↑(List.length x.cl):Int)) (some (i 4,[])) (sl (decide ((↑(List.length y.cu):Int)>24)) (some (i 4,[])) (sl (okE tLq y.cu) (sl (kb3 (rt tLq y.cu)) (sl (t2 != 0) (some (i 4,[])) (some (i 0,[]))) none) none))))) none) none)
def Wa8(x:Prt)(y:Pce):Int:=L9 (one r1I) (Wa7 x y)
def Wa9(x:Prt)(y:Pce):Bool:=okO (one r1I) (Wa7 x y)
def Vb4:Sum:=Z7 cJ cO (λx y=>.guard (Wa9 x y) (.ret ((one r1I).enc (Wa8 x y),[])))
theorem xc9:l8 prog G 44 Vb4:=Sb2 (bd b44 td0) (one r1I) (o:=Wa7)
def Ic7:List (Nat×Sum):=[(40,yb6),(121,gd6),(92,qc2),(122,he3)]
theorem te6:A4 prog G Ic7:=⟨Db0,Wd3,Fc7,Ue4,trivial⟩
structure pa8 where
 g9:PLq
 Z5:List Pt
 is5:Int
 cc9:PLq
structure V0 where
 ph:Nat
 (is6 is7:Int)
def Ic8(p:pa8)(s:V0):St:=⟨eL tP p.g9::.unk::.unk::eL tX p.Z5::nlq::i p.is5::i s.is6::i s.is7::ra 38 [],[]⟩
def Ic9(p:pa8)(s:V0):St:=⟨eL tP p.g9::.unk::.unk::eL tX p.Z5::eL tP p.cc9::i p.is5::i s.is6::i s.is7::ra 38 [],[]⟩
def Yd7(p:pa8)(s:V0):St:=(sel (Nat.beq s.ph 1) (Ic9 p s) (Ic8 p s))
def Ga8{α:Type}(k:V0->α)(e:Nat->α)(z:α)(p:pa8)(s:V0):α:=let t1:=(lb8 (gL tP p.g9 p.is5.toNat) (gL tX p.Z5 s.is7.toNat));(sl (decide (s.is7<(↑(List.length p.Z5):Int))) (sl (inB p.is5 (List.length p.g9)) (sl (inB s.is7 (List.length p.Z5)) (sl (t1==0) (k ⟨0,W (s.is6+1),W (s.is7+1)⟩) (k ⟨0,s.is6,W (s.is7+1)⟩)) z) z) (e 1))
def Ga9{α:Type}(k:V0->α)(e:Nat->α)(z:α)(p:pa8)(s:V0):α:=let t1:=(lb8 (gL tP p.g9 p.is5.toNat) (gL tX p.Z5 s.is7.toNat));(sl (decide (s.is7<(↑(List.length p.Z5):Int))) (sl (inB p.is5 (List.length p.g9)) (sl (inB s.is7 (List.length p.Z5)) (sl (t1==0) (k ⟨1,W (s.is6+1),W (s.is7+1)⟩) (k ⟨1,s.is6,W (s.is7+1)⟩)) z) z) (e 2))
def hb9(p:pa8)(s:V0):Stp V0:=(sel (Nat.beq s.ph 1) (Ga9 .next .exit .fail p s) (Ga8 .next .exit .fail p s))
def tc0:Lo pa8 V0:=⟨En Ic7,0,ig5,[1,1,1,1,0,1,4,4,1,0,4,1,0,1,4,4],[0,3,4,5,6,7],.p,[⟨sLq tP::sUq::sUq::sLq tX::.s (.o .nil)::sIq::sIq::sIq::ru2 38 [],[],λa H=>(⟨aLq tP a 0,aLq tX a 3,aIq a 5,[]⟩,⟨0,aIq a 6,aIq a 7⟩)⟩,⟨sLq tP::sUq::sUq::sLq tX::sLq tP::sIq::sIq::sIq::ru2 38 [],[],λa H=>(⟨aLq tP a 0,aLq tX a 3,aIq a 5,aLq tP a 4⟩,⟨1,aIq a 6,aIq a 7⟩)⟩],hb9,[(some 2,λp s=>upq (Ic8 p s) [(19,i s.is7),(20,eL tX p.Z5),(21,i (↑(List.length p.Z5):Int)),(22,b (decide (s.is7<(↑(List.length p.Z5):Int))))]),(some 2,λp s=>upq (Ic9 p s) [(19,i s.is7),(20,eL tX p.Z5),(21,i (↑(List.length p.Z5):Int)),(22,b (decide (s.is7<(↑(List.length p.Z5):Int))))])],Yd7⟩
theorem Yd8:tc0.Ok:=Qjt [] .nil λp s=>(.sel (Nat.beq s.ph 1) (.ofq @Ga9) (.ofq @Ga8))
structure N9 where
 ph:Nat
 g9:PLq
 Z5:List Pt
 is5:Int
 cc9:PLq
def Jc0(p:Sa8)(s:N9):St:=⟨eL tP s.g9::.unk::.unk::eL tX s.Z5::nlq::i s.is5::ra 40 [],[]⟩
def Jc1(p:Sa8)(s:N9):St:=⟨eL tP s.g9::.unk::.unk::eL tX s.Z5::eL tP s.cc9::i s.is5::ra 40 [],[]⟩
def Yd9(p:Sa8)(s:N9):St:=(sel (Nat.beq s.ph 1) (Jc1 p s) (Jc0 p s))
def Ha0{α:Type}(k:N9->α)(e:Nat->α)(z:α)(p:Sa8)(s:N9):α:=let y1:=(inB s.is5 (List.length (rt tP s.g9)));let y0:=(gL tP (rt tP s.g9) s.is5.toNat);let t1:=(lp (hb9 (⟨rt tP s.g9,rt tX s.Z5,s.is5,[]⟩:pa8)) (⟨0,0,0⟩:V0));let t2:=(Qb3 [] y0);let t3:=(Qb3 (rt tP []) y0);(sl (decide (s.is5<(↑(List.length s.g9):Int))) (sl ((cnE tP s.g9)&&((cnE tX s.Z5)&&true)) (sl (Nat.beq t1.1 1) (sl (decide (t1.2.is6>=3)) (sl y1 (sl (Qb4 [] y0) (k ⟨1,rt tP s.g9,rt tX s.Z5,W (s.is5+1),t2⟩) z) z) (k ⟨0,rt tP s.g9,rt tX s.Z5,W (s.is5+1),[]⟩)) (sl (Nat.beq t1.1 2) (sl (decide (t1.2.is6>=3)) (sl y1 (sl (okE tP []) (sl (Qb4 (rt tP []) y0) (k ⟨1,rt tP s.g9,rt tX s.Z5,W (s.is5+1),t3⟩) z) z) z) (k ⟨1,rt tP s.g9,rt tX s.Z5,W (s.is5+1),[]⟩)) z)) z) (e 1))
def Ha1{α:Type}(k:N9->α)(e:Nat->α)(z:α)(p:Sa8)(s:N9):α:=let y1:=(inB s.is5 (List.length (rt tP s.g9)));let y0:=(gL tP (rt tP s.g9) s.is5.toNat);let t1:=(lp (hb9 (⟨rt tP s.g9,rt tX s.Z5,s.is5,rt tP s.cc9⟩:pa8)) (⟨1,0,0⟩:V0));let t2:=(Qb3 [] y0);let t3:=(Qb3 (rt tP (rt tP s.cc9)) y0);(sl (decide (s.is5<(↑(List.length s.g9):Int))) (sl ((cnE tP s.g9)&&((cnE tX s.Z5)&&((cnE tP s.cc9)&&true))) (sl (Nat.beq t1.1 1) (sl (decide (t1.2.is6>=3)) (sl y1 (sl (Qb4 [] y0) (k ⟨1,rt tP s.g9,rt tX s.Z5,W (s.is5+1),t2⟩) z) z) (k ⟨0,rt tP s.g9,rt tX s.Z5,W (s.is5+1),[]⟩)) (sl (Nat.beq t1.1 2) (sl (decide (t1.2.is6>=3)) (sl y1 (sl (okE tP (rt tP s.cc9)) (sl (Qb4 (rt tP (rt tP s.cc9)) y0) (k ⟨1,rt tP s.g9,rt tX s.Z5,W (s.is5+1),t3⟩) z) z) z) (k ⟨1,rt tP s.g9,rt tX s.Z5,W (s.is5+1),rt tP s.cc9⟩)) z)) z) (e 2))
def Cb2(p:Sa8)(s:N9):Stp N9:=(sel (Nat.beq s.ph 1) (Ha1 .next .exit .fail p s) (Ha0 .next .exit .fail p s))
def tc1:Lo Sa8 N9:=⟨En Ic7,0,ig5,[1,1,1,1,0,1,4,4],[0,3,4,5],.s .p (.s (.b (.s .p (.s (.s .p (.b (.u tc0.ls))) .p))) .p),[⟨sLq tP::sUq::sUq::sLq tX::.s (.o .nil)::sIq::ru2 40 [],[],λa H=>(⟨⟩,⟨0,aLq tP a 0,aLq tX a 3,aIq a 5,[]⟩)⟩,⟨sLq tP::sUq::sUq::sLq tX::sLq tP::sIq::ru2 40 [],[],λa H=>(⟨⟩,⟨1,aLq tP a 0,aLq tX a 3,aIq a 5,aLq tP a 4⟩)⟩],Cb2,[(some 0,λp s=>upq (Jc0 p s) [(13,i s.is5),(14,eL tP s.g9),(15,i (↑(List.length s.g9):Int)),(16,b (decide (s.is5<(↑(List.length s.g9):Int))))]),(some 0,λp s=>upq (Jc1 p s) [(13,i s.is5),(14,eL tP s.g9),(15,i (↑(List.length s.g9):Int)),(16,b (decide (s.is5<(↑(List.length s.g9):Int))))])],Yd9⟩
theorem Zd0:tc1.Ok:=Qjt [tc0.pr] (.cons Yd8 .nil) λp s=>(.sel (Nat.beq s.ph 1) (.ofq @Ha1) (.ofq @Ha0))
def Vb5(x:PLq):ROq:=let t1:=(Ka0 (rt tP x));let t2:=(Nb2 (rt tP x));let t3:=(lp (Cb2 (⟨⟩:Sa8)) (⟨0,rt tP x,rt tX t2,0,[]⟩:N9));(sl (okE tP x) (sl (Ka1 (rt tP x)) (sl (!t1) (some (nlq,[])) (sl (okE tP x) (sl (Nb3 (rt tP x)) (sl ((cnE tP x)&&((cnE tX t2)&&true)) (sl (Nat.beq t3.1 1) (some (nlq,[])) (sl (Nat.beq t3.1 2) (some (eL tP t3.2.cc9,[])) none)) none) none) none)) none) none)
def ta1(x:PLq):PLq:=L9 (one (r1L tP)) (Vb5 x)
def ta2(x:PLq):Bool:=okO (one (r1L tP)) (Vb5 x)
def tc2:Sum:=S7 (M3 tP) (λx=>.guard (ta2 x) (.ret ((one (r1L tP)).enc (ta1 x),[])))
theorem Jc2:l8 prog G 97 tc2:=Sc3 (bd b97 te6) (one (r1L tP)) (o:=Vb5) λx=>Q3 (.s .p (.s .p (.s .p (.s .p (.s (.s .p (.b (.u tc1.ls))) .p))))) [tc1.pr] (.cons Zd0 .nil)
theorem Sf1(p q:Pln):Da0 p q=some (i (va9 p q),[]):=by
 have key:∃t s,lp (P6 ⟨p.n.x,p.n.y,p.n.z,p.b,q.n.x,q.n.y,q.n.z,q.b⟩) ⟨0⟩=(t,s)/\((t=1/\va9 p q=-1)\/(t=2/\va9 p q=1)\/(t=3/\va9 p q=0)):=by
  refine da0 (step:=P6 ⟨p.n.x,p.n.y,p.n.z,p.b,q.n.x,q.n.y,q.n.z,q.b⟩) (mk:=λj (_:Unit)=>(⟨(j:Int)⟩:Y8)) 4
   (λj _=>(1<=j->p.n.x=q.n.x)/\(2<=j->p.n.y=q.n.y)/\(3<=j->p.n.z=q.n.z)/\(4<=j->p.b=q.b))
   (λt s=>(t=1/\va9 p q=-1)\/(t=2/\va9 p q=1)\/(t=3/\va9 p q=0)) (by omega) (λj x hj hI=>?_) (λj x hj hI=>?_) 0 () ⟨by omega,by omega,by omega,by omega⟩
  ·have hn:=A5 hj (show 4<=4611686018427387904 by omega)
   simp only[P6,la0,Int.toNat_natCast,hn];have hlt:(j:Int)<4:=by omega
   have hin:=l0 hj;have g:∀x1 x2 x3 x4:Int,((Nat.ble ((0+(j*1))+1) 4)&&(ka1 [CK.int .i64] (s9 [i x1,i x2,i x3,i x4] (0+(j*1)))))=true:=by
    intro x1 x2 x3 x4
    match j,hj with
    |0,_=>rfl
    |1,_=>rfl
    |2,_=>rfl
    |3,_=>rfl
   rw[btD hlt];simp only[hin,g,g7];obtain⟨i1,i2,i3,i4⟩:=hI
   match j,hj with
   |0,_ =>
    show Nx (sl (decide (p.n.x<q.n.x)) _ (sl (decide (p.n.x>q.n.x)) _ _)) _ _;refine Nx.sl (λh=>.ex ?_) λh=>Nx.sl (λh'=>.ex ?_) λh'=>.nx ⟨(),rfl,?_⟩<;>simp only[decide_eq_true_eq,decide_eq_false_iff_not] at h
    ·left;exact⟨rfl,by simp[va9,Ub5,h]⟩
    ·right;left;simp only[decide_eq_true_eq] at h';exact⟨rfl,by simp[va9,Ub5,h,h']⟩
    ·simp only[decide_eq_false_iff_not] at h';exact⟨by omega,by omega,by omega,by omega⟩
   |1,_ =>
    have j1:=i1 (by omega)
    show Nx (sl (decide (p.n.y<q.n.y)) _ (sl (decide (p.n.y>q.n.y)) _ _)) _ _;refine Nx.sl (λh=>.ex ?_) λh=>Nx.sl (λh'=>.ex ?_) λh'=>.nx ⟨(),rfl,?_⟩<;>simp only[decide_eq_true_eq,decide_eq_false_iff_not] at h
    ·left;exact⟨rfl,by simp[va9,Ub5,h,j1]⟩
    ·right;left;simp only[decide_eq_true_eq] at h';exact⟨rfl,by simp[va9,Ub5,h,h',j1]⟩
    ·simp only[decide_eq_false_iff_not] at h';exact⟨λ_=>j1,by omega,by omega,by omega⟩
   |2,_ =>
    have j1:=i1 (by omega);have j2:=i2 (by omega)
    show Nx (sl (decide (p.n.z<q.n.z)) _ (sl (decide (p.n.z>q.n.z)) _ _)) _ _;refine Nx.sl (λh=>.ex ?_) λh=>Nx.sl (λh'=>.ex ?_) λh'=>.nx ⟨(),rfl,?_⟩<;>simp only[decide_eq_true_eq,decide_eq_false_iff_not] at h
    ·left;exact⟨rfl,by simp[va9,Ub5,h,j1,j2]⟩
    ·right;left;simp only[decide_eq_true_eq] at h';exact⟨rfl,by simp[va9,Ub5,h,h',j1,j2]⟩
    ·simp only[decide_eq_false_iff_not] at h';exact⟨λ_=>j1,λ_=>j2,by omega,by omega⟩
   |3,_ =>
    have j1:=i1 (by omega);have j2:=i2 (by omega);have j3:=i3 (by omega)
    show Nx (sl (decide (p.b<q.b)) _ (sl (decide (p.b>q.b)) _ _)) _ _;refine Nx.sl (λh=>.ex ?_) λh=>Nx.sl (λh'=>.ex ?_) λh'=>.nx ⟨(),rfl,?_⟩<;>simp only[decide_eq_true_eq,decide_eq_false_iff_not] at h
    ·left;exact⟨rfl,by simp[va9,Ub5,h,j1,j2,j3]⟩
    ·right;left;simp only[decide_eq_true_eq] at h';exact⟨rfl,by simp[va9,Ub5,h,h',j1,j2,j3]⟩
    ·simp only[decide_eq_false_iff_not] at h';exact⟨λ_=>j1,λ_=>j2,λ_=>j3,by omega⟩
  ·simp only[P6,la0];rw[bfD (by omega)]
   obtain⟨i1,i2,i3,i4⟩:=hI;have j1:=i1 (by omega);have j2:=i2 (by omega);have j3:=i3 (by omega);have j4:=i4 (by omega)
   exact⟨_,rfl,.inr (.inr ⟨rfl,by simp[va9,Ub5,j1,j2,j3,j4]⟩)⟩
 obtain⟨t,s,h1,h2⟩:=key;unfold Da0
 simp only
 rw[h1]
 rcases h2 with⟨rfl,e⟩|⟨rfl,e⟩|⟨rfl,e⟩<;>rw[e]<;>rfl
theorem lg4(p q:Pln):gb3 p q=va9 p q:=by unfold gb3;rw[Sf1];rfl
def atP(x:PLq)(y:Pln):Nat:=x.findIdx λp=>!decide (va9 p y<0)
def ins(x:PLq)(y:Pln):PLq:=if (atP x y<x.length/\eqP (gL tP x (atP x y)) y=true) then x else Ie1 x y (atP x y)
theorem Qd3(x:PLq)(y:Pln)(hx:x.length<=1000000):Rd (one (r1L tP)) (lc5 x y) (λr=>r=ins x y):=by
 have h:=jb8 (step:=ab6 ⟨x,y.n.x,y.n.y,y.n.z,y.b⟩) (mk:=λj=>(⟨(j:Int)⟩:Ja9)) (c:=λp=>!decide (va9 p y<0)) (u:=1) (fin:=2) tP x (by omega)
  (λj hj=>by
   simp only[ab6,Bb9,Int.toNat_natCast,kg4,lg4,A5 hj (show x.length<=4611686018427387904 by omega)]
   rw[btD (n8 hj),bt (l0 hj),g7];show sl (decide (va9 (gL tP x j) y<0)) _ _=_;cases decide (va9 (gL tP x j) y<0)<;>rfl)
  (by simp only[ab6,Bb9];rw[bfD (w8 (Qie _))]) 0 (Qbv _)
 rw[Qic] at h;have key:∃t,lp (ab6 ⟨x,y.n.x,y.n.y,y.n.z,y.b⟩) ⟨0⟩=(t,⟨((atP x y:Nat):Int)⟩)/\(t=1\/t=2):=by
  rw[show (⟨0⟩:Ja9)=⟨((0:Nat):Int)⟩ from rfl,h]
  split
  ·exact⟨1,by rw[Qar];rfl,.inl rfl⟩
  ·rename_i hn;refine⟨2,?_,.inr rfl⟩
   have:atP x y=x.length:=by
    unfold atP;rw[List.findIdx_eq_length];intro p hp;cases hb:(!decide (va9 p y<0)) with
    |false=>rfl
    |true=>exact absurd (Qiad.2 ⟨p,hp,hb⟩) hn
   rw[this]
 obtain⟨t,h1,h2⟩:=key;have h3:atP x y<=x.length:=List.findIdx_le_length;have hdef:ins x y=if (atP x y<x.length/\eqP (gL tP x (atP x y)) y=true) then x else Ie1 x y (atP x y):=rfl
 generalize atP x y=n at *
 have hlo:inB (n:Int) (x.length+1)=true:=l0 (by omega)
 have hd:(bL tP (x.take n)).length=n:=by rw[<- z6,J2,Qia];omega
 have hlen:(Ie1 x y n).length=x.length+1:=by unfold Ie1;simp only[Qdc,List.length_cons,Qia,Qib];omega
 have lt:len (bL tP (x.take n))=n:=by rw[z6];exact hd
 have ld:len (bL tP (x.drop n))=x.length-n:=by rw[J2,Qib]
 have b1:(Nat.beq 1 1&&Nat.ble ((1+(x.length-n))*32) room)=true:=by rw[Ea0 (by omega)];rfl
 have b2:(Nat.beq 0 0&&Nat.ble ((0+n)*32) room)=true:=by rw[Ea0 (by omega)];rfl
 have e0:app [] (bL tP (x.take n))=bL tP (x.take n):=rfl;have b3:(Nat.beq (0+n) n&&Nat.ble (((0+n)+1)*32) room)=true:=by rw[Ea0 (by omega),Qar,Qim];rfl
 have l3:len (bL tP (x.take n++[y]))=n+1:=by rw[J2,Qdc,Qia];simp only[List.length_singleton];omega
 have b4:(Nat.beq ((0+n)+1) (n+1)&&Nat.ble ((((0+n)+1)+(x.length-n))*32) room)=true:=by rw[Ea0 (by omega),Qar,Qim];rfl
 have z0:∀{k:Nat},Nat.beq k 0=true->k=0:=λ{k} h=>Qad h
 have fin:ins x y=Ie1 x y n->∀m r,m=x.length+1->r=bL tP (Ie1 x y n)->Rd (one (r1L tP)) (some (.sl 0 0 m 0,[⟨66,4,r,true,false,0⟩])) (λr=>r=ins x y) :=
  λhq m r hm hr=>Ic3 (by rw[hlen];exact hm) hr hq.symm
 have tail:ins x y=Ie1 x y n->Rd (one (r1L tP)) (some (.sl 0 0 (((0+n)+1)+(x.length-n)) 0,[⟨66,4,app (bL tP (x.take n++[y])) (bL tP (x.drop n)),true,false,0⟩])) (λr=>r=ins x y):=λhq=>by
  refine fin hq _ _ (by omega) ?_
  rw[ra4];unfold Ie1;rw[Qio];rfl
 unfold lc5;simp only[l9,s7];rw[h1];simp only[Int.toNat_natCast,Ve1 x n h3,Ve2,lt,ld,b1,b2,e0,b3,jd3,l3,b4,hlo,g7];have main:Rd (one (r1L tP)) (sl (decide ((n:Int)<(x.length:Int))) (sl (inB (n:Int) x.length) (sl (((gL tP x n).n.x==y.n.x)&&(((gL tP x n).n.y==y.n.y)&&(((gL tP x n).n.z==y.n.z)&&(((gL tP x n).b==y.b)&&true)))) (some (eL tP x,[])) (some (.sl 0 0 (((0+n)+1)+(x.length-n)) 0,[⟨66,4,app (bL tP (x.take n++[y])) (bL tP (x.drop n)),true,false,0⟩]))) none) (some (.sl 0 0 (((0+n)+1)+(x.length-n)) 0,[⟨66,4,app (bL tP (x.take n++[y])) (bL tP (x.drop n)),true,false,0⟩]))) (λr=>r=ins x y):=by
  by_cases hn:n<x.length
  ·rw[btD (n8 hn),bt (l0 hn)];exact Rd.sl (λq=>⟨_,x,rfl,ie3 tP x,by rw[hdef,if_pos ⟨hn,q⟩]⟩) λq=>tail (by
    rw[hdef,if_neg λh=>?_]
    have h:=h.2;rw[show eqP (gL tP x n) y=false from q] at h
    cases h)
  ·rw[bfD (w8 hn)];exact tail (by rw[hdef,if_neg λh=>hn h.1])
 rcases h2 with rfl|rfl
 ·exact main
 ·exact main
def yd1(l:PLq):Prop:=l.Pairwise LtP
theorem td1{x y z:Pln}(h1:LtP x y)(h2:LtP y z):LtP x z:=by unfold LtP at *;omega
theorem te7(x:Pln):¬ LtP x x:=by unfold LtP;omega
theorem ef3(x y:Pln):LtP x y\/x=y\/LtP y x:=by
 by_cases h1:LtP x y
 ·exact .inl h1
 ·by_cases h2:LtP y x
  ·exact .inr (.inr h2)
  ·refine .inr (.inl ?_);unfold LtP at h1 h2;have e1:x.n.x=y.n.x:=by omega
   have e2:x.n.y=y.n.y:=by omega
   have e3:x.n.z=y.n.z:=by omega
   have e4:x.b=y.b:=by omega
   cases x with | mk n b=>cases y with | mk m c=>cases n;cases m;simp_all
theorem je1:∀{l r:PLq},yd1 l->yd1 r->(∀p,p∈l↔p∈r)->l=r
 |[],[],_,_,_=>rfl
 |[],b::r,_,_,h=>by have:=(h b).2 Qcj;cases this
 |a::l,[],_,_,h=>by have:=(h a).1 Qcj;cases this
 |a::l,b::r,hl,hr,h=>by
  obtain⟨hl1,hl2⟩:=Qjb.1 hl;obtain⟨hr1,hr2⟩:=Qjb.1 hr;have hab:a=b:=by
   rcases Qbh.1 ((h a).1 Qcj) with e|h1
   ·exact e
   ·rcases Qbh.1 ((h b).2 Qcj) with e|h2
    ·exact e.symm
    ·exact absurd (td1 (hr1 a h1) (hl1 b h2)) (te7 b)
  subst hab;rw[je1 hl2 hr2 λp=>?_]
  constructor
  ·intro hp
   rcases Qbh.1 ((h p).1 (Qcm _ hp)) with e|h1
   ·subst e;exact absurd (hl1 p hp) (te7 p)
   ·exact h1
  ·intro hp
   rcases Qbh.1 ((h p).2 (Qcm _ hp)) with e|h1
   ·subst e;exact absurd (hr1 p hp) (te7 p)
   ·exact h1
def Bc0:PLq->Pln->PLq
 |[],y=>[y]
 |a::l,y=>if va9 a y<0 then a::Bc0 l y else if eqP a y then a::l else y::a::l
theorem Ef0(y:Pln):∀x,ins x y=Bc0 x y
 |[]=>rfl
 |a::l=>by
  have ih:=Ef0 y l;unfold Bc0;by_cases h:va9 a y<0
  ·rw[if_pos h,<- ih];have e:atP (a::l) y=atP l y+1:=by unfold atP;rw[List.findIdx_cons];simp[h]
   unfold ins;rw[e];have e2:gL tP (a::l) (atP l y+1)=gL tP l (atP l y):=rfl;rw[e2];simp only[List.length_cons,Nat.add_lt_add_iff_right];split
   ·rfl
   ·rfl
  ·rw[if_neg h];have e:atP (a::l) y=0:=by unfold atP;rw[List.findIdx_cons];simp[h]
   unfold ins;rw[e];have e2:gL tP (a::l) 0=a:=rfl;rw[e2];simp only[List.length_cons,Nat.zero_lt_succ,true_and];split
   ·rfl
   ·rfl
theorem kd5(y p:Pln):∀x,p∈Bc0 x y↔p=y\/p∈x
 |[]=>by simp[Bc0]
 |a::l=>by
  unfold Bc0;have ih:=kd5 y p l;split
  ·simp only[Qbh,ih];constructor
   ·rintro (h|h|h)
    ·exact .inr (.inl h)
    ·exact .inl h
    ·exact .inr (.inr h)
   ·rintro (h|h|h)
    ·exact .inr (.inl h)
    ·exact .inl h
    ·exact .inr (.inr h)
  ·split
   ·rename_i h;rw[Rc2] at h;subst h;simp only[Qbh];constructor
    ·exact λh=>.inr h
    ·rintro (h|h)
     ·exact .inl h
     ·exact h
   ·simp only[Qbh]
theorem Je0(y:Pln):∀{x},yd1 x->yd1 (Bc0 x y)
 |[],_=>Qjo _ _
 |a::l,h=>by
  obtain⟨h1,h2⟩:=Qjb.1 h;unfold Bc0;split
  ·rename_i hc;rw[re0] at hc;refine Qjb.2 ⟨λp hp=>?_,Je0 y h2⟩
   rcases (kd5 y p l).1 hp with e|hp
   ·subst e;exact hc
   ·exact h1 p hp
  ·rename_i hc;rw[re0] at hc;split
   ·exact h
   ·rename_i hne;have hlt:LtP y a:=by
     rcases ef3 y a with h|h|h
     ·exact h
     ·exact absurd ((Rc2 _ _).2 h.symm) hne
     ·exact absurd h hc
    refine Qjb.2 ⟨λp hp=>?_,h⟩
    rcases Qbh.1 hp with e|hp
    ·subst e;exact hlt
    ·exact td1 hlt (h1 p hp)
theorem Sf2(l:PLq){n:Nat}(h:n=l.length):okS tP (bL tP l) 0 n=true:=by subst h;exact pc5 tP l
theorem Sf3(l:PLq){n:Nat}(h:n=l.length):slR tP (bL tP l) 0 n=l:=by subst h;exact pc4 tP l
theorem je2{a c:PLq}(ha:a.length<=100000000)(hc:c.length<=100000000):Fb1 a c=some (b (apart a c),[]):=by
 have ha':a.length<=1000000000:=by omega
 have hc':c.length<=1000000000:=by omega
 unfold Fb1 apart;simp only[ra5,l9,A3,sb9 _ ha',Ub8 _ ha',sb9 _ hc',Ub8 _ hc',g7];have hz:∀l:PLq,(chk l != 0)=!(chk l==0):=λ_=>rfl
 rw[hz,hz];cases h1:chk a==0 with
 |false=>rfl
 |true =>
  cases h2:chk c==0 with
  |false=>rfl
  |true =>
   obtain⟨q1,q2⟩:=Pd0 h1 h2;have e1:app [] (bL tP a)=bL tP a:=rfl;have e1':app [] (bL tP c)=bL tP c:=rfl;have e2:app (bL tP a) (bL tP c)=bL tP (a++c):=ra4 tP a c;have n1:0+len (bL tP a)=a.length:=by rw[J2];omega
   have n2:0+len (bL tP c)=c.length:=by rw[J2];omega
   have n3:a.length+len (bL tP c)=(a++c).length:=by rw[J2,Qdc]
   have hl:(a++c).length<=1000000000:=by rw[Qdc];omega
   have hn:([]:PLq).length<=1000000000:=by simp
   simp only[Bool.not_true,A7,Qii,Bool.true_and,Bool.false_or,cf4,n1,n2,n3,e1,e1',e2,pc5,pc4,Sf2 _ rfl,Sf3 _ rfl,ie4 _ hl,ie5 _ hl,ie4 _ ha',ie5 _ ha',ie4 _ hc',ie5 _ hc',ie4 _ hn,ie5 _ hn,g7];rw[show Nat.ble (a.length*32) room=true from Ea0 (by omega),show Nat.ble ((a++c).length*32) room=true from Ea0 (by omega),show Nat.beq a.length (len (bL tP a))=true by rw[J2,Qim],Cf8 _ q1 q2,Cf9 _ q1 q2]
   rfl
theorem kd6{a c:PLq}(ha:a.length<=100000000)(hc:c.length<=100000000):za2 a c=apart a c:=by unfold za2;rw[je2 ha hc];rfl
theorem kd7{a c:PLq}(ha:a.length<=100000000)(hc:c.length<=100000000):za3 a c=true:=by unfold za3;rw[je2 ha hc];rfl
end Go.Ev.Ce
namespace Go.Ev.Ce
def rmZ(p:Pln)(x:Pt):Int:=p.b*x.pw-(p.n.x*x.px+p.n.y*x.py+p.n.z*x.pz)
structure Inr(r:List Pln)(x:Pt):Prop where
 w:0<x.pw
 h:∀p∈r,0<=rmZ p x
def Oa2(p:Pln):Pln:=⟨⟨-p.n.x,-p.n.y,-p.n.z⟩,-p.b⟩
theorem Qd4(p:Pln)(x:Pt):rmZ (Oa2 p) x=-rmZ p x:=by unfold rmZ Oa2;grind
structure Cn(r:List Pln)(x:Pt):Prop extends Inr r x where
 c:∃p q s,p∈r/\q∈r/\s∈r/\mw p q s≠0/\rmZ p x=0/\rmZ q x=0/\rmZ s x=0
def Bdd(r:List Pln):Prop:=∀d:V3,d≠⟨0,0,0⟩->∃p∈r,0<dot p.n d
def go(x:Pt)(q:Pln)(d:V3):Pt:=⟨x.px*dot q.n d+rmZ q x*d.x,x.py*dot q.n d+rmZ q x*d.y,x.pz*dot q.n d+rmZ q x*d.z,x.pw*dot q.n d⟩
theorem ef4(p q:Pln)(x:Pt)(d:V3):rmZ p (go x q d)=dot q.n d*rmZ p x-rmZ q x*dot p.n d:=by simp only[rmZ,go,dot];grind
theorem Cb3{a b c:Int}(hc:0<c)(h:a*c<=b*c):a<=b:=Int.le_of_mul_le_mul_right h hc
theorem first(x:Pt)(d:V3):∀r:List Pln,(∀p∈r,0<=rmZ p x)->(∃p∈r,0<dot p.n d)->∃q∈r,0<dot q.n d/\∀p∈r,0<dot p.n d->rmZ q x*dot p.n d<=rmZ p x*dot q.n d
 |[],_,h=>by obtain⟨p,hp,_⟩:=h;cases hp
 |a::r,hx,h=>by
  by_cases hr:∃p∈r,0<dot p.n d
  ·obtain⟨q,hq,h1,h2⟩:=first x d r (λp hp=>hx p (Qcm _ hp)) hr
   by_cases ha:0<dot a.n d
   ·by_cases hc:rmZ q x*dot a.n d<=rmZ a x*dot q.n d
    ·grind
    ·refine⟨a,Qcj,ha,λp hp h3=>?_⟩
     rcases Qbh.1 hp with rfl|hp
     ·exact Int.le_refl _
     ·have h4:=h2 p hp h3;have h5:rmZ a x*dot q.n d<rmZ q x*dot a.n d:=by omega
      have h6:=Qjf h4 (Qja ha);have h7:=Int.mul_lt_mul_of_pos_right h5 h3;have e1:rmZ q x*dot p.n d*dot a.n d=rmZ q x*dot a.n d*dot p.n d:=by grind
      have e2:rmZ a x*dot q.n d*dot p.n d=rmZ a x*dot p.n d*dot q.n d:=by grind
      have e3:rmZ p x*dot q.n d*dot a.n d=rmZ p x*dot a.n d*dot q.n d:=by grind
      refine Cb3 h1 ?_;omega
   grind
  grind
theorem step{r:List Pln}{x:Pt}(hx:Inr r x)(d:V3)(h:∃p∈r,0<dot p.n d):∃q∈r,0<dot q.n d/\Inr r (go x q d):=by
 obtain⟨q,hq,h1,h2⟩:=first x d r hx.h h;refine⟨q,hq,h1,⟨Qjh hx.w h1,λp hp=>?_⟩⟩
 rw[ef4];have h3:=hx.h p hp;have h4:=hx.h q hq;by_cases h5:0<dot p.n d
 ·grind
 ·have h6:=Qjc (Qja h1) h3;have h7:rmZ q x*dot p.n d<=0:=Int.mul_nonpos_of_nonneg_of_nonpos h4 (by omega)
  omega
theorem Ef1{h q:Pln}{x:Pt}{d:V3}(h1:0<=rmZ q x)(h2:0<=dot h.n d):rmZ h (go x q d)*x.pw<=rmZ h x*(go x q d).pw\/x.pw<=0:=by
 rcases Int.lt_or_le 0 x.pw with hw|hw
 ·left;rw[ef4]
  have:=Qjc h1 h2
  have h3:=Qjc this (Qja hw);have e:rmZ h x*(go x q d).pw=dot q.n d*rmZ h x*x.pw:=by unfold go;grind
  grind
 ·exact .inr hw
def neg(d:V3):V3:=⟨-d.x,-d.y,-d.z⟩
theorem ef5(a d:V3):dot a (neg d)=-dot a d:=by unfold dot neg;grind
theorem lg5{d:V3}(h:d≠⟨0,0,0⟩):neg d≠⟨0,0,0⟩:=λh'=>h (by
 cases d;unfold neg at h';simp only[V3.mk.injEq] at h' ⊢;omega)
theorem turn(h:Pln){d:V3}(hd:d≠⟨0,0,0⟩):∃e,e≠(⟨0,0,0⟩:V3)/\0<=dot h.n e/\∀a,dot a d=0->dot a e=0:=by
 by_cases h1:0<=dot h.n d
 ·grind
 ·exact⟨neg d,lg5 hd,by rw[ef5];omega,λa h=>by rw[ef5,h];rfl⟩
theorem Ng0{n:V3}(hn:n≠⟨0,0,0⟩):∃d,d≠(⟨0,0,0⟩:V3)/\dot n d=0:=by
 by_cases h:n.x=0/\n.y=0
 ·exact⟨⟨1,0,0⟩,by simp,by unfold dot;simp[h.1]⟩
 ·refine⟨⟨n.y,-n.x,0⟩,λh'=>h ?_,by unfold dot;grind⟩
  simp_all
theorem V3.ext'{a b:V3}(h1:a.x=b.x)(h2:a.y=b.y)(h3:a.z=b.z):a=b:=by cases a;cases b;simp_all
theorem Ef2{m n d:V3}(hm:m≠⟨0,0,0⟩)(h1:dot m d=0)(h2:dot n d≠0):C8 m n≠⟨0,0,0⟩:=λh=>by
 unfold C8 at h;simp only[V3.mk.injEq] at h;obtain⟨c1,c2,c3⟩:=h;unfold dot at h1 h2;have e1:m.x*(n.x*d.x+n.y*d.y+n.z*d.z)=0:=by grind
 have e2:m.y*(n.x*d.x+n.y*d.y+n.z*d.z)=0:=by grind
 have e3:m.z*(n.x*d.x+n.y*d.y+n.z*d.z)=0:=by grind
 have k:∀{a:Int},a*(n.x*d.x+n.y*d.y+n.z*d.z)=0->a=0:=λh=>(Qjj.1 h).resolve_right h2
 exact hm (V3.ext' (k e1) (k e2) (k e3))
theorem Je1(a b:V3):dot a (C8 a b)=0:=by unfold dot C8;grind
theorem Je2(a b:V3):dot b (C8 a b)=0:=by unfold dot C8;grind
theorem Ef3{p q:Pln}{x:Pt}{d:V3}(h:rmZ p x=0)(h':dot p.n d=0):rmZ p (go x q d)=0:=by rw[ef4,h,h'];simp
theorem Ef4(q:Pln)(x:Pt)(d:V3):rmZ q (go x q d)=0:=by rw[ef4];grind
theorem Ag0{q:Pln}{d:V3}(h:0<dot q.n d):q.n≠⟨0,0,0⟩:=λh'=>by rw[h'] at h;unfold dot at h;simp at h
theorem ag8{a b c u v w:Int}(hu:0<u)(hv:0<v)(hw:0<w)(h1:a*v<=b*u)(h2:b*w<=c*v):a*w<=c*u:=by
 have h3:=Qjf h1 (Qja hw);have h4:=Qjf h2 (Qja hu);have e1:a*v*w=a*w*v:=by grind
 have e2:b*u*w=b*w*u:=by grind
 have e3:c*v*u=c*u*v:=by grind
 exact Cb3 hv (by omega)
theorem lg6{r:List Pln}(hb:Bdd r)(h:Pln){x:Pt}(hx:Inr r x):∃v,Cn r v/\rmZ h v*x.pw<=rmZ h x*v.pw:=by
 obtain⟨d0,n0,p0,_⟩:=turn h (d:=⟨1,0,0⟩) (by simp)
 obtain⟨q1,m1,k1,i1⟩:=step hx d0 (hb d0 n0);have l1:=(Ef1 (h:=h) (x:=x) (hx.h q1 m1) p0).resolve_right (by have:=hx.w;omega)
 obtain⟨e1,ne1,he1⟩:=Ng0 (Ag0 k1);obtain⟨d1,n1,p1,z1⟩:=turn h ne1;obtain⟨q2,m2,k2,i2⟩:=step i1 d1 (hb d1 n1);have l2:=(Ef1 (h:=h) (x:=go x q1 d0) (i1.h q2 m2) p1).resolve_right (by have:=i1.w;omega)
 have hc:=Ef2 (Ag0 k1) (z1 _ he1) (n:=q2.n) (by omega)
 obtain⟨d2,n2,p2,z2⟩:=turn h hc;obtain⟨q3,m3,k3,i3⟩:=step i2 d2 (hb d2 n2);have l3:=(Ef1 (h:=h) (x:=go (go x q1 d0) q2 d1) (i2.h q3 m3) p2).resolve_right (by have:=i2.w;omega)
 have a1:rmZ q1 (go (go x q1 d0) q2 d1)=0:=Ef3 (Ef4 _ _ _) (z1 _ he1);refine⟨_,⟨i3,q3,q1,q2,m3,m1,m2,λh0=>?_,Ef4 _ _ _,Ef3 a1 (z2 _ (Je1 _ _)),Ef3 (Ef4 _ _ _) (z2 _ (Je2 _ _))⟩,?_⟩
 ·have:dot q3.n d2=0:=z2 _ h0
  omega
 ·exact ag8 i3.w i2.w hx.w l3 (ag8 i2.w i1.w hx.w l2 l1)
theorem Cd6{r:List Pln}(hb:Bdd r){h:Pln}(hv:∀v,Cn r v->0<=rmZ h v){x:Pt}(hx:Inr r x):0<=rmZ h x:=by
 obtain⟨v,h1,h2⟩:=lg6 hb h hx;have h3:=Qjc (hv v h1) (Qja hx.w);exact Cb3 h1.w (by rw[Qjr];omega)
def mid(x y:Pt):Pt:=⟨x.px*y.pw+y.px*x.pw,x.py*y.pw+y.py*x.pw,x.pz*y.pw+y.pz*x.pw,2*(x.pw*y.pw)⟩
theorem Ef5(p:Pln)(x y:Pt):rmZ p (mid x y)=rmZ p x*y.pw+rmZ p y*x.pw:=by unfold rmZ mid;grind
theorem Inr.mid{r:List Pln}{x y:Pt}(hx:Inr r x)(hy:Inr r y):Inr r (mid x y):=⟨by unfold Ce.mid;exact Qjh (by decide) (Qjh hx.w hy.w),λp hp=>by
 rw[Ef5];exact Int.add_nonneg (Qjc (hx.h p hp) (Qja hy.w)) (Qjc (hy.h p hp) (Qja hx.w))⟩
def Sf4(r:List Pln):Prop:=∃x:Pt,0<x.pw/\∀p∈r,0<rmZ p x
theorem ef6{r:List Pln}:∀(l:List Pln),(∀p∈l,p∈r)->(∃x,Inr r x)->(∀p∈l,∃v,Inr r v/\0<rmZ p v)->∃x,Inr r x/\∀p∈l,0<rmZ p x
 |[],_,h,_=>by obtain⟨x,h⟩:=h;exact⟨x,h,λp hp=>by cases hp⟩
 |a::l,hl,h,hv=>by
  obtain⟨x,h1,h2⟩:=ef6 l (λp hp=>hl p (Qcm _ hp)) h (λp hp=>hv p (Qcm _ hp))
  obtain⟨y,h3,h4⟩:=hv a Qcj;refine⟨mid x y,h1.mid h3,λp hp=>?_⟩
  rw[Ef5]
  rcases Qbh.1 hp with rfl|hp
  ·have:=Qjc (h1.h p (hl p Qcj)) (Qja h3.w)
   have:=Qjh h4 h1.w
   omega
  ·have:=Qjh (h2 p hp) h3.w
   have:=Qjc (h3.h p (hl p (Qcm _ hp))) (Qja h1.w)
   omega
theorem Ef6{r:List Pln}(hb:Bdd r)(h0:r≠[]):Sf4 r↔∀p∈r,∃v,Cn r v/\0<rmZ p v:=by
 constructor
 ·intro ⟨x,hw,hx⟩ p hp;by_cases h:∃v,Cn r v/\0<rmZ p v
  ·exact h
  ·have hx':Inr r x:=⟨hw,λq hq=>Qja (hx q hq)⟩
   have:=Cd6 hb (h:=Oa2 p) (λv hv=>by
    rw[Qd4]
    have:¬ 0<rmZ p v:=λh'=>h ⟨v,hv,h'⟩
    omega) hx'
   rw[Qd4] at this
   have:=hx p hp
   omega
 ·intro h;obtain⟨p,hp⟩:=List.exists_mem_of_ne_nil r h0;obtain⟨v,hv,_⟩:=h p hp;obtain⟨x,h1,h2⟩:=ef6 r (λ_ h=>h) ⟨v,hv.toInr⟩ λp hp=>by
   obtain⟨v,hv,h⟩:=h p hp;exact⟨v,hv.toInr,h⟩
  exact⟨x,h1.w,h2⟩
structure Eqv(x v:Pt):Prop where
 e1:x.px*v.pw=v.px*x.pw
 e2:x.py*v.pw=v.py*x.pw
 e3:x.pz*v.pw=v.pz*x.pw
theorem Eqv.rm{x v:Pt}(h:Eqv x v)(p:Pln):rmZ p x*v.pw=rmZ p v*x.pw:=by
 obtain⟨e1,e2,e3⟩:=h;unfold rmZ
 grind
theorem Eqv.inr{r:List Pln}{x v:Pt}(h:Eqv x v)(hw:0<x.pw)(hv:Inr r v):Inr r x:=⟨hw,λp hp=>by
 have:=h.rm p
 have h2:=Qjc (hv.h p hp) (Qja hw);exact Cb3 hv.w (by rw[Qjr];omega)⟩
end Go.Ev.Ce
namespace Go.Ev.Ce
open Go Go.Ev Go.Ev.L Go.Proofs
theorem Sf5{p:Pln}{x:Pt}(hp:Bd p)(hx:Okx x):rm p x=rmZ p x:=by
 unfold rm rmZ;obtain⟨w1,w2,⟨a1,a2⟩,⟨a3,a4⟩,a5,a6⟩:=hx;have h0:=mb hp.b1 hp.b2 (show -600000000000<=x.pw by omega) w2
 have h1:=mb hp.x1 hp.x2 a1 a2;have h2:=mb hp.y1 hp.y2 a3 a4;have h3:=mb hp.z1 hp.z2 a5 a6;exact ia9 (by omega) (by omega)
theorem ef7{r:PLq}(hb:Bds r){x:Pt}(hx:Okx x):inn r x=true↔Inr r x:=by
 unfold inn;rw[Qcc];constructor
 ·intro h;refine⟨hx.w1,λp hp=>?_⟩
  have:=h p hp
  rw[Sf5 (hb p hp) hx] at this;simpa using this
 ·intro h p hp;rw[Sf5 (hb p hp) hx];simpa using h.h p hp
theorem ag9{p q s:Pln}(h:(mpt p q s).2=true):mw p q s≠0/\∃k:Int,k≠0/\k*(mpt p q s).1.px=(mv p q s).x/\k*(mpt p q s).1.py=(mv p q s).y/\k*(mpt p q s).1.pz=(mv p q s).z/\k*(mpt p q s).1.pw=mw p q s:=by
 unfold mpt at h ⊢;by_cases h0:mw p q s=0
 ·rw[if_pos h0] at h;cases h
 refine⟨h0,?_⟩;have hg:=Nd9 (v:=mv p q s) h0;have dv:∀{x:Int},(gc (mv p q s) (mw p q s))∣x->gc (mv p q s) (mw p q s)*Int.tdiv x (gc (mv p q s) (mw p q s))=x:=λh=>Int.mul_tdiv_cancel' h
 have d1:gc (mv p q s) (mw p q s)∣(mv p q s).x:=by
  rw[<- Qjk];exact Qje.2 (Qjl (Qji _ _) (Qji _ _))
 have d2:gc (mv p q s) (mw p q s)∣(mv p q s).y:=by
  rw[<- Qjk];exact Qje.2 (Qjl (Qji _ _) (Qjg _ _))
 have d3:gc (mv p q s) (mw p q s)∣(mv p q s).z:=by
  rw[<- Qjk];exact Qje.2 (Qjl (Qjg _ _) (Qji _ _))
 have d4:gc (mv p q s) (mw p q s)∣mw p q s:=by
  rw[<- Qjk];exact Qje.2 (Qjl (Qjg _ _) (Qjg _ _))
 rw[if_neg h0];by_cases h1:mw p q s<0
 ·rw[if_pos h1];have e:∀{x:Int},(gc (mv p q s) (mw p q s))∣x->-(gc (mv p q s) (mw p q s))*Int.tdiv (-x) (gc (mv p q s) (mw p q s))=x:=λ{x} h=>by
   rw[Int.neg_mul,dv ((Int.dvd_neg).2 h),Int.neg_neg]
  exact⟨-(gc (mv p q s) (mw p q s)),by omega,e d1,e d2,e d3,e d4⟩
 ·rw[if_neg h1];exact⟨gc (mv p q s) (mw p q s),by omega,dv d1,dv d2,dv d3,dv d4⟩
theorem Ef7{p q s:Pln}(h:(mpt p q s).2=true):rmZ p (mpt p q s).1=0/\rmZ q (mpt p q s).1=0/\rmZ s (mpt p q s).1=0:=by
 obtain⟨_,k,hk,e1,e2,e3,e4⟩:=ag9 h;generalize (mpt p q s).1=x at *
 have f:∀a:Pln,a.b*mw p q s-(a.n.x*(mv p q s).x+a.n.y*(mv p q s).y+a.n.z*(mv p q s).z)=0->rmZ a x=0:=λa ha=>by
  rw[<- e1,<- e2,<- e3,<- e4] at ha
  have:k*rmZ a x=0:=by rw[<- ha];unfold rmZ;grind
  exact (Qjj.1 this).resolve_left hk
 refine⟨f p ?_,f q ?_,f s ?_⟩<;>(simp only[mw,mv,dot,C8];grind)
theorem Sf6{p q s:Pln}(h:mw p q s≠0):(mpt p q s).2=true:=by
 unfold mpt;rw[if_neg h]
 split<;>rfl
theorem Ef8{p q s:Pln}{x:Pt}(h1:rmZ p x=0)(h2:rmZ q x=0)(h3:rmZ s x=0):mw p q s*x.px=(mv p q s).x*x.pw/\mw p q s*x.py=(mv p q s).y*x.pw/\mw p q s*x.pz=(mv p q s).z*x.pw:=by
 have i1:(mv p q s).x*x.pw-mw p q s*x.px=(C8 q.n s.n).x*rmZ p x+(C8 s.n p.n).x*rmZ q x+(C8 p.n q.n).x*rmZ s x:=by simp only[mw,mv,dot,C8,rmZ];grind
 have i2:(mv p q s).y*x.pw-mw p q s*x.py=(C8 q.n s.n).y*rmZ p x+(C8 s.n p.n).y*rmZ q x+(C8 p.n q.n).y*rmZ s x:=by simp only[mw,mv,dot,C8,rmZ];grind
 have i3:(mv p q s).z*x.pw-mw p q s*x.pz=(C8 q.n s.n).z*rmZ p x+(C8 s.n p.n).z*rmZ q x+(C8 p.n q.n).z*rmZ s x:=by simp only[mw,mv,dot,C8,rmZ];grind
 rw[h1,h2,h3] at i1 i2 i3;simp only[Int.mul_zero,Int.add_zero] at i1 i2 i3;omega
theorem lg7{p q s:Pln}{x v:Pt}(h:mw p q s≠0)(h1:rmZ p x=0)(h2:rmZ q x=0)(h3:rmZ s x=0)(k1:rmZ p v=0)(k2:rmZ q v=0)(k3:rmZ s v=0):Eqv x v:=by
 obtain⟨a1,a2,a3⟩:=Ef8 h1 h2 h3;obtain⟨c1,c2,c3⟩:=Ef8 k1 k2 k3;have f:∀{a c m:Int},mw p q s*a=m*x.pw->mw p q s*c=m*v.pw->a*v.pw=c*x.pw:=λ{a c m} ha hc=>by
  have:mw p q s*(a*v.pw-c*x.pw)=0:=by grind
  have:=(Qjj.1 this).resolve_left h
  omega
 exact⟨f a1 c1,f a2 c2,f a3 c3⟩
theorem pf0{r:PLq}{p q:Pln}{out:List Pt}{s:Pln}{x:Pt}(h:x∈out):x∈Wa1 r p q out s:=by
 unfold Wa1;split
 ·exact Qbj _ h
 ·exact h
theorem Qd5{r:PLq}{p q:Pln}{x:Pt}:∀{l:PLq} {out:List Pt},x∈out->x∈Jb8 r p q l out
 |[],_,h=>h
 |s::l,out,h=>Qd5 (l:=l) (out:=Wa1 r p q out s) (pf0 h)
theorem kd8{r:PLq}{p:Pln}{x:Pt}:∀{l:PLq} {out:List Pt},x∈out->x∈tb1 r p l out
 |[],_,h=>h
 |_::l,_,h=>kd8 (l:=l) (Qd5 h)
theorem Je3{r:PLq}{x:Pt}:∀{l:PLq} {out:List Pt},x∈out->x∈jd0 r l out
 |[],_,h=>h
 |_::l,_,h=>Je3 (l:=l) (kd8 h)
theorem pf1{r:PLq}{p q:Pln}{out:List Pt}{s:Pln}(h1:(mpt p q s).2=true)(h2:inn r (mpt p q s).1=true):(mpt p q s).1∈Wa1 r p q out s:=by
 unfold Wa1;rw[h1,h2];cases h:Hc9 out (mpt p q s).1 with
 |true=>simpa using (Bf3 _ _).1 h
 |false=>simp
theorem Qd6{r:PLq}{p q s:Pln}(h1:(mpt p q s).2=true)(h2:inn r (mpt p q s).1=true):∀{l:PLq} {out:List Pt},s∈l->(mpt p q s).1∈Jb8 r p q l out
 |[],_,h=>by cases h
 |t::l,out,h=>by
  show _∈Jb8 r p q l (Wa1 r p q out t)
  rcases Qbh.1 h with rfl|h
  ·exact Qd5 (pf1 h1 h2)
  ·exact Qd6 h1 h2 h
structure Hit(r:PLq)(Q:Pt->Prop)(p q s:Pln):Prop where
 h1:(mpt p q s).2=true
 h2:inn r (mpt p q s).1=true
 h3:Q (mpt p q s).1
theorem Je4{r:PLq}{Q:Pt->Prop}{p q s:Pln}(hq:Hit r Q p q s)(hs:Hit r Q p s q)(hne:q≠s):∀{l:PLq} {out:List Pt},q∈l->s∈l->∃x∈tb1 r p l out,Q x
 |[],_,h,_=>by cases h
 |t::l,out,hql,hsl=>by
  show ∃x∈tb1 r p l (Jb8 r p t l out),Q x
  rcases Qbh.1 hql with rfl|h1
  ·have h2:=(Qbh.1 hsl).resolve_left λh=>hne h.symm
   exact⟨_,kd8 (Qd6 hq.h1 hq.h2 h2),hq.h3⟩
  ·rcases Qbh.1 hsl with rfl|h2
   ·exact⟨_,kd8 (Qd6 hs.h1 hs.h2 h1),hs.h3⟩
   ·exact Je4 hq hs hne (l:=l) h1 h2
theorem Je5{r:PLq}{Q:Pt->Prop}{p q s:Pln}(H:∀a c d,(a=p\/a=q\/a=s)->(c=p\/c=q\/c=s)->(d=p\/d=q\/d=s)->a≠c->c≠d->a≠d->Hit r Q a c d)(h1:p≠q)(h2:q≠s)(h3:p≠s) :
  ∀{l:PLq} {out:List Pt},p∈l->q∈l->s∈l->∃x∈jd0 r l out,Q x
 |[],_,h,_,_=>by cases h
 |t::l,out,hp,hq,hs=>by
  have fin:∀{a c d:Pln} {out:List Pt},(a=p\/a=q\/a=s)->(c=p\/c=q\/c=s)->(d=p\/d=q\/d=s)->a≠c->c≠d->a≠d->c∈l->d∈l->∃x∈jd0 r l (tb1 r a l out),Q x:=λha hc hd n1 n2 n3 m1 m2=>by
   obtain⟨x,hx,hQ⟩:=Je4 (H _ _ _ ha hc hd n1 n2 n3) (H _ _ _ ha hd hc n3 n2.symm n1) n2 (out:=_) m1 m2;exact⟨x,Je3 hx,hQ⟩
  show ∃x∈jd0 r l (tb1 r t l out),Q x
  rcases Qbh.1 hp with rfl|hp'
  ·exact fin (.inl rfl) (.inr (.inl rfl)) (.inr (.inr rfl)) h1 h2 h3 ((Qbh.1 hq).resolve_left (Ne.symm h1)) ((Qbh.1 hs).resolve_left (Ne.symm h3))
  ·rcases Qbh.1 hq with rfl|hq'
   ·exact fin (.inr (.inl rfl)) (.inl rfl) (.inr (.inr rfl)) (Ne.symm h1) h3 h2 hp' ((Qbh.1 hs).resolve_left (Ne.symm h2))
   ·rcases Qbh.1 hs with rfl|hs'
    ·exact fin (.inr (.inr rfl)) (.inl rfl) (.inr (.inl rfl)) (Ne.symm h3) h1 (Ne.symm h2) hp' hq'
    ·exact Je5 H h1 h2 h3 hp' hq' hs'
theorem Ag1{p q s:Pln}(h:mw p q s≠0):p≠q/\q≠s/\p≠s:=by
 refine⟨λe=>h ?_,λe=>h ?_,λe=>h ?_⟩<;>(subst e;simp only[mw,dot,C8];grind)
theorem lg8{r:PLq}(hb:Bds r):∀x∈cor r,Cn r x:=cf8 λp hp q hq s hs h hi=>by
 obtain⟨w1,w2,w3,w4,w5⟩:=Ue6 (hb p hp) (hb q hq) (hb s hs) h;obtain⟨e1,e2,e3⟩:=Ef7 h;exact⟨(ef7 hb ⟨w1,w5,w2,w3,w4⟩).1 hi,p,q,s,hp,hq,hs,(ag9 h).1,e1,e2,e3⟩
theorem lg9{r:PLq}(hb:Bds r){v:Pt}(hv:Cn r v):∃x∈cor r,Eqv x v:=by
 obtain⟨p,q,s,hp,hq,hs,hw,e1,e2,e3⟩:=hv.c;obtain⟨n1,n2,n3⟩:=Ag1 hw;refine Je5 (λa c d ha hc hd m1 m2 m3=>?_) n1 n2 n3 hp hq hs
 have hm:∀{a},(a=p\/a=q\/a=s)->a∈r/\rmZ a v=0:=λh=>by
  rcases h with rfl|rfl|rfl
  ·exact⟨hp,e1⟩
  ·exact⟨hq,e2⟩
  ·exact⟨hs,e3⟩
 have hw':mw a c d≠0:=by
  have k:mw a c d=mw p q s\/mw a c d=-mw p q s:=by
   rcases ha with rfl|rfl|rfl<;>rcases hc with rfl|rfl|rfl<;>rcases hd with rfl|rfl|rfl<;>first|exact absurd rfl m1|exact absurd rfl m2|exact absurd rfl m3|exact .inl rfl|(left;simp only[mw,dot,C8];grind;done)|(right;simp only[mw,dot,C8];grind;done)
  rcases k with k|k<;>omega
 have h:=Sf6 hw';obtain⟨w1,w2,w3,w4,w5⟩:=Ue6 (hb a (hm ha).1) (hb c (hm hc).1) (hb d (hm hd).1) h;obtain⟨f1,f2,f3⟩:=Ef7 h;have he:=lg7 hw' f1 f2 f3 (hm ha).2 (hm hc).2 (hm hd).2;exact⟨h,(ef7 hb ⟨w1,w5,w2,w3,w4⟩).2 (he.inr w1 hv.toInr),he⟩
theorem te8(c:PLq):Bdd (c++ws):=λd hd=>by
 have k:∀{n:V3} {m:Int},(⟨n,m⟩:Pln)∈ws->0<dot n d->∃p∈c++ws,0<dot p.n d:=λh h'=>⟨_,Qcg _ h,h'⟩
 by_cases h1:0<d.x
 ·exact k (n:=⟨1,0,0⟩) (m:=24) (by simp[ws]) (by unfold dot;simp;omega)
 by_cases h2:d.x<0
 ·exact k (n:=⟨-1,0,0⟩) (m:=24) (by simp[ws]) (by unfold dot;simp;omega)
 by_cases h3:0<d.y
 ·exact k (n:=⟨0,1,0⟩) (m:=24) (by simp[ws]) (by unfold dot;simp;omega)
 by_cases h4:d.y<0
 ·exact k (n:=⟨0,-1,0⟩) (m:=24) (by simp[ws]) (by unfold dot;simp;omega)
 by_cases h5:0<d.z
 ·exact k (n:=⟨0,0,1⟩) (m:=24) (by simp[ws]) (by unfold dot;simp;omega)
 by_cases h6:d.z<0
 ·exact k (n:=⟨0,0,-1⟩) (m:=24) (by simp[ws]) (by unfold dot;simp;omega)
 exact absurd (V3.ext' (by show d.x=0;omega) (by show d.y=0;omega) (by show d.z=0;omega)) hd
theorem ef8{r:PLq}(hb:Bds r){p:Pln}(hp:Bd p):pos (cor r) p=true↔∃v,Cn r v/\0<rmZ p v:=by
 unfold pos;rw[Qiad];constructor
 ·rintro⟨x,hx,h⟩;rw[Sf5 hp (se7 hb x hx)] at h;exact⟨x,lg8 hb x hx,by simpa using h⟩
 ·rintro⟨v,hv,h⟩;obtain⟨x,hx,he⟩:=lg9 hb hv;refine⟨x,hx,?_⟩;rw[Sf5 hp (se7 hb x hx)];have h1:=he.rm p;have h2:=Qjh h (se7 hb x hx).w1
  have:0<rmZ p x:=Int.lt_of_mul_lt_mul_right (by rw[Qjr];omega:0*v.pw<rmZ p x*v.pw) (Qja hv.w)
  simpa using this
theorem Rc4{r:PLq}(hb:Bds r)(hd:Bdd r)(h0:r≠[]):Cd0 r=true↔Sf4 r:=by
 rw[Ef6 hd h0];unfold Cd0;rw[Qcc];exact⟨λh p hp=>(ef8 hb (hb p hp)).1 (h p hp),λh p hp=>(ef8 hb (hb p hp)).2 (h p hp)⟩
end Go.Ev.Ce
namespace Go.Ev.Ce
def dv(z v:Pt):V3:=⟨v.px*z.pw-z.px*v.pw,v.py*z.pw-z.py*v.pw,v.pz*z.pw-z.pz*v.pw⟩
end Go.Ev.Ce
namespace Go.Ev.Ce
open Go Go.Ev Go.Ev.L Go.Proofs
theorem ef9(p:Pln):∀(a:Pln) (l:PLq),p∈a::ddF a l↔p∈a::l
 |a,[]=>by simp[ddF]
 |a,x::l=>by
  have ih:=ef9 p x l;unfold ddF;split
  ·rename_i h;rw[Rc2] at h;subst h;rw[ih];simp
  ·simp only[Qbh] at ih ⊢;rw[ih]
theorem Ef9(p:Pln):∀l:PLq,p∈dd l↔p∈l
 |[]=>Iff.rfl
 |x::l=>ef9 p x l
theorem ff0:∀(a:Pln) (l:PLq),(a::l).Pairwise (λx y=>(!ltOf va9 y x)=true)->yd1 (a::ddF a l)
 |a,[],_=>Qjo _ _
 |a,x::l,h=>by
  obtain⟨h1,h2⟩:=Qjb.1 h;have ih:=ff0 x l h2;have hle:=h1 x Qcj;rw[zb6] at hle;have hle:¬ LtP x a:=by simpa using hle
  unfold ddF;split
  ·rename_i he;rw[Rc2] at he;subst he;exact ih
  ·rename_i hne;have hlt:LtP a x:=by
    rcases ef3 a x with h|h|h
    ·exact h
    ·exact absurd ((Rc2 _ _).2 h.symm) hne
    ·exact absurd h hle
   refine Qjb.2 ⟨λp hp=>?_,ih⟩
   rcases Qbh.1 hp with e|hp'
   ·subst e;exact hlt
   ·exact td1 hlt ((Qjb.1 ih).1 p hp')
theorem mg0(l:PLq):yd1 (dd (nb4 l)):=by
 have h:=te1 l;cases hs:nb4 l with
 |nil=>exact .nil
 |cons a l'=>rw[hs] at h;exact ff0 a l' h
def db6(X:List Pt)(out:PLq)(p:Pln):PLq:=if keep X p then Bc0 out p else out
theorem je3(X:List Pt)(p:Pln):∀(c out:PLq),p∈c.foldl (db6 X) out↔p∈out\/p∈c.filter (keep X)
 |[],out=>by simp
 |a::c,out=>by
  rw[List.foldl_cons,je3 X p c,Qir];unfold db6;split
  ·rw[kd5,Qbh];constructor
   ·rintro ((h|h)|h)
    ·exact .inr (.inl h)
    ·exact .inl h
    ·exact .inr (.inr h)
   ·rintro (h|h|h)
    ·exact .inl (.inr h)
    ·exact .inl (.inl h)
    ·exact .inr h
  ·exact Iff.rfl
theorem je4(X:List Pt):∀(c out:PLq),yd1 out->yd1 (c.foldl (db6 X) out)
 |[],_,h=>h
 |a::c,out,h=>by
  rw[List.foldl_cons];refine je4 X c _ ?_;unfold db6;split
  ·exact Je0 a h
  ·exact h
theorem Je6(X:List Pt)(c:PLq):c.foldl (db6 X) []=dd (nb4 (c.filter (keep X))) :=
 je1 (je4 X c [] .nil) (mg0 _) λp=>by
  rw[je3,Ef9,(Pd3 _).mem_iff];simp
theorem Sf7(x:PLq)(y:Pln):Bc0 x y≠[]:=by
 intro h
 have:=(kd5 y y x).2 (.inl rfl)
 rw[h] at this;cases this
theorem Je7(y:Pln):∀x:PLq,(Bc0 x y).length<=x.length+1
 |[]=>Qaf _
 |a::l=>by
  have:=Je7 y l
  unfold Bc0;split
  ·simp only[List.length_cons];omega
  ·split<;>simp only[List.length_cons]<;>omega
theorem Ff0(x:PLq)(y:Pln)(hx:x.length<=1000000):Qb3 x y=Bc0 x y:=(Qd3 x y hx).p.trans (Ef0 y x)
theorem Ff1(x:PLq)(y:Pln)(hx:x.length<=1000000):Qb4 x y=true:=(Qd3 x y hx).g
theorem Ng1(l:List Pt)(p:Pln)(n:Nat):l.foldl (λn x=>if rm p x==0 then n+1 else n) n=n+l.countP λx=>rm p x==0:=by
 induction l generalizing n with
 |nil=>rfl
 |cons x l ih =>
  rw[List.foldl_cons,ih,List.countP_cons]
  split<;>omega
theorem Ff2(c:PLq)(X:List Pt)(o:PLq)(hX:X.length<=1000000000)(a φ:Nat)(hφ:φ<=1)(ha:a<c.length) :
  lp (hb9 ⟨c,X,(a:Int),o⟩) ⟨φ,0,0⟩=(φ+1,⟨φ,(onc X (gL tP c a):Int),(X.length:Int)⟩):=by
 have h:=id6 (step:=hb9 ⟨c,X,(a:Int),o⟩) (mk:=λj (n:Nat)=>(⟨φ,(n:Int),(j:Int)⟩:V0)) (f:=λn x=>if rm (gL tP c a) x==0 then n+1 else n) (fin:=φ+1) tX X (λj n=>n<=j) hX
  (λj n hj hi=>by
   have hW:W ((n:Int)+1)=((n+1:Nat):Int):=by rw[ia9 (by omega) (by omega)];omega
   refine⟨?_,by show (if rm (gL tP c a) (gL tX X j)==0 then n+1 else n)<=j+1;split<;>omega⟩
   have hb:φ=0\/φ=1:=by omega
   rcases hb with rfl|rfl
   ·show Ga8 Stp.next Stp.exit Stp.fail _ _=_;simp only[Ga8,Int.toNat_natCast,Fd3,hW,A5 hj (show X.length<=4611686018427387904 by omega)]
    rw[btD (n8 hj),bt (l0 hj),bt (l0 ha)];cases rm (gL tP c a) (gL tX X j)==0<;>rfl
   ·show Ga9 Stp.next Stp.exit Stp.fail _ _=_;simp only[Ga9,Int.toNat_natCast,Fd3,hW,A5 hj (show X.length<=4611686018427387904 by omega)]
    rw[btD (n8 hj),bt (l0 hj),bt (l0 ha)];cases rm (gL tP c a) (gL tX X j)==0<;>rfl)
  (λn _=>by
   have hb:φ=0\/φ=1:=by omega
   rcases hb with rfl|rfl
   ·show Ga8 Stp.next Stp.exit Stp.fail _ _=_;simp only[Ga8];rw[bfD (w8 (Qie _))]
   ·show Ga9 Stp.next Stp.exit Stp.fail _ _=_;simp only[Ga9];rw[bfD (w8 (Qie _))]) 0 (Qbv _) 0 (Qaf _)
 have h:=h.1;rw[Qic,Ng1,Qar] at h;exact h
def phP(out:PLq):Nat:=match out with
 |[]=>0
 |_::_=>1
theorem mg1(c:PLq)(X:List Pt)(hc:c.length<=1000000)(hX:X.length<=1000000000):∃t s,lp (Cb2 ⟨⟩) ⟨0,c,X,0,[]⟩=(t,s)/\(t=phP (c.foldl (db6 X) [])+1/\s.cc9=c.foldl (db6 X) []):=by
 refine da0 (step:=Cb2 ⟨⟩) (mk:=λj (out:PLq)=>(⟨phP out,c,X,(j:Int),out⟩:N9)) c.length (λj out=>out.length<=j/\out=(c.take j).foldl (db6 X) [])
  (λt s=>t=phP (c.foldl (db6 X) [])+1/\s.cc9=c.foldl (db6 X) []) (by omega) (λj out hj hi=>?_) (λj out hj hi=>?_) 0 [] ⟨by simp,by simp⟩
 ·obtain⟨i1,i2⟩:=hi;have hl:out.length<=1000000:=by omega
  have hn:=A5 hj (show c.length<=4611686018427387904 by omega)
  have r0:=Ff2 c X [] hX j 0 (by omega) hj
  have r1:=Ff2 c X out hX j 1 (by omega) hj
  have hk:keep X (gL tP c j)=!decide ((onc X (gL tP c j):Int)<3):=rfl;have hge:decide ((onc X (gL tP c j):Int)>=3)=keep X (gL tP c j):=by
   rw[hk];by_cases h:(onc X (gL tP c j):Int)<3
   ·rw[decide_eq_true h,decide_eq_false (by omega)];rfl
   ·rw[decide_eq_false h,decide_eq_true (by omega)];rfl
  have hnx : ∀ {s : N9}, s = ⟨phP (db6 X out (gL tP c j)), c, X, ((j + 1 : Nat) : Int), db6 X out (gL tP c j)⟩ → Nx (.next s) (fun t => t = phP (c.foldl (db6 X) []) + 1 ∧ (⟨phP out, c, X, (j : Int), out⟩ : N9).cc9 = c.foldl (db6 X) [])
    (λs=>∃a',s=(⟨phP a',c,X,((j+1:Nat):Int),a'⟩:N9)/\(a'.length<=j+1/\a'=(c.take (j+1)).foldl (db6 X) [])):=λ{s} hs=>by
   refine .nx ⟨_,hs,?_,?_⟩
   ·unfold db6;split
    ·have:=Je7 (gL tP c j) out;omega
    ·omega
   ·rw[sc5 tP hj,Qjm,<- i2];rfl
  cases out with
  |nil =>
   show Nx (Ha0 Stp.next Stp.exit Stp.fail ⟨⟩ _) _ _;simp only[Ha0,l9,s7,A3,Int.toNat_natCast,r0,hge,Ff0 [] _ hl,Ff1 [] _ hl,hn];rw[btD (n8 hj),bt (l0 hj)];cases hkk:keep X (gL tP c j) with
   |true=>exact hnx (by unfold db6;rw[hkk,if_pos rfl];rfl)
   |false=>exact hnx (by unfold db6;rw[hkk];rfl)
  |cons o os =>
   show Nx (Ha1 Stp.next Stp.exit Stp.fail ⟨⟩ _) _ _;simp only[Ha1,l9,s7,A3,Int.toNat_natCast,r1,hge,Ff0 (o::os) _ hl,Ff1 (o::os) _ hl,hn];rw[btD (n8 hj),bt (l0 hj),bt (l0 hj)];cases hkk:keep X (gL tP c j) with
   |true =>
    refine hnx ?_;unfold db6;rw[hkk,if_pos rfl];have hp:phP (Bc0 (o::os) (gL tP c j))=1:=by
     cases h:Bc0 (o::os) (gL tP c j) with
     |nil=>exact absurd h (Sf7 _ _)
     |cons _ _=>rfl
    rw[hp]
   |false=>exact hnx (by unfold db6;rw[hkk];rfl)
 ·obtain⟨i1,i2⟩:=hi;rw[Qip hj] at i2;cases out with
  |nil =>
   refine⟨1,?_,by rw[<- i2];rfl,i2⟩
   show Ha0 Stp.next Stp.exit Stp.fail ⟨⟩ _=_;simp only[Ha0];rw[bfD (by show ¬ ((j:Nat):Int)<(c.length:Int);omega)]
  |cons o os =>
   refine⟨2,?_,by rw[<- i2];rfl,i2⟩
   show Ha1 Stp.next Stp.exit Stp.fail ⟨⟩ _=_;simp only[Ha1];rw[bfD (by show ¬ ((j:Nat):Int)<(c.length:Int);omega)]
theorem Je8(c:PLq)(hc:c.length<=1000000):Rd (one (r1L tP)) (Vb5 c) (λr=>r=lean c):=by
 have hl:c.length<=1000000000:=by omega
 have hX:=se8 c;obtain⟨t,s,h1,h2,h3⟩:=mg1 c (pts c) hc (by omega)
 unfold Vb5 lean;simp only[l9,A3,s7,Qc9 hl,Rc0 hl,of4 hl,of5 hl];rw[h1];cases hf:ful c with
 |false=>exact⟨_,[],rfl,rfl,rfl⟩
 |true =>
  simp only[h3];rw[<- Je6];subst h2;cases hF:c.foldl (db6 (pts c)) [] with
  |nil=>exact⟨_,[],rfl,rfl,rfl⟩
  |cons o os=>exact⟨_,o::os,rfl,ie3 tP (o::os),rfl⟩
theorem kd9(c:PLq)(hc:c.length<=1000000):ta1 c=lean c:=(Je8 c hc).p
theorem Fd7(c:PLq)(hc:c.length<=1000000):ta2 c=true:=(Je8 c hc).g
theorem Ff3{c:PLq}(hf:ful c=true)(p:Pln):p∈lean c↔p∈c/\keep (pts c) p=true:=by
 unfold lean;rw[if_pos hf,Ef9,(Pd3 _).mem_iff,Qfc]
theorem Qd7(c:PLq):(lean c).length<=c.length:=by
 unfold lean;split
 ·have h1 : (dd (nb4 (c.filter (keep (pts c))))).length ≤ (nb4 (c.filter (keep (pts c)))).length := by
   cases nb4 (c.filter (keep (pts c))) with
   |nil=>exact Qaf _
   |cons a l=>have:=df4 a l;simp only[dd,List.length_cons];omega
  rw[Qc5] at h1
  have:=Qjp (keep (pts c)) c
  omega
 ·exact Qbv _
def Ng2(p:Pln)(v:V3):Int:=if okp p&&inV v then (if dot p.n v-p.b<0 then -1 else if dot p.n v-p.b>0 then 1 else 0) else 0
structure Thr(a b c:V3)(p:Pln):Prop where
 ok:okp p=true
 k:∃g:Int,0<g/\g*p.n.x=(C8 (sub b a) (sub c a)).x/\g*p.n.y=(C8 (sub b a) (sub c a)).y/\g*p.n.z=(C8 (sub b a) (sub c a)).z
 o:p.b=dot p.n a
theorem Jc3{p:Pln}(h:Bd p):Va8 p=Oa2 p:=by
 unfold Va8 rd5 Oa2
 simp only
 have:=h.x1;have:=h.x2;have:=h.y1;have:=h.y2;have:=h.z1;have:=h.z2;have:=h.b1;have:=h.b2
 rw[ia9 (by omega) (by omega),ia9 (by omega) (by omega),ia9 (by omega) (by omega),ia9 (by omega) (by omega)]
 simp only[Int.zero_sub]
theorem tc3{σ:Type}{step:σ->Stp σ}{mk:Nat->σ}(n:Nat)(c:Nat->Bool)(u fin:Nat)(hn:n<=1000000000)(h:∀j,j<n->step (mk j)=sl (c j) (.exit u) (.next (mk (j+1))))(hf:step (mk n)=.exit fin) :
  ∃j,lp step (mk 0)=(if (List.range n).any c then u else fin,mk j):=by
 have key:=da0 (step:=step) (mk:=λj (_:Unit)=>mk j) n (λj _=>j<=n/\∀i,i<j->c i=false) (λt s=>t=(if (List.range n).any c then u else fin)/\∃j,s=mk j) hn
  (λj _ hj hi=>by
   rw[h j hj];refine Nx.sl (λhc=>.ex ⟨?_,j,rfl⟩) (λhc=>.nx ⟨(),rfl,by omega,λi hi'=>?_⟩)
   ·rw[if_pos (Qiad.2 ⟨j,Qca.2 hj,hc⟩)]
   ·by_cases e:i=j
    ·rw[e];exact hc
    ·exact hi.2 i (by omega))
  (λj _ hj hi=>by
   have e:j=n:=by omega
   subst e;refine⟨fin,hf,?_,j,rfl⟩;rw[if_neg λhh=>?_]
   obtain⟨i,hi1,hi2⟩:=Qiad.1 hh;rw[hi.2 i (Qca.1 hi1)] at hi2;cases hi2) 0 () ⟨by omega,by omega⟩
 obtain⟨t,s,h1,rfl,j,rfl⟩:=key;exact⟨j,h1⟩
def hold(p:Pln)(l:List V3):Bool:=!l.any λv=>decide (Ng2 p v>0)
def Ag2(l:List V3)(a c:Nat)(out:PLq)(k:Nat):PLq :=
  if (Ve0 (gL tV l a) (gL tV l c) (gL tV l k)).2 then
    (if hold (Oa2 (Ve0 (gL tV l a) (gL tV l c) (gL tV l k)).1) l then Bc0 (if hold (Ve0 (gL tV l a) (gL tV l c) (gL tV l k)).1 l then Bc0 out (Ve0 (gL tV l a) (gL tV l c) (gL tV l k)).1 else out) (Oa2 (Ve0 (gL tV l a) (gL tV l c) (gL tV l k)).1)
     else (if hold (Ve0 (gL tV l a) (gL tV l c) (gL tV l k)).1 l then Bc0 out (Ve0 (gL tV l a) (gL tV l c) (gL tV l k)).1 else out))
  else out
def F2(l:List V3)(a:Nat)(out:PLq)(c:Nat):PLq:=(List.range c).foldl (Ag2 l a c) out
def F1(l:List V3)(out:PLq)(a:Nat):PLq:=(List.range a).foldl (F2 l a) out
def F0(l:List V3):PLq:=(List.range l.length).foldl (F1 l) []
structure Og5(l:List V3):Prop where
 h:∃a c k v,a∈l/\c∈l/\k∈l/\v∈l/\dot (C8 (sub c a) (sub k a)) (sub v a)≠0
structure Fct(l:List V3)(p:Pln):Prop where
 ok:okp p=true
 hd:hold p l=true
structure te9(c:PLq):Prop where
 l:c.length<=47
 v:∀p∈c,okp p=true
 f:Sf4 (c++ws)
theorem te9.chk{c:PLq}(h:te9 c):(chk c==0)=true:=by
 rw[beq_iff_eq,Fb3];exact⟨by have:=h.l;omega,h.v⟩
theorem te9.bds{c:PLq}(h:te9 c):Bds (c++ws):=(Ob5 h.chk).1
theorem te9.ful{c:PLq}(h:te9 c):ful c=true:=by
 unfold Ce.ful;rw[h.chk,(Rc4 h.bds (te8 c) (by simp[ws])).2 h.f]
 rfl
theorem te9.pts{c:PLq}(h:te9 c):pts c=cor (c++ws):=by unfold Ce.pts;rw[if_pos h.chk]
structure Ins(r:PLq)(x:Pt):Prop where
 w:0<x.pw
 h:∀p∈r,0<rmZ p x
theorem Ins.inr{r:PLq}{x:Pt}(h:Ins r x):Inr r x:=⟨h.w,λp hp=>Qja (h.h p hp)⟩
theorem Qd8{r:PLq}:Sf4 r↔∃x,Ins r x:=⟨λ⟨x,h1,h2⟩=>⟨x,h1,h2⟩,λ⟨x,h⟩=>⟨x,h.w,h.h⟩⟩
theorem Ins.mono{r r':PLq}{x:Pt}(h:Ins r x)(hs:∀p∈r',p∈r):Ins r' x:=⟨h.w,λp hp=>h.h p (hs p hp)⟩
theorem Inr.mono{r r':PLq}{x:Pt}(h:Inr r x)(hs:∀p∈r',p∈r):Inr r' x:=⟨h.w,λp hp=>h.h p (hs p hp)⟩
theorem Ins.app{r r':PLq}{x:Pt}(h:Ins r x)(h':Ins r' x):Ins (r++r') x:=⟨h.w,λp hp=>(Qis.1 hp).elim (h.h p) (h'.h p)⟩
theorem Inr.app{r r':PLq}{x:Pt}(h:Inr r x)(h':Inr r' x):Inr (r++r') x:=⟨h.w,λp hp=>(Qis.1 hp).elim (h.h p) (h'.h p)⟩
theorem far{f g:Pln->Int}:∀l:PLq,(∀p∈l,0<f p)->∃N:Int,0<=N/\∀M,N<=M->∀p∈l,0<M*f p+g p
 |[],_=>⟨0,Int.le_refl _,λ_ _ p hp=>by cases hp⟩
 |a::l,h=>by
  obtain⟨N,h0,h1⟩:=far l λp hp=>h p (Qcm _ hp)
  have ha:=h a Qcj;refine⟨max N ((g a).natAbs+1),by omega,λM hM p hp=>?_⟩
  rcases Qbh.1 hp with rfl|hp
  ·have:M*1<=M*f p:=Int.mul_le_mul_of_nonneg_left (by omega) (by omega)
   omega
  ·exact h1 M (by omega) p hp
theorem mg2:∀p∈ws,okp p=true:=Qcc.1 (by decide)
theorem od8{c:PLq}(h:(chk c==0)=true):∀p∈c++ws,okp p=true:=λp hp=>by
 rw[beq_iff_eq,Fb3] at h
 rcases Qis.1 hp with hp|hp
 ·exact h.2 p hp
 ·exact mg2 p hp
theorem Rc5{c:PLq}:ful c=true↔(chk c==0)=true/\∃x,Ins (c++ws) x:=by
 unfold ful;rw[Qas];constructor
 ·rintro⟨h1,h2⟩;exact⟨h1,Qd8.1 ((Rc4 (Ob5 h1).1 (te8 c) (by simp[ws])).1 h2)⟩
 ·rintro⟨h1,h2⟩;exact⟨h1,(Rc4 (Ob5 h1).1 (te8 c) (by simp[ws])).2 (Qd8.2 h2)⟩
theorem Qb5{a c:PLq}(ha:(chk a==0)=true)(hc:(chk c==0)=true):apart a c=true↔∀z,Ins (a++ws) z->Ins (c++ws) z->False:=by
 unfold apart;rw[ha,hc];have hb:=(Pd0 ha hc).1;have h:=Rc4 (r:=a++c++ws) hb (te8 (a++c)) (by simp[ws])
 have key:Cd0 (a++c++ws)=true↔∃z,Ins (a++ws) z/\Ins (c++ws) z:=by
  rw[h,Qd8];constructor
  ·rintro⟨z,hz⟩;exact⟨z,hz.mono λp hp=>by simp only[Qis] at hp ⊢;rcases hp with h | h<;>simp[h],hz.mono λp hp=>by simp only[Qis] at hp ⊢;rcases hp with h | h<;>simp[h]⟩
  ·rintro⟨z,h1,h2⟩;exact⟨z,(h1.app h2).mono λp hp=>by simp only[Qis] at hp ⊢;rcases hp with (h | h) | h<;>simp[h]⟩
 constructor
 ·intro h z h1 h2;rw[key.2 ⟨z,h1,h2⟩] at h;cases h
 ·intro h;cases hb:Cd0 (a++c++ws) with
  |false=>rfl
  |true =>
   obtain⟨z,h1,h2⟩:=key.1 hb;exact (h z h1 h2).elim
theorem Ff4{c:PLq}{p:Pln}(h:p∈lean c):p∈c:=by
 cases hf:ful c with
 |true=>exact ((Ff3 hf p).1 h).1
 |false=>unfold lean at h;rw[hf] at h;cases h
def ja4(x fs:PLq):Nat->PLq
 |0=>x
 |j+1=>lean (ja4 x fs j++[gL tP fs j])
def Bc1(x fs:PLq)(j:Nat):PLq:=lean (ja4 x fs j++[Oa2 (gL tP fs j)])
def ib0(x fs:PLq)(j:Nat):LPq:=((List.range j).map (Bc1 x fs)).filter λc=>decide (0<c.length)
def mb0(x fs:PLq):Bool:=(List.range fs.length).all λj=>decide ((ja4 x fs j).length<48)
def zb9(q x:PLq):LPq:=if apart x q then [x] else ib0 x (lean q) (lean q).length
def wb7(q x:PLq):Bool:=apart x q||mb0 x (lean q)
def ga3(ps:LPq)(q:PLq):Option LPq :=
 if ful q then (if ps.all (wb7 q)&&decide ((ps.flatMap (zb9 q)).length<=200) then some (ps.flatMap (zb9 q)) else none) else some ps
def Qd9(c:PLq)(s:LPq):Option LPq :=
 s.foldl (λst q=>st.bind λps=>ga3 ps q) (some (if ful c then [lean c] else []))
theorem Ff5{x fs:PLq}{n:Nat}{y:PLq}:y∈ib0 x fs n↔∃j,j<n/\y=Bc1 x fs j/\y≠[]:=by
 unfold ib0;rw[Qfc,Qbq];constructor
 ·rintro⟨⟨j,hj,rfl⟩,h⟩;exact⟨j,Qca.1 hj,rfl,λe=>by rw[e] at h;simp at h⟩
 ·rintro⟨j,hj,rfl,h⟩;exact⟨⟨j,Qca.2 hj,rfl⟩,by simpa using List.length_pos_iff.2 h⟩
section
variable{x fs:PLq}(hx:(chk x==0)=true)(hf:∀p∈fs,okp p=true){z0:Pt}(h1:Ins (x++ws) z0)(h2:Ins (fs++ws) z0)(h48:mb0 x fs=true)
include hx hf h1 h2 h48
end
structure Pcs(c:PLq)(S ps:LPq):Prop where
 ful:∀y∈ps,ful y=true
 sub:∀y∈ps,∀z,Inr (y++ws) z->Inr (c++ws) z
 off:∀y∈ps,∀s∈S,Ce.ful s=true->∀z,Ins (y++ws) z->Inr (s++ws) z->False
 dis:ps.Pairwise λa b=>∀z,Ins (a++ws) z->Ins (b++ws) z->False
 cov:∀z,Inr (c++ws) z->(∃y∈ps,Inr (y++ws) z)\/∃s∈S,Ce.ful s=true/\Inr (s++ws) z
theorem Cd7(s:LPq):s.foldl (λst q=>st.bind λps=>ga3 ps q) none=none:=by
 induction s with
 |nil=>rfl
 |cons q s ih=>exact ih
def phL(O:LPq):Nat:=match O with
 |[]=>0
 |_::_=>1
theorem tb9(O:LPq)(c:PLq):phL (O++[c])=1:=by cases O<;>rfl
theorem ff1(O:LPq)(c:PLq):app (bL tLq O) [[eL tP c]]=bL tLq (O++[c]):=ra4 tLq O [c]
theorem ue0(O:LPq)(h:O.length<=1000000):(Nat.beq O.length (len (bL tLq O))&&Nat.ble ((O.length+1)*24) room)=true:=by
 rw[J2,Qim,Bool.true_and];exact Nat.ble_eq_true_of_le (by unfold room;omega)
theorem pf2(x fs:PLq)(j:Nat):ib0 x fs (j+1)=ib0 x fs j++(if 0<(Bc1 x fs j).length then [Bc1 x fs j] else []):=by
 unfold ib0;rw[List.range_succ,List.map_append,Qiw];congr 1;by_cases h:0<(Bc1 x fs j).length
 ·rw[if_pos h];simp[h]
 ·rw[if_neg h];simp[h]
theorem Rd0(x fs:PLq)(j:Nat):(ib0 x fs j).length<=j:=by
 unfold ib0
 have:=Qjp (λc:PLq=>decide (0<c.length)) ((List.range j).map (Bc1 x fs))
 simpa using this
theorem pf7{α β:Type}(t:Ty α)(l:List α)(f:α->List β){j:Nat}(hj:j<l.length):(l.take (j+1)).flatMap f=(l.take j).flatMap f++f (gL t l j):=by
 rw[Qjn,Qaa hj,List.flatMap_append];simp[gL,Qda,Qaa hj]
theorem pf8{α:Type}(t:Ty α)(l:List α)(f:α->Bool){j:Nat}(hj:j<l.length):(l.take (j+1)).all f=((l.take j).all f&&f (gL t l j)):=by
 rw[Qjn,Qaa hj,List.all_append];simp[gL,Qda,Qaa hj]
theorem Ff6{q x:PLq}(h:(lean q).length<=48):(zb9 q x).length<=48:=by
 unfold zb9;split
 ·simp
 ·exact Qai (Rd0 _ _ _) h
theorem Je9{q:PLq}(h:(lean q).length<=48):∀l:LPq,(l.flatMap (zb9 q)).length<=48*l.length
 |[]=>by simp
 |x::l=>by
  have:=Je9 h l
  have:=Ff6 (x:=x) h
  simp only[List.flatMap_cons,Qdc,List.length_cons];omega
structure W0(q:PLq)(xs:LPq)(t:Nat)(s:kd2):Prop where
 y:xs.all (wb7 q)=true->t=phL (xs.flatMap (zb9 q))*3+3/\s.vb1=(xs.flatMap (zb9 q)).length/\s.eh3=bL tLq (xs.flatMap (zb9 q))
 n:xs.all (wb7 q)=false->t=1\/t=2\/t=4\/t=5
def ja5(x:LPq)(y:PLq):LPq×Int:=match ga3 x y with
 |some r=>(r,0)
 |none=>([],9)
theorem Ff7{α:Type}(t:Ty α)(l:List α)(n:Int):(two (r1L t) r1I).rd (.tup [eL t l,i n],[])=some (l,n):=by
 have h:(r1L t).rd [] (eL t l)=some l:=by
  show Bool.rec (motive:=λ_=>Option (List α)) none (some (rt t l)) (Bool.and (Nat.beq t.es t.es) (okE t l))=_
  rw[l9,A3,Qim];rfl
 simp only[two,h];rfl
theorem Ff8{α:Type}(t:Ty α)(k:Nat)(l:List α)(n:Int):(two (r1L t) r1I).rd (.tup [.sl 0 0 l.length 0,i n],[⟨k,t.es,bL t l,true,false,0⟩])=some (l,n):=by
 have h:(r1L t).rd [⟨k,t.es,bL t l,true,false,0⟩] (.sl 0 0 l.length 0)=some l:=Df3 t k l;simp only[two,h];rfl
def schk(s:LPq):Int:=if (s.length:Int)>16 then 2 else match s.find? λc=>chk c != 0 with
 |some c=>chk c
 |none=>0
theorem ue1{α:Type}(t:Ty α)(l:List α)(f:α->Bool)(h:l.any f=true):l.find? f=some (gL t l (l.findIdx f)):=by
 have hlt:l.findIdx f<l.length:=List.findIdx_lt_length.2 (Qiad.1 h);rw[List.find?_eq_some_iff_getElem];refine⟨?_,l.findIdx f,hlt,?_,λj hj=>?_⟩
 ·simp only[gL,Qda,Qaa hlt,Option.getD_some];exact List.findIdx_getElem (w:=hlt)
 ·simp[gL,Qda,Qaa hlt]
 ·have:=List.not_of_lt_findIdx hj
  simpa using this
theorem mg3{c:PLq}(h:chk c=0):c.length<=48:=(Fb3.1 h).1
theorem qf0{s:LPq}(h:schk s=0):s.length<=16/\∀c∈s,chk c=0:=by
 unfold schk at h
 split at h
 ·cases h
 ·refine⟨by omega,λc hc=>?_⟩
  cases hf:s.find? λc=>chk c != 0 with
  |none=>simpa using Qjs.1 hf c hc
  |some d =>
   rw[hf] at h
   have:=List.find?_some hf
   simp only at h
   rw[h] at this;cases this
theorem ld0{ps r:LPq}{q:PLq}(h:ga3 ps q=some r)(hp:ps.length<=200):r.length<=200:=by
 unfold ga3 at h
 split at h
 ·split at h
  ·rename_i h';injection h with h;subst h;rw[Qas] at h';exact of_decide_eq_true h'.2
  ·cases h
 ·injection h with h;subst h;exact hp
theorem Ff9(x fs:PLq)(j:Nat)(h:(ja4 x fs j).length<48):(Bc1 x fs j).length<=48:=by
 unfold Bc1
 have:=Qd7 (ja4 x fs j++[Oa2 (gL tP fs j)])
 rw[Qdc] at this;simp only[List.length_singleton] at this;omega
theorem yd2{ps r:LPq}{q:PLq}(h:ga3 ps q=some r)(hp:∀c∈ps,c.length<=48):∀c∈r,c.length<=48:=by
 unfold ga3 at h
 split at h
 ·split at h
  ·rename_i h';injection h with h;subst h;rw[Qas,Qcc] at h';intro c hc;obtain⟨x,hx,hc⟩:=Qcl.1 hc;have hr:=h'.1 x hx;unfold zb9 at hc;unfold wb7 at hr;cases ha:apart x q with
   |true=>rw[ha,if_pos rfl] at hc;rw[List.mem_singleton.1 hc];exact hp x hx
   |false =>
    rw[ha,if_neg (by decide)] at hc
    rw[ha,Bool.false_or] at hr;obtain⟨j,hj,rfl,_⟩:=Ff5.1 hc
    have:=Qcc.1 hr j (Qca.2 hj)
    exact Ff9 x _ j (by simpa using this)
  ·cases h
 ·injection h with h;subst h;exact hp
def Fb6(s:LPq)(o:Option LPq):Option LPq:=s.foldl (λst q=>st.bind λps=>ga3 ps q) o
def Jc4(x:PLq)(y:LPq):LPq×Int :=
 if chk x != 0 then ([],chk x) else if schk y != 0 then ([],schk y) else match Qd9 x y with
  |some r=>(r,0)
  |none=>([],9)
structure M0(c:PLq)(ys:LPq)(t:Nat)(s:Cd1):Prop where
 y:∀r,Fb6 ys (some [c])=some r->(ys=[]/\t=2)\/(ys≠[]/\t=4/\s.Lb5=r)
 n:Fb6 ys (some [c])=none->(t=1/\∃j,s.Cg2=((j:Nat):Int)/\ja5 [c] (gL tLq ys j)=([],9))\/(t=3/\∃j,s.Cg2=((j:Nat):Int)/\ja5 s.Lb5 (gL tLq ys j)=([],9)/\j<ys.length/\s.Lb5.length<=200/\∀c∈s.Lb5,c.length<=48)
theorem Rd1(s:LPq):Fb6 s none=none:=Cd7 s
theorem Ve6{ys:LPq}{j:Nat}(hj:j<ys.length)(o:Option LPq):Fb6 (ys.take (j+1)) o=(Fb6 (ys.take j) o).bind λps=>ga3 ps (gL tLq ys j):=by
 unfold Fb6;rw[Qjn,Qaa hj,Qjm];simp[gL,Qda,Qaa hj]
theorem Ke0(ys:LPq)(j:Nat)(o:Option LPq):Fb6 ys o=Fb6 (ys.drop j) (Fb6 (ys.take j) o):=by
 unfold Fb6;rw[<- Qjm,List.take_append_drop]
theorem qf1{c:PLq}(h:ful c=false):∀s:LPq,Qd9 c s=some []:=by
 intro s;unfold Qd9;rw[h,if_neg (by decide)]
 induction s with
 |nil=>rfl
 |cons q s ih =>
  have:ga3 [] q=some []:=by unfold ga3;split<;>rfl
  show s.foldl _ (ga3 [] q)=_;rw[this];exact ih
def ab9(x:LPq)(y:PLq):Bool×Int:=((Jc4 y x).2==0&&((Jc4 y x).1.length:Int)==0,(Jc4 y x).2)
def La2(c:PLq)(s:LPq):Bool:=!s.any λq=>!apart c q
theorem qf2{c q:PLq}(hc:c.length<=1000000)(hq:q.length<=1000000):jb9 ⟨q,c⟩=⟨1,!apart c q⟩:=by
 unfold jb9 Kb3;simp only[l9,A3,df0 (a:=c) (c:=q) (by omega) (by omega),df1 (a:=c) (c:=q) (by omega) (by omega),g7]
theorem je5(c:PLq)(s:LPq)(hc:c.length<=1000000)(hs:s.length<=1000000)(hl:∀q∈s,q.length<=1000000):gb8 c s=some (b (La2 c s),[]):=by
 have h:=jb8 (step:=M4 ⟨s,(s.length:Int)⟩) (mk:=λj=>(⟨(j:Int),c⟩:B6)) (c:=λq=>!apart c q) (u:=1) (fin:=2) tLq s (by omega)
  (λj hj=>by
   have hq:=hl _ (M1 tLq hj);simp only[M4,U9,Int.toNat_natCast,l9,s7,qf2 hc hq,A5 hj (show s.length<=4611686018427387904 by omega),g7,Bool.and_self]
   rw[btD (n8 hj),bt (l0 hj)]
   rfl)
  (by simp only[M4,U9];rw[bfD (w8 (Qie _))]) 0 (Qbv _)
 rw[Qic,Qar] at h;have hI:da3 ⟨s,c⟩=⟨1,if s.any (λq=>!apart c q) then ((s.findIdx (λq=>!apart c q):Nat):Int) else -1,c⟩:=by
  unfold da3 sa6;simp only[l9,s7];rw[show (⟨0,c⟩:B6)=⟨((0:Nat):Int),c⟩ from rfl,h]
  cases s.any (λq=>!apart c q)<;>rfl
 unfold gb8 La2 ja3 ja2;simp only[l9,s7,hI];cases hA:s.any (λq=>!apart c q) with
 |true =>
  simp only[if_true]
  have:decide (((s.findIdx (λq=>!apart c q):Nat):Int)>=0)=true:=decide_eq_true (by omega)
  rw[this];rfl
 |false=>rfl
theorem Rd2{c:PLq}{s:LPq}(hc:c.length<=1000000)(hs:s.length<=1000000)(hl:∀q∈s,q.length<=1000000):gb9 c s=La2 c s:=by unfold gb9;rw[je5 c s hc hs hl];rfl
theorem Rd3{c:PLq}{s:LPq}(hc:c.length<=1000000)(hs:s.length<=1000000)(hl:∀q∈s,q.length<=1000000):hb5 c s=true:=by unfold hb5;rw[je5 c s hc hs hl];rfl
def inR(s t:LPq):Bool×Int:=match s.find? λc=>!(ab9 t c).1 with
 |some c=>ab9 t c
 |none=>(true,0)
def Gf0(x y:LPq):Bool×Int:=if schk x != 0 then (false,schk x) else if schk y != 0 then (false,schk y) else if (inR x y).1 then inR y x else inR x y
end Go.Ev.Ce
namespace Go.Ev.Ce
def ad4(a b:V3):V3:=⟨a.x-b.x,a.y-b.y,a.z-b.z⟩
def N3(u w x:V3):V3:=C8 (ad4 w u) (ad4 x u)
def Sol(l:List V3):Prop:=∃a c k v,a∈l/\c∈l/\k∈l/\v∈l/\dot (N3 a c k) (ad4 v a)≠0
theorem Sol.off{l:List V3}(h:Sol l){n:V3}(hn:n≠⟨0,0,0⟩)(b:Int):∃v∈l,dot n v≠b:=by
 obtain⟨a,c,k,v,ha,hc,hk,hv,hd⟩:=h;by_cases h1:dot n a=b
 ·by_cases h2:dot n c=b
  ·by_cases h3:dot n k=b
   ·by_cases h4:dot n v=b
    ·exfalso;unfold N3 at hd;generalize hD:dot (C8 (ad4 c a) (ad4 k a)) (ad4 v a)=D at *
     have q1:dot n (ad4 c a)=0:=by unfold dot ad4 at *;grind
     have q2:dot n (ad4 k a)=0:=by unfold dot ad4 at *;grind
     have q3:dot n (ad4 v a)=0:=by unfold dot ad4 at *;grind
     generalize ad4 c a=p at *
     generalize ad4 k a=q at *
     generalize ad4 v a=r at *
     have i1:D*n.x=(C8 q r).x*dot n p+(C8 r p).x*dot n q+(C8 p q).x*dot n r:=by rw[<- hD];simp only[dot,C8];grind
     have i2:D*n.y=(C8 q r).y*dot n p+(C8 r p).y*dot n q+(C8 p q).y*dot n r:=by rw[<- hD];simp only[dot,C8];grind
     have i3:D*n.z=(C8 q r).z*dot n p+(C8 r p).z*dot n q+(C8 p q).z*dot n r:=by rw[<- hD];simp only[dot,C8];grind
     rw[q1,q2,q3] at i1 i2 i3;have z:∀{x:Int},D*x=0->x=0:=λh=>(Qjj.1 h).resolve_left hd
     exact hn (V3.ext' (z (by omega)) (z (by omega)) (z (by omega)))
    ·exact⟨v,hv,h4⟩
   ·exact⟨k,hk,h3⟩
  ·exact⟨c,hc,h2⟩
 ·exact⟨a,ha,h1⟩
theorem Sol.ne{l:List V3}(h:Sol l):∃v,v∈l:=by obtain⟨a,_,_,_,ha,_⟩:=h;exact⟨a,ha⟩
structure Fac(l:List V3)(n:V3)(b:Int):Prop where
 hd:∀v∈l,dot n v<=b
 on:∃u w x,u∈l/\w∈l/\x∈l/\N3 u w x≠⟨0,0,0⟩/\dot n u=b/\dot n w=b/\dot n x=b
end Go.Ev.Ce
namespace Go.Ev.Ce
open Go Go.Ev Go.Ev.L Go.Proofs
structure Og6(l:List V3)(p:Pln):Prop extends Fac l p.n p.b where
 ok:okp p=true
def Fv:V3:=⟨10000,100,1⟩
structure Crs(l:List V3)(p:Pln)(v:V3):Prop where
 h:∃u w,u∈l/\w∈l/\dot p.n u=p.b/\dot p.n w=p.b/\dot Fv w<dot Fv v/\dot Fv v<dot Fv u/\N3 v u w≠⟨0,0,0⟩
 on:dot p.n v=p.b
section
variable{l:List V3}(hl:l.all inV=true)
include hl
end
structure Mc(c:PLq):Prop where
 g:te9 c
 l:c.length<=12
structure Ms(y:Nat)(s:LPq):Prop where
 n:s.length<=y
 c:∀c∈s,Mc c
structure Bnd(n m:Nat)(ps:LPq):Prop where
 n:ps.length<=n
 m:∀x∈ps,x.length<=m
def Cov(s:LPq)(c:PLq):Prop:=ful c=true->∀z,Inr (c++ws) z->∃q∈s,ful q=true/\Inr (q++ws) z
theorem Cov.mono{s t:LPq}{c:PLq}(h:Cov s c)(hs:∀q∈s,q∈t):Cov t c:=λhf z hz=>by
 obtain⟨q,hq,h2⟩:=h hf z hz;exact⟨q,hs q hq,h2⟩
theorem Sf8{s:LPq}(hn:s.length<=16)(hs:∀q∈s,(chk q==0)=true):schk s=0:=by
 unfold schk;rw[if_neg (by omega),Qjs.2 λq hq=>by have:=hs q hq;rw[beq_iff_eq] at this;simp[this]]
theorem Mc.chk{c:PLq}(h:Mc c):(chk c==0)=true:=h.g.chk
theorem Mc.ful{c:PLq}(h:Mc c):ful c=true:=h.g.ful
theorem Ms.schk{y:Nat}{s:LPq}(h:Ms y s)(hy:y<=16):schk s=0:=Sf8 (Qai h.n hy) λq hq=>(h.c q hq).chk
structure Und(c U:PLq)(n:Nat)(ps:LPq):Prop where
 n:ps.length<=n
 d:∀x∈ps,x.Nodup/\(∀p∈x,p∈U)/\ful x=true/\∀z,Inr (x++ws) z->Inr (c++ws) z
def Gf1(c:PLq):PLq:=if ful c then c.foldl (db6 (pts c)) [] else []
theorem mg4:lean=Gf1:=by
 funext c;unfold lean Gf1;rw[Je6]
section
variable(L:PLq->PLq)
end
def bx(x y z u v w:Int):PLq:=[⟨⟨1,0,0⟩,u⟩,⟨⟨-1,0,0⟩,-x⟩,⟨⟨0,1,0⟩,v⟩,⟨⟨0,-1,0⟩,-y⟩,⟨⟨0,0,1⟩,w⟩,⟨⟨0,0,-1⟩,-z⟩]
theorem gc3(x y z u v w:Int):(bx x y z u v w).length=6:=rfl
structure Og7(own:PLq)(s r:LPq):Prop where
 m:Jc4 own s=(r,0)
 n:r.length<=144
 l:∀x∈r,x.length<=37
 full:∀x∈r,ful x=true
 lies:∀x∈r,Ce.lies x own=true
 off:∀x∈r,La2 x s=true
 dis:∀j,j<r.length->La2 (gL tLq r j) (r.take j)=true
 all:(s++r).length<=16->ab9 (s++r) own=(true,0)
 self:r.length<=16->(ab9 r own).2=9\/((ab9 r own).2=0/\(ab9 r own).1=La2 own s)
theorem Ke1{α:Type}(t:Ty α)(l:List α)(j:Nat)(h:j<=l.length):lsL t (j-0) (λk=>(λk=>t.row (gL t l k)) (0+k))=l.take j/\okL t (j-0) (λk=>(λk=>t.row (gL t l k)) (0+k))=true:=by
 refine⟨Ec3 t (by rw[Qia];omega) λk hk=>?_,pc3 t (f:=λk=>gL t l (0+k)) λ_ _=>rfl⟩
 simp only[Qar];congr 1;simp only[gL,Qda];rw[Qap,if_pos (by omega)]
theorem Ke2{α:Type}(t:Ty α)(l:List α){n:Nat}(h:n=l.length):lsL t n (λk=>c8 (bL t l) k)=l/\okL t n (λk=>c8 (bL t l) k)=true:=by
 subst h;exact⟨Ec3 t rfl λk hk=>by rw[X5 t hk],pc3 t (f:=λk=>gL t l k) λk hk=>by rw[X5 t hk]⟩
set_option maxRecDepth 100000
def ld1:List (Nat×Sum):=[(70,Ta2)]
theorem Zd1:A4 prog G ld1:=⟨ab3,trivial⟩
def Jc5(p:ua4)(s:ha5):St:=⟨eL tLq p.n7::.unk::.unk::i s.is3::ra 18 [],[]⟩
def kb4{α:Type}(k:ha5->α)(e:Nat->α)(z:α)(p:ua4)(s:ha5):α:=let y0:=(gL tLq p.n7 s.is3.toNat);let t1:=(W5 (rt tP y0));(sl (decide (s.is3<(↑(List.length p.n7):Int))) (sl (inB s.is3 (List.length p.n7)) (sl (okE tP y0) (sl (qa6 (rt tP y0)) (sl (t1 != 0) (e 1) (k ⟨W (s.is3+1)⟩)) z) z) z) (e 2))
def Xa0(p:ua4)(s:ha5):Stp ha5:=kb4 .next .exit .fail p s
def gc4:Lo ua4 ha5:=⟨En ld1,0,vg6,[1,1,0,1,4,4],[0,3],.p,[⟨sLq tLq::sUq::sUq::sIq::ru2 18 [],[],λa H=>(⟨aLq tLq a 0⟩,⟨aIq a 3⟩)⟩],Xa0,[(none,λp s=>let t1:=(W5 (rt tP (gL tLq p.n7 s.is3.toNat)));⟨[i t1],[]⟩),(some 0,λp s=>upq (Jc5 p s) [(8,i s.is3),(9,eL tLq p.n7),(10,i (↑(List.length p.n7):Int)),(11,b (decide (s.is3<(↑(List.length p.n7):Int))))])],Jc5⟩
theorem Rd4:gc4.Ok:=Qjt [] .nil λp s=>(.ofq @kb4)
def Fb7(x:LPq):ROq:=let t1:=(lp (Xa0 (⟨rt tLq x⟩:ua4)) (⟨0⟩:ha5));let t2:=(W5 (rt tP (gL tLq (rt tLq x) t1.2.is3.toNat)));(sl (decide ((↑(List.length x):Int)>16)) (some (i 2,[])) (sl ((cnE tLq x)&&true) (sl (Nat.beq t1.1 1) (some (i t2,[])) (sl (Nat.beq t1.1 2) (some (i 0,[])) none)) none))
def bc2(x:LPq):Int:=L9 (one r1I) (Fb7 x)
def bc3(x:LPq):Bool:=okO (one r1I) (Fb7 x)
def yd3:Sum:=S7 (M3 tLq) (λx=>.guard (bc3 x) (.ret ((one r1I).enc (bc2 x),[])))
theorem ue2:l8 prog G 96 yd3:=Sc3 (bd b96 Zd1) (one r1I) (o:=Fb7) λx=>Q3 (.s .p (.s .p (.s (.s .p (.b (.u gc4.ls))) .p))) [gc4.pr] (.cons Rd4 .nil)
def Vb6(x:PLq)(y:Pln):ROq:=let y0:=(List.range (List.length x));(sl (Nat.beq 0 0&&Nat.ble ((0+(len (s5 (λk=>(tP).row (gL tP x k)) y0)))*32) room) (sl (Nat.beq (0+(len (s5 (λk=>(tP).row (gL tP x k)) y0))) (len (app [] (s5 (λk=>(tP).row (gL tP x k)) y0)))&&Nat.ble (((0+(len (s5 (λk=>(tP).row (gL tP x k)) y0)))+1)*32) room) (some ((.sl 0 0 ((0+(len (s5 (λk=>(tP).row (gL tP x k)) y0)))+1) 0),[(bq 66 4 (app (app [] (s5 (λk=>(tP).row (gL tP x k)) y0)) [[i y.n.x,i y.n.y,i y.n.z,i y.b]]))])) none) none)
def Ab0(x:PLq)(y:Pln):PLq:=L9 (one (r1L tP)) (Vb6 x y)
def Xa1(x:PLq)(y:Pln):Bool:=okO (one (r1L tP)) (Vb6 x y)
def Rd5:Sum:=Z7 (M3 tP) (na7 tP) (λx y=>.guard (Xa1 x y) (.ret ((one (r1L tP)).enc (Ab0 x y),[])))
theorem Ke3:l8 prog G 143 Rd5:=Sb2 (bd Lg7 ya0) (one (r1L tP)) (o:=Vb6)
def ld2:List (Nat×Sum):=[(67,rc8),(143,Rd5),(97,tc2)]
theorem Zd2:A4 prog G ld2:=⟨Hc4,Ke3,Jc2,trivial⟩
structure qa7 where
 T7:PLq
structure I8 where
 ph:Nat
 ob4:PLq
 is8:Int
 ns6:Nat
 eh0:List (List b7)
def yc0(p:qa7)(s:I8):St:=⟨.unk::eL tP p.T7::ra 4 (nlq::eL tP s.ob4::i s.is8::ra 34 []),[]⟩
def yc1(p:qa7)(s:I8):St:=⟨.unk::eL tP p.T7::ra 4 (.sl 0 0 s.ns6 0::eL tP s.ob4::i s.is8::ra 34 []),[bq 35 1 s.eh0]⟩
def Rd6(p:qa7)(s:I8):St:=(sel (Nat.beq s.ph 1) (yc1 p s) (yc0 p s))
def T8{α:Type}(k:I8->α)(e:Nat->α)(z:α)(p:qa7)(s:I8):α:=let y1:=(inB s.is8 (List.length p.T7));let y0:=(gL tP p.T7 s.is8.toNat);let t1:=(Va8 y0);let t2:=(Ab0 (rt tP s.ob4) t1);let t3:=(ta1 (rt tP t2));let t4:=(Ab0 (rt tP s.ob4) y0);let t5:=(ta1 (rt tP t4));(sl (decide (s.is8<(↑(List.length p.T7):Int))) (sl (decide ((↑(List.length s.ob4):Int)>=48)) (e 1) (sl y1 (sl (okE tP s.ob4) (sl (Xa1 (rt tP s.ob4) t1) (sl (okE tP t2) (sl (ta2 (rt tP t2)) (sl (decide ((↑(List.length t3):Int)>0)) (sl y1 (sl (okE tP s.ob4) (sl (Xa1 (rt tP s.ob4) y0) (sl (okE tP t4) (sl (ta2 (rt tP t4)) (k ⟨1,t5,W (s.is8+1),1,[[eL tP t3]]⟩) z) z) z) z) z) (sl y1 (sl (okE tP s.ob4) (sl (Xa1 (rt tP s.ob4) y0) (sl (okE tP t4) (sl (ta2 (rt tP t4)) (k ⟨0,t5,W (s.is8+1),0,[]⟩) z) z) z) z) z)) z) z) z) z) z)) (e 2))
def T9{α:Type}(k:I8->α)(e:Nat->α)(z:α)(p:qa7)(s:I8):α:=let y1:=(inB s.is8 (List.length p.T7));let y0:=(gL tP p.T7 s.is8.toNat);let t1:=(Va8 y0);let t2:=(Ab0 (rt tP s.ob4) t1);let t3:=(ta1 (rt tP t2));let t4:=(Ab0 (rt tP s.ob4) y0);let t5:=(ta1 (rt tP t4));(sl (decide (s.is8<(↑(List.length p.T7):Int))) (sl (decide ((↑(List.length s.ob4):Int)>=48)) (e 1) (sl y1 (sl (okE tP s.ob4) (sl (Xa1 (rt tP s.ob4) t1) (sl (okE tP t2) (sl (ta2 (rt tP t2)) (sl (decide ((↑(List.length t3):Int)>0)) (sl (Nat.beq s.ns6 (len s.eh0)&&Nat.ble ((s.ns6+1)*24) room) (sl y1 (sl (okE tP s.ob4) (sl (Xa1 (rt tP s.ob4) y0) (sl (okE tP t4) (sl (ta2 (rt tP t4)) (k ⟨1,t5,W (s.is8+1),s.ns6+1,app s.eh0 [[eL tP t3]]⟩) z) z) z) z) z) z) (sl y1 (sl (okE tP s.ob4) (sl (Xa1 (rt tP s.ob4) y0) (sl (okE tP t4) (sl (ta2 (rt tP t4)) (k ⟨1,t5,W (s.is8+1),s.ns6,s.eh0⟩) z) z) z) z) z)) z) z) z) z) z)) (e 3))
def da5(p:qa7)(s:I8):Stp I8:=(sel (Nat.beq s.ph 1) (T9 .next .exit .fail p s) (T8 .next .exit .fail p s))
def gc5:Lo qa7 I8:=⟨En ld2,0,Zf2,[1,1,1,0,1,4,4],[1,6,7,8],.p,[⟨sUq::sLq tP::ru2 4 (.s (.o .nil)::sLq tP::sIq::ru2 34 []),[],λa H=>(⟨aLq tP a 1⟩,⟨0,aLq tP a 7,aIq a 8,0,[]⟩)⟩,⟨sUq::sLq tP::ru2 4 (.s (.o (.sl 0 0 (some 0) none))::sLq tP::sIq::ru2 34 []),[⟨35,1,true,none⟩],λa H=>(⟨aLq tP a 1⟩,⟨1,aLq tP a 7,aIq a 8,slN (slT a 6),elT H 0⟩)⟩],da5,[(none,λp s=>⟨[.tup [nlq,i 9]],[]⟩),(some 0,λp s=>upq (yc0 p s) [(11,i s.is8),(12,eL tP p.T7),(13,i (↑(List.length p.T7):Int)),(14,b (decide (s.is8<(↑(List.length p.T7):Int))))]),(some 0,λp s=>upq (yc1 p s) [(11,i s.is8),(12,eL tP p.T7),(13,i (↑(List.length p.T7):Int)),(14,b (decide (s.is8<(↑(List.length p.T7):Int))))])],Rd6⟩
theorem Rd7:gc5.Ok:=Qjt [] .nil λp s=>(.sel (Nat.beq s.ph 1) (.ofq @T9) (.ofq @T8))
def Fb8(x:PLq)(y:PLq):ROq:=let t1:=(lp (da5 (⟨rt tP y⟩:qa7)) (⟨0,rt tP x,0,0,[]⟩:I8));(sl ((cnE tP y)&&((cnE tP x)&&true)) (sl (Nat.beq t1.1 1) (some (.tup [nlq,i 9],[])) (sl (Nat.beq t1.1 2) (some (.tup [nlq,i 0],[])) (sl (Nat.beq t1.1 3) (some (.tup [.sl 0 0 t1.2.ns6 0,i 0],[bq 35 1 t1.2.eh0])) none))) none)
def nb8(x:PLq)(y:PLq):LPq×Int:=L9 (two (r1L tLq) r1I) (Fb8 x y)
def bc4(x:PLq)(y:PLq):Bool:=okO (two (r1L tLq) r1I) (Fb8 x y)
def yd4:Sum:=Z7 (M3 tP) (M3 tP) (λx y=>.guard (bc4 x y) (.ret ((two (r1L tLq) r1I).enc (nb8 x y),[])))
theorem ue3:l8 prog G 123 yd4:=dc7 (bd Jg8 Zd2) (two (r1L tLq) r1I) (o:=Fb8) λx y=>Q3 (.s .p (.s .p (.s .p (.s (.s .p (.b (.u gc5.ls))) .p)))) [gc5.pr] (.cons Rd7 .nil)
def Jc6:List (Nat×Sum):=[(40,yb6),(41,Fb2),(97,tc2),(123,yd4)]
theorem Cd8:A4 prog G Jc6:=⟨Db0,Ob4,Jc2,ue3,trivial⟩
structure Z0 where
 n7:LPq
 T7:PLq
structure C7 where
 ph:Nat
 is7:Int
 ns6:Nat
 eh0:List (List b7)
def bc5(p:Z0)(s:C7):St:=⟨eL tLq p.n7::eL tP p.T7::ra 4 (nlq::i s.is7::ra 45 []),[]⟩
def bc6(p:Z0)(s:C7):St:=⟨eL tLq p.n7::eL tP p.T7::ra 4 (.sl 0 0 s.ns6 0::i s.is7::ra 45 []),[bq 35 1 s.eh0]⟩
def td2(p:Z0)(s:C7):St:=(sel (Nat.beq s.ph 1) (bc6 p s) (bc5 p s))
def I1{α:Type}(k:C7->α)(e:Nat->α)(z:α)(p:Z0)(s:C7):α:=let y2:=(inB s.is7 (List.length p.n7));let y0:=(gL tLq p.n7 s.is7.toNat);let t1:=(za2 (rt tP y0) (rt tP p.T7));let t2:=(ta1 (rt tP p.T7));let t3:=(nb8 (rt tP y0) (rt tP t2));let y1:=(List.range (List.length t3.1));(sl (decide (s.is7<(↑(List.length p.n7):Int))) (sl y2 (sl (okE tP y0) (sl (okE tP p.T7) (sl (za3 (rt tP y0) (rt tP p.T7)) (sl t1 (sl y2 (k ⟨1,W (s.is7+1),1,[[eL tP y0]]⟩) z) (sl y2 (sl (okE tP p.T7) (sl (ta2 (rt tP p.T7)) (sl (okE tP y0) (sl (okE tP t2) (sl (bc4 (rt tP y0) (rt tP t2)) (sl (t3.2 != 0) (e 1) (sl (Nat.beq (len (s5 (λk=>(tLq).row (gL tLq t3.1 k)) y1)) 0) (k ⟨0,W (s.is7+1),0,[]⟩) (sl (Nat.ble ((len (s5 (λk=>(tLq).row (gL tLq t3.1 k)) y1))*24) room) (k ⟨1,W (s.is7+1),(len (s5 (λk=>(tLq).row (gL tLq t3.1 k)) y1)),(s5 (λk=>(tLq).row (gL tLq t3.1 k)) y1)⟩) z))) z) z) z) z) z) z)) z) z) z) z) (e 2))
def L6{α:Type}(k:C7->α)(e:Nat->α)(z:α)(p:Z0)(s:C7):α:=let y1:=(inB s.is7 (List.length p.n7));let y0:=(gL tLq p.n7 s.is7.toNat);let t1:=(za2 (rt tP y0) (rt tP p.T7));let t2:=(ta1 (rt tP p.T7));let t3:=(nb8 (rt tP y0) (rt tP t2));let y2:=(List.range (List.length t3.1));(sl (decide (s.is7<(↑(List.length p.n7):Int))) (sl y1 (sl (okE tP y0) (sl (okE tP p.T7) (sl (za3 (rt tP y0) (rt tP p.T7)) (sl t1 (sl y1 (sl (Nat.beq s.ns6 (len s.eh0)&&Nat.ble ((s.ns6+1)*24) room) (k ⟨1,W (s.is7+1),s.ns6+1,app s.eh0 [[eL tP y0]]⟩) z) z) (sl y1 (sl (okE tP p.T7) (sl (ta2 (rt tP p.T7)) (sl (okE tP y0) (sl (okE tP t2) (sl (bc4 (rt tP y0) (rt tP t2)) (sl (t3.2 != 0) (e 3) (sl (Nat.beq s.ns6 (len s.eh0)&&Nat.ble ((s.ns6+(len (s5 (λk=>(tLq).row (gL tLq t3.1 k)) y2)))*24) room) (k ⟨1,W (s.is7+1),(s.ns6+(len (s5 (λk=>(tLq).row (gL tLq t3.1 k)) y2))),(app s.eh0 (s5 (λk=>(tLq).row (gL tLq t3.1 k)) y2))⟩) z)) z) z) z) z) z) z)) z) z) z) z) (e 4))
def L4(p:Z0)(s:C7):Stp C7:=(sel (Nat.beq s.ph 1) (L6 .next .exit .fail p s) (I1 .next .exit .fail p s))
def Vb7(p:Z0)(s:C7):St:=let t2:=(ta1 (rt tP p.T7));let t3:=(nb8 (rt tP (gL tLq p.n7 s.is7.toNat)) (rt tP t2));⟨[.tup [nlq,i t3.2]],[]⟩
def Kb7:Lo Z0 C7:=⟨En Jc6,0,vg7,[1,1,1,0,1,4,4],[0,1,6,7],.p,[⟨sLq tLq::sLq tP::ru2 4 (.s (.o .nil)::sIq::ru2 45 []),[],λa H=>(⟨aLq tLq a 0,aLq tP a 1⟩,⟨0,aIq a 7,0,[]⟩)⟩,⟨sLq tLq::sLq tP::ru2 4 (.s (.o (.sl 0 0 (some 0) none))::sIq::ru2 45 []),[⟨35,1,true,none⟩],λa H=>(⟨aLq tLq a 0,aLq tP a 1⟩,⟨1,aIq a 7,slN (slT a 6),elT H 0⟩)⟩],L4,[(none,λp s=>Vb7 p s),(some 0,λp s=>upq (bc5 p s) [(14,i s.is7),(15,eL tLq p.n7),(16,i (↑(List.length p.n7):Int)),(17,b (decide (s.is7<(↑(List.length p.n7):Int))))]),(none,λp s=>upq (Vb7 p s) []),(some 0,λp s=>upq (bc6 p s) [(14,i s.is7),(15,eL tLq p.n7),(16,i (↑(List.length p.n7):Int)),(17,b (decide (s.is7<(↑(List.length p.n7):Int))))])],td2⟩
theorem td3:Kb7.Ok:=Qjt [] .nil λp s=>(.sel (Nat.beq s.ph 1) (.ofq @L6) (.ofq @I1))
def ib2(x:LPq)(y:PLq):ROq:=let t1:=(Ka0 (rt tP y));let t2:=(lp (L4 (⟨rt tLq x,rt tP y⟩:Z0)) (⟨0,0,0,[]⟩:C7));let t3:=(ta1 (rt tP (rt tP y)));let t4:=(nb8 (rt tP (gL tLq (rt tLq x) t2.2.is7.toNat)) (rt tP t3));(sl (okE tP y) (sl (Ka1 (rt tP y)) (sl (!t1) (some (.tup [eL tLq x,i 0],[])) (sl ((cnE tLq x)&&((cnE tP y)&&true)) (sl (Nat.beq t2.1 1) (some (.tup [nlq,i t4.2],[])) (sl (Nat.beq t2.1 2) (some (.tup [nlq,i 0],[])) (sl (Nat.beq t2.1 3) (some (.tup [nlq,i t4.2],[])) (sl (Nat.beq t2.1 4) (sl (decide ((↑t2.2.ns6:Int)>200)) (some (.tup [nlq,i 9],[])) (some (.tup [.sl 0 0 t2.2.ns6 0,i 0],[bq 35 1 t2.2.eh0]))) none)))) none)) none) none)
def L7(x:LPq)(y:PLq):LPq×Int:=L9 (two (r1L tLq) r1I) (ib2 x y)
def ib3(x:LPq)(y:PLq):Bool:=okO (two (r1L tLq) r1I) (ib2 x y)
def Wc4:Sum:=Z7 (M3 tLq) (M3 tP) (λx y=>.guard (ib3 x y) (.ret ((two (r1L tLq) r1I).enc (L7 x y),[])))
theorem Rd8:l8 prog G 98 Wc4:=dc7 (bd b98 Cd8) (two (r1L tLq) r1I) (o:=ib2) λx y=>Q3 (.s .p (.s .p (.s .p (.s (.s .p (.b (.u Kb7.ls))) .p)))) [Kb7.pr] (.cons td3 .nil)
def ld3:List (Nat×Sum):=[(70,Ta2),(96,yd3),(40,yb6),(97,tc2),(98,Wc4)]
theorem Zd3:A4 prog G ld3:=⟨ab3,ue2,Db0,Jc2,Rd8,trivial⟩
structure X9 where
 S3:LPq
 m8:PLq
structure D6 where
 ph:Nat
 is8:Int
 Za3:LPq
def yc2(p:X9)(s:D6):St:=⟨.unk::eL tLq p.S3::ra 5 (.sl 0 0 1 0::i s.is8::ra 38 []),[bq 35 1 [[eL tP p.m8]]]⟩
def yc3(p:X9)(s:D6):St:=⟨.unk::eL tLq p.S3::ra 5 (eL tLq s.Za3::i s.is8::ra 38 []),[]⟩
def yc4(p:X9)(s:D6):St:=⟨.unk::eL tLq p.S3::ra 5 (nlq::i s.is8::ra 38 []),[]⟩
def Rd9(p:X9)(s:D6):St:=(sel (Nat.beq s.ph 2) (yc4 p s) (sel (Nat.beq s.ph 1) (yc3 p s) (yc2 p s)))
def fa4{α:Type}(k:D6->α)(e:Nat->α)(z:α)(p:X9)(s:D6):α:=let y0:=(gL tLq p.S3 s.is8.toNat);let t1:=(L7 [rt tP p.m8] (rt tP y0));(sl (decide (s.is8<(↑(List.length p.S3):Int))) (sl (inB s.is8 (List.length p.S3)) (sl ((okE tP p.m8)&&true) (sl (okE tP y0) (sl (ib3 [rt tP p.m8] (rt tP y0)) (sl (t1.2 != 0) (e 1) (k ⟨1,W (s.is8+1),t1.1⟩)) z) z) z) z) (e 2))
def L0{α:Type}(k:D6->α)(e:Nat->α)(z:α)(p:X9)(s:D6):α:=let y0:=(gL tLq p.S3 s.is8.toNat);let t1:=(L7 (rt tLq s.Za3) (rt tP y0));(sl (decide (s.is8<(↑(List.length p.S3):Int))) (sl (inB s.is8 (List.length p.S3)) (sl (okE tLq s.Za3) (sl (okE tP y0) (sl (ib3 (rt tLq s.Za3) (rt tP y0)) (sl (t1.2 != 0) (e 3) (k ⟨1,W (s.is8+1),t1.1⟩)) z) z) z) z) (e 4))
def wa7{α:Type}(k:D6->α)(e:Nat->α)(z:α)(p:X9)(s:D6):α:=let y0:=(gL tLq p.S3 s.is8.toNat);let t1:=(L7 [] (rt tP y0));(sl (decide (s.is8<(↑(List.length p.S3):Int))) (sl (inB s.is8 (List.length p.S3)) (sl (okE tP y0) (sl (ib3 [] (rt tP y0)) (sl (t1.2 != 0) (e 5) (k ⟨1,W (s.is8+1),t1.1⟩)) z) z) z) (e 6))
def J9(p:X9)(s:D6):Stp D6:=(sel (Nat.beq s.ph 2) (wa7 .next .exit .fail p s) (sel (Nat.beq s.ph 1) (L0 .next .exit .fail p s) (fa4 .next .exit .fail p s)))
def gc6:Lo X9 D6:=⟨En ld3,0,vg3,[1,1,1,1,1,1,0,1,4,4],[1,7,8],.p,[⟨sUq::sLq tLq::ru2 5 (.s (.o (.sl 0 0 (some 0) (some 1)))::sIq::ru2 38 []),[⟨35,1,true,some [[.c 4 (nL tP)]]⟩],λa H=>(⟨aLq tLq a 1,hLq tP H 0 0 0⟩,⟨0,aIq a 8,[]⟩)⟩,⟨sUq::sLq tLq::ru2 5 (sLq tLq::sIq::ru2 38 []),[],λa H=>(⟨aLq tLq a 1,[]⟩,⟨1,aIq a 8,aLq tLq a 7⟩)⟩,⟨sUq::sLq tLq::ru2 5 (.s (.o .nil)::sIq::ru2 38 []),[],λa H=>(⟨aLq tLq a 1,[]⟩,⟨2,aIq a 8,[]⟩)⟩],J9,[(none,λp s=>let t1:=(L7 [rt tP p.m8] (rt tP (gL tLq p.S3 s.is8.toNat)));⟨[.tup [nlq,i t1.2]],[]⟩),(some 0,λp s=>upq (yc2 p s) [(27,i s.is8),(28,eL tLq p.S3),(29,i (↑(List.length p.S3):Int)),(30,b (decide (s.is8<(↑(List.length p.S3):Int))))]),(none,λp s=>let t1:=(L7 (rt tLq s.Za3) (rt tP (gL tLq p.S3 s.is8.toNat)));⟨[.tup [nlq,i t1.2]],[]⟩),(some 0,λp s=>upq (yc3 p s) [(27,i s.is8),(28,eL tLq p.S3),(29,i (↑(List.length p.S3):Int)),(30,b (decide (s.is8<(↑(List.length p.S3):Int))))]),(none,λp s=>let t1:=(L7 [] (rt tP (gL tLq p.S3 s.is8.toNat)));⟨[.tup [nlq,i t1.2]],[]⟩),(some 0,λp s=>upq (yc4 p s) [(27,i s.is8),(28,eL tLq p.S3),(29,i (↑(List.length p.S3):Int)),(30,b (decide (s.is8<(↑(List.length p.S3):Int))))])],Rd9⟩
theorem Sd0:gc6.Ok:=Qjt [] .nil λp s=>(.sel (Nat.beq s.ph 2) (.ofq @wa7) (.sel (Nat.beq s.ph 1) (.ofq @L0) (.ofq @fa4)))
def Fb9(x:PLq)(y:LPq):ROq:=let t1:=(W5 (rt tP x));let t2:=(bc2 (rt tLq y));let t3:=(Ka0 (rt tP x));let t4:=(ta1 (rt tP x));let t5:=(lp (J9 (⟨rt tLq y,rt tP t4⟩:X9)) (⟨0,0,[]⟩:D6));let y0:=(rt tP (gL tLq (rt tLq y) t5.2.is8.toNat));let t6:=(L7 [rt tP (rt tP t4)] y0);let t7:=(L7 (rt tLq t5.2.Za3) y0);let t8:=(L7 [] y0);let t9:=(lp (J9 (⟨rt tLq y,[]⟩:X9)) (⟨2,0,[]⟩:D6));let y1:=(rt tP (gL tLq (rt tLq y) t9.2.is8.toNat));let t10:=(L7 [rt tP []] y1);let t11:=(L7 (rt tLq t9.2.Za3) y1);let t12:=(L7 [] y1);let w0:ROq:=(sl (okE tP x) (sl (Ka1 (rt tP x)) (sl t3 (sl (okE tP x) (sl (ta2 (rt tP x)) (sl ((cnE tLq y)&&((cnE tP t4)&&true)) (sl (Nat.beq t5.1 1) (some (.tup [nlq,i t6.2],[])) (sl (Nat.beq t5.1 2) (some (.tup [.sl 0 0 1 0,i 0],[bq 35 1 [[eL tP (rt tP t4)]]])) (sl (Nat.beq t5.1 3) (some (.tup [nlq,i t7.2],[])) (sl (Nat.beq t5.1 4) (some (.tup [eL tLq t5.2.Za3,i 0],[])) (sl (Nat.beq t5.1 5) (some (.tup [nlq,i t8.2],[])) (sl (Nat.beq t5.1 6) (some (.tup [nlq,i 0],[])) none)))))) none) none) none) (sl ((cnE tLq y)&&true) (sl (Nat.beq t9.1 1) (some (.tup [nlq,i t10.2],[])) (sl (Nat.beq t9.1 2) (some (.tup [.sl 0 0 1 0,i 0],[bq 35 1 [[eL tP []]]])) (sl (Nat.beq t9.1 3) (some (.tup [nlq,i t11.2],[])) (sl (Nat.beq t9.1 4) (some (.tup [eL tLq t9.2.Za3,i 0],[])) (sl (Nat.beq t9.1 5) (some (.tup [nlq,i t12.2],[])) (sl (Nat.beq t9.1 6) (some (.tup [nlq,i 0],[])) none)))))) none)) none) none);(sl (okE tP x) (sl (qa6 (rt tP x)) (sl (t1==0) (sl (okE tLq y) (sl (bc3 (rt tLq y)) (sl (t2 != 0) (some (.tup [nlq,i t2],[])) w0) none) none) (sl (t1 != 0) (some (.tup [nlq,i t1],[])) w0)) none) none)
def Jc7(x:PLq)(y:LPq):LPq×Int:=L9 (two (r1L tLq) r1I) (Fb9 x y)
def Jc8(x:PLq)(y:LPq):Bool:=okO (two (r1L tLq) r1I) (Fb9 x y)
def yd5:Sum:=Z7 (M3 tP) (M3 tLq) (λx y=>.guard (Jc8 x y) (.ret ((two (r1L tLq) r1I).enc (Jc7 x y),[])))
theorem ue4:l8 prog G 76 yd5:=dc7 (bd b76 Zd3) (two (r1L tLq) r1I) (o:=Fb9) λx y=>Q3 (.s .p (.s .p (.s .p (.s .p (.s .p (.s .p (.s (.s .p (.b (.u gc6.ls))) .p))))))) [gc6.pr] (.cons Sd0 .nil)
def Zd4:List (Nat×Sum):=[(76,yd5)]
theorem Sd1:A4 prog G Zd4:=⟨ue4,trivial⟩
def ub0(x:LPq)(y:PLq):ROq:=let t1:=(Jc7 (rt tP y) (rt tLq x));(sl (okE tP y) (sl (okE tLq x) (sl (Jc8 (rt tP y) (rt tLq x)) (sl (t1.2==0) (some (.tup [b ((↑(List.length t1.1):Int)==0),i t1.2],[])) (some (.tup [b false,i t1.2],[]))) none) none) none)
def E6(x:LPq)(y:PLq):Bool×Int:=L9 (two r1B r1I) (ub0 x y)
def za6(x:LPq)(y:PLq):Bool:=okO (two r1B r1I) (ub0 x y)
def ld4:Sum:=Z7 (M3 tLq) (M3 tP) (λx y=>.guard (za6 x y) (.ret ((two r1B r1I).enc (E6 x y),[])))
theorem Zd5:l8 prog G 54 ld4:=Sb2 (bd b54 Sd1) (two r1B r1I) (o:=ub0)
def ld5:List (Nat×Sum):=[(41,Fb2)]
theorem Zd6:A4 prog G ld5:=⟨Ob4,trivial⟩
structure ib4 where
 g9:PLq
 S3:LPq
def Jc9(p:ib4)(s:Ja9):St:=⟨eL tP p.g9::eL tLq p.S3::ra 3 (i s.is5::ra 13 []),[]⟩
def kb5{α:Type}(k:Ja9->α)(e:Nat->α)(z:α)(p:ib4)(s:Ja9):α:=let y0:=(gL tLq p.S3 s.is5.toNat);let t1:=(za2 (rt tP p.g9) (rt tP y0));(sl (decide (s.is5<(↑(List.length p.S3):Int))) (sl (inB s.is5 (List.length p.S3)) (sl (okE tP p.g9) (sl (okE tP y0) (sl (za3 (rt tP p.g9) (rt tP y0)) (sl (!t1) (e 1) (k ⟨W (s.is5+1)⟩)) z) z) z) z) (e 2))
def Xa2(p:ib4)(s:Ja9):Stp Ja9:=kb5 .next .exit .fail p s
def gc7:Lo ib4 Ja9:=⟨En ld5,0,ug4,[1,0,1,4,4],[0,1,5],.p,[⟨sLq tP::sLq tLq::ru2 3 (sIq::ru2 13 []),[],λa H=>(⟨aLq tP a 0,aLq tLq a 1⟩,⟨aIq a 5⟩)⟩],Xa2,[(none,λp s=>⟨[b false],[]⟩),(some 0,λp s=>upq (Jc9 p s) [(6,i s.is5),(7,eL tLq p.S3),(8,i (↑(List.length p.S3):Int)),(9,b (decide (s.is5<(↑(List.length p.S3):Int))))])],Jc9⟩
theorem Sd2:gc7.Ok:=Qjt [] .nil λp s=>(.ofq @kb5)
def Gb0(x:PLq)(y:LPq):ROq:=let t1:=(lp (Xa2 (⟨rt tP x,rt tLq y⟩:ib4)) (⟨0⟩:Ja9));(sl ((cnE tP x)&&((cnE tLq y)&&true)) (sl (Nat.beq t1.1 1) (some (b false,[])) (sl (Nat.beq t1.1 2) (some (b true,[])) none)) none)
def G3(x:PLq)(y:LPq):Bool:=L9 (one r1B) (Gb0 x y)
def X3(x:PLq)(y:LPq):Bool:=okO (one r1B) (Gb0 x y)
def Kc0:Sum:=Z7 (M3 tP) (M3 tLq) (λx y=>.guard (X3 x y) (.ret ((one r1B).enc (G3 x y),[])))
theorem ld6:l8 prog G 53 Kc0:=dc7 (bd b53 Zd6) (one r1B) (o:=Gb0) λx y=>Q3 (.s .p (.s (.s .p (.b (.u gc7.ls))) .p)) [gc7.pr] (.cons Sd2 .nil)
def yc5:List (Nat×Sum):=[(59,Nd2)]
theorem td4:A4 prog G yc5:=⟨Fe8,trivial⟩
structure Ha2 where
 (n7 S3:LPq)
def bc7(p:Ha2)(s:Ja9):St:=⟨eL tLq p.n7::eL tLq p.S3::ra 3 (i s.is5::ra 21 []),[]⟩
def La3{α:Type}(k:Ja9->α)(e:Nat->α)(z:α)(p:Ha2)(s:Ja9):α:=let y1:=(gL tLq p.S3 s.is5.toNat);let y0:=(gL tLq p.n7 s.is5.toNat);let t1:=(sc0 (rt tP y0) (rt tP y1));(sl (decide (s.is5<(↑(List.length p.n7):Int))) (sl (inB s.is5 (List.length p.n7)) (sl (inB s.is5 (List.length p.S3)) (sl (okE tP y0) (sl (okE tP y1) (sl (sc1 (rt tP y0) (rt tP y1)) (sl (!t1) (e 1) (k ⟨W (s.is5+1)⟩)) z) z) z) z) z) (e 2))
def za7(p:Ha2)(s:Ja9):Stp Ja9:=La3 .next .exit .fail p s
def Ab1:Lo Ha2 Ja9:=⟨En yc5,0,hg6,[1,1,0,1,4,4],[0,1,5],.p,[⟨sLq tLq::sLq tLq::ru2 3 (sIq::ru2 21 []),[],λa H=>(⟨aLq tLq a 0,aLq tLq a 1⟩,⟨aIq a 5⟩)⟩],za7,[(none,λp s=>⟨[b false],[]⟩),(some 0,λp s=>upq (bc7 p s) [(11,i s.is5),(12,eL tLq p.n7),(13,i (↑(List.length p.n7):Int)),(14,b (decide (s.is5<(↑(List.length p.n7):Int))))])],bc7⟩
theorem ld7:Ab1.Ok:=Qjt [] .nil λp s=>(.ofq @La3)
def Xa3(x:LPq)(y:LPq):ROq:=let t1:=(lp (za7 (⟨rt tLq x,rt tLq y⟩:Ha2)) (⟨0⟩:Ja9));(sl ((↑(List.length x):Int) != (↑(List.length y):Int)) (some (b false,[])) (sl ((cnE tLq x)&&((cnE tLq y)&&true)) (sl (Nat.beq t1.1 1) (some (b false,[])) (sl (Nat.beq t1.1 2) (some (b true,[])) none)) none))
def T3(x:LPq)(y:LPq):Bool:=L9 (one r1B) (Xa3 x y)
def T4(x:LPq)(y:LPq):Bool:=okO (one r1B) (Xa3 x y)
def Kc1:Sum:=Z7 (M3 tLq) (M3 tLq) (λx y=>.guard (T4 x y) (.ret ((one r1B).enc (T3 x y),[])))
theorem Cd9:l8 prog G 24 Kc1:=dc7 (bd b24 td4) (one r1B) (o:=Xa3) λx y=>Q3 (.s .p (.s .p (.s (.s .p (.b (.u Ab1.ls))) .p))) [Ab1.pr] (.cons ld7 .nil)
end Go.Ev.Ce
