/- Own work. -/
import Derived.Test.YtgphembaimondaaGreatDoorEvOjT2
import Derived.ChangeStays
import Derived.ChangeSame
import Derived.OpenShut
import Derived.RowKit
import Derived.Shelf.Strings.SlTrimAscii
set_option linter.all false
noncomputable section
def Qja:=@Option.bind_eq_some_iff
def Qjb:=@Array.size_push
def Qjc:=@Int.ediv_eq_zero_of_lt
def Qjd:=@Int.add_mul_ediv_left
namespace Go.Ev.Ce
open Go Go.Ev Go.Ev.L Go.Proofs
def pd6(x y:Int):Bool:=(decide (0<=x)&&decide (x<=1073741824))&&(decide (1<=y)&&decide (y<=1048576))
def Bc8(x y:Int):Int×Int:=if pd6 x y=true then ((x+6*y-1) / (6*y),0) else (0,3)
theorem wb3{x y:Int}:pd6 x y=true↔(0<=x/\x<=1073741824)/\1<=y/\y<=1048576:=by unfold pd6;simp only[Qbd,decide_eq_true_eq]
theorem Yd4{x d:Int}(hx:0<=x)(hd:0<d):(x+d-1) / d=if x / d*d<x then x / d+1 else x / d:=by
 have h1:=Int.mul_ediv_add_emod x d;have h2:=Int.emod_nonneg x (show d≠0 by omega)
 have h3:=Int.emod_lt_of_pos x hd;generalize hq:x / d=q at *
 generalize hr:x % d=r at *
 have e:x+d-1=(r+d-1)+d*q:=by rw[<- h1];omega
 rw[e,Qjd _ _ (show d≠0 by omega)]
 have hc:q*d=d*q:=Int.mul_comm q d;by_cases hr0:r=0
 ·rw[if_neg (by rw[hc];omega),Qjc (by omega) (by omega)];omega
 ·rw[if_pos (by rw[hc];omega),show r+d-1=(r-1)+d*1 by omega,Qjd _ _ (show d≠0 by omega),Qjc (by omega) (by omega)];omega
theorem pd7{x d:Int}(hx:0<=x):Int.tdiv x d=x / d:=Int.tdiv_eq_ediv_of_nonneg hx
theorem pd8(x y:Int):ua7 x y=some (.tup [i (Bc8 x y).1,i (Bc8 x y).2],[]):=by
 unfold ua7 Bc8;by_cases h:pd6 x y=true
 ·obtain⟨⟨a1,a2⟩,b1,b2⟩:=wb3.1 h;rw[if_pos h,bfD (by omega),bfD (by omega),bfD (by omega),bfD (by omega),fa7 (n:=6*y) (by omega) (by omega),bf (beq_eq_false_iff_ne.2 (by omega)),fa7 (n:=x+6*y) (by omega) (by omega),fa7 (n:=x+6*y-1) (by omega) (by omega),pd7 (by omega)]
  have h0:0<=(x+6*y-1) / (6*y):=Int.ediv_nonneg (by omega) (by omega)
  have h1:(x+6*y-1) / (6*y)<=x+6*y-1:=Int.ediv_le_self _ (by omega)
  rw[fa7 (by omega) (by omega)]
 ·rw[if_neg h];rw[wb3] at h;by_cases h1:x<0
  ·rw[btD h1]
  rw[bfD h1];by_cases h2:x>1073741824
  ·rw[btD h2]
  rw[bfD h2];by_cases h3:y<1
  ·rw[btD h3]
  rw[bfD h3];by_cases h4:y>1048576
  ·rw[btD h4]
  exact absurd ⟨⟨by omega,by omega⟩,by omega,by omega⟩ h
theorem Rc1(x y:Int):Fa3 x y=some (.tup [i (Bc8 x y).1,i (Bc8 x y).2],[]):=by
 unfold Fa3 Bc8;by_cases h:pd6 x y=true
 ·obtain⟨⟨a1,a2⟩,b1,b2⟩:=wb3.1 h;rw[if_pos h,bfD (by omega),bfD (by omega),bfD (by omega),bfD (by omega),fa7 (n:=6*y) (by omega) (by omega),bf (beq_eq_false_iff_ne.2 (by omega)),pd7 a1,Yd4 a1 (show 0<6*y by omega)]
  have h0:0<=x / (6*y):=Int.ediv_nonneg a1 (by omega)
  have h1:x / (6*y)<=x:=Int.ediv_le_self _ a1;have h2:x / (6*y)*(6*y)<=x:=Int.ediv_mul_le x (by omega)
  have h3:0<=x / (6*y)*(6*y):=Qif h0 (by omega)
  rw[fa7 (n:=x / (6*y)) (by omega) (by omega)]
  generalize hq:x / (6*y)=q at *
  have e:q*6*y=q*(6*y):=Int.mul_assoc q 6 y;rw[fa7 (n:=q*6) (by omega) (by omega),e,fa7 (n:=q*(6*y)) (by omega) (by omega),fa7 (n:=q+1) (by omega) (by omega)]
  by_cases hc:q*(6*y)<x
  ·rw[btD hc,if_pos hc]
  ·rw[bfD hc,if_neg hc]
 ·rw[if_neg h];rw[wb3] at h;by_cases h1:x<0
  ·rw[btD h1]
  rw[bfD h1];by_cases h2:x>1073741824
  ·rw[btD h2]
  rw[bfD h2];by_cases h3:y<1
  ·rw[btD h3]
  rw[bfD h3];by_cases h4:y>1048576
  ·rw[btD h4]
  exact absurd ⟨⟨by omega,by omega⟩,by omega,by omega⟩ h
theorem Yd5(x y:Int):Ja3 x y=Bc8 x y:=by unfold Ja3;rw[pd8];rfl
theorem Yd6(x y:Int):Ja4 x y=true:=by unfold Ja4;rw[pd8];rfl
theorem Ed4(x y:Int):Ua1 x y=Bc8 x y:=by unfold Ua1;rw[Rc1];rfl
theorem Ed5(x y:Int):Ua2 x y=true:=by unfold Ua2;rw[Rc1];rfl
def Ua3(n:Int):Bool:=decide (0<=n)&&decide (n<=12)
theorem Qa1{n:Int}:Ua3 n=true↔0<=n/\n<=12:=by unfold Ua3;simp only[Qbd,decide_eq_true_eq]
theorem wb4(e:V3):ja5 e=(Ua3 e.x&&(Ua3 e.y&&Ua3 e.z)):=rfl
theorem Yd7(n:Int):Y5 n=some (b (Ua3 n),[]):=by
 unfold Y5 Ua3;by_cases h:n>=0
 ·rw[btD h,decide_eq_true (show 0<=n from h)];rfl
 ·rw[bfD h,decide_eq_false (show ¬ 0<=n from h)];rfl
theorem Bc9(e:V3):ja3 e=some (b (ja5 e),[]):=by
 have h:∀n,Q6 n=Ua3 n/\Q7 n=true:=λn=>by unfold Q6 Q7;rw[Yd7];exact⟨rfl,rfl⟩
 unfold ja3;rw[wb4];simp only[(h _).1,(h _).2,s6];cases Ua3 e.x<;>cases Ua3 e.y<;>rfl
theorem pd9(e:V3):Y9 e=ja5 e:=by unfold Y9;rw[Bc9];rfl
theorem qd0(e:V3):Z0 e=true:=by unfold Z0;rw[Bc9];rfl
theorem Yd8(x y z:Int):Ua0 x y z=⟨x,y,z⟩:=rfl
def ttV(p:V3)(r g c:Int):V3:=⟨p.x+(r+c),p.y+(r+c),p.z+(r+c+g)⟩
def Kb7(p:V3)(r g c:Int):V3×Int:=if (ja5 p&&(ja5 ⟨r,g,c⟩&&ja5 (ttV p r g c)))=true then (ttV p r g c,0) else (⟨0,0,0⟩,3)
theorem qd1{p q:V3}(hp:ja5 p=true)(hq:(0<=q.x/\q.x<=100)/\(0<=q.y/\q.y<=100)/\0<=q.z/\q.z<=100):ab6 p q=⟨p.x+q.x,p.y+q.y,p.z+q.z⟩/\zb4 p q=⟨p.x+q.x,p.y+q.y,p.z+q.z⟩:=by
 rw[wb4,Qbd,Qbd] at hp;obtain⟨a,c,d⟩:=hp;have a:=Qa1.1 a;have c:=Qa1.1 c;have d:=Qa1.1 d;have e1:W (p.x+q.x)=p.x+q.x:=fa7 (by omega) (by omega)
 have e2:W (p.y+q.y)=p.y+q.y:=fa7 (by omega) (by omega)
 have e3:W (p.z+q.z)=p.z+q.z:=fa7 (by omega) (by omega)
 constructor
 ·show (⟨W (p.x+q.x),W (p.y+q.y),W (p.z+q.z)⟩:V3)=_;rw[e1,e2,e3]
 ·show (⟨W (p.x+q.x),W (p.y+q.y),W (p.z+q.z)⟩:V3)=_;rw[e1,e2,e3]
theorem Nd5{r g c:Int}(h:ja5 ⟨r,g,c⟩=true):(W (r+c)=r+c/\W (W (r+c)+g)=r+c+g)/\(0<=r+c/\r+c<=100)/\0<=r+c+g/\r+c+g<=100:=by
 rw[wb4,Qbd,Qbd] at h;obtain⟨a,d,e⟩:=h;have a:=Qa1.1 a;have d:=Qa1.1 d;have e:=Qa1.1 e
 simp only at a d e
 have h1:W (r+c)=r+c:=fa7 (by omega) (by omega)
 refine⟨⟨h1,?_⟩,by omega,by omega⟩
 rw[h1];exact fa7 (by omega) (by omega)
theorem Rc2(p:V3)(r g c:Int):pa3 p r g c=some (.tup [.agg [i (Kb7 p r g c).1.x,i (Kb7 p r g c).1.y,i (Kb7 p r g c).1.z],i (Kb7 p r g c).2],[]):=by
 unfold pa3 Kb7;simp only[pd9,qd0,Yd8,s6];cases h1:ja5 p with
 |false=>rfl
 |true =>
  cases h2:ja5 ⟨r,g,c⟩ with
  |false=>rfl
  |true =>
   obtain⟨⟨w1,w2⟩,k1,k2⟩:=Nd5 h2;rw[w2,w1,(qd1 (q:=⟨r+c,r+c,r+c+g⟩) h1 ⟨k1,k1,k2⟩).1];show (sl (!true) _ (sl (!true) _ (sl (!ja5 (ttV p r g c)) _ _)))=_;cases h3:ja5 (ttV p r g c)<;>rfl
theorem ad5(r g c:Int)(x y z:Int):(lp (pa4 ⟨r,g,c,x,y,z,r,g,c⟩) ⟨0⟩).1=if ja5 ⟨r,g,c⟩=true then 2 else 1:=by
 let f:Nat->Bool:=λj=>!Ua3 (if j=0 then r else if j=1 then g else c)
 obtain⟨k,hk⟩:=oc2 (step:=pa4 ⟨r,g,c,x,y,z,r,g,c⟩) (mk:=λj=>(⟨(j:Int)⟩:E3)) 3 f 1 2 (by omega)
  (λj hj=>by
   have hw:W ((j:Int)+1)=((j+1:Nat):Int):=K5 hj (by omega)
   have h3:inB (j:Int) 3=true:=o5 hj;show Q8 Stp.next Stp.exit Stp.fail _ _=_;simp only[Q8,Int.toNat_natCast,hw,h3,s6];rw[btD (show ((j:Int))<3 by omega)]
   have key:∀n:Int,sl (decide (n<0)) (Stp.exit 1) (sl (decide (n>12)) (Stp.exit 1) (Stp.next (⟨((j+1:Nat):Int)⟩:E3)))=sl (!Ua3 n) (Stp.exit 1) (Stp.next ⟨((j+1:Nat):Int)⟩):=λn=>by
    unfold Ua3;by_cases h1:n<0
    ·rw[btD h1,decide_eq_false (show ¬ 0<=n by omega)];rfl
    ·rw[bfD h1,decide_eq_true (show 0<=n by omega)]
     by_cases h2:n>12
     ·rw[btD h2,decide_eq_false (show ¬ n<=12 by omega)];rfl
     ·rw[bfD h2,decide_eq_true (show n<=12 by omega)];rfl
   have hj3:j=0\/j=1\/j=2:=by omega
   rcases hj3 with rfl|rfl|rfl
   ·exact key r
   ·exact key g
   ·exact key c)
  (by show Q8 Stp.next Stp.exit Stp.fail _ _=_;simp only[Q8];rw[bfD (by show ¬ ((3:Nat):Int)<3;omega)])
 rw[show (⟨0⟩:E3)=⟨((0:Nat):Int)⟩ from rfl,hk]
 show (if (List.range 3).any f then 1 else 2)=_
 rw[wb4];show (if (!Ua3 r||(!Ua3 g||(!Ua3 c||false)))=true then 1 else 2)=_
 cases Ua3 r<;>cases Ua3 g<;>cases Ua3 c<;>rfl
theorem Cc0(p:V3)(r g c:Int):ua8 p r g c=some (.tup [.agg [i (Kb7 p r g c).1.x,i (Kb7 p r g c).1.y,i (Kb7 p r g c).1.z],i (Kb7 p r g c).2],[]):=by
 unfold ua8 Kb7;simp only[pd4,pd5,s6,ad5];cases h2:ja5 ⟨r,g,c⟩ with
 |false=>cases ja5 p<;>rfl
 |true =>
  cases h1:ja5 p with
  |false=>rfl
  |true =>
   obtain⟨⟨w1,w2⟩,k1,k2⟩:=Nd5 h2;rw[w2,w1,(qd1 (q:=⟨r+c,r+c,r+c+g⟩) h1 ⟨k1,k1,k2⟩).2];show (sl (Nat.beq 2 1) _ (sl (Nat.beq 2 2) (sl (!true) _ (sl (!ja5 (ttV p r g c)) _ _)) _))=_;cases h3:ja5 (ttV p r g c)<;>rfl
theorem Ed6(p:V3)(r g c:Int):Ba0 p r g c=Kb7 p r g c:=by unfold Ba0;rw[Rc2];rfl
theorem Ed7(p:V3)(r g c:Int):Ba1 p r g c=true:=by unfold Ba1;rw[Rc2];rfl
theorem qd2(p:V3)(r g c:Int):Ja5 p r g c=Kb7 p r g c:=by unfold Ja5;rw[Cc0];rfl
theorem qd3(p:V3)(r g c:Int):Ja6 p r g c=true:=by unfold Ja6;rw[Cc0];rfl
end Go.Ev.Ce
namespace Go.Ev
open Go Go.ChangeShapes Go.RowKit
structure Xb5(w w':World):Prop where
 os:w'.os=w.os
 output:w'.output=w.output
 size:w.heap.size<=w'.heap.size
 block:∀k,k<w.heap.size->w'.heap[k]?=w.heap[k]?
theorem Xb5.kept{w w':World}(h:Xb5 w w')(may:MemPlace->Prop):w.keptBut w' may:=by
 refine⟨h.os,h.output,λi hi=>?_⟩
 rw[h.block i hi]
 grind
theorem Xb5.frozen{w w':World}(h:Xb5 w w')(b off:Nat)(hb:b<w.heap.size):w'.frozen? ⟨b,off,none⟩=w.frozen? ⟨b,off,none⟩:=by
 simp only[World.frozen?,h.block b hb]
theorem Xb5.cell{w w':World}(h:Xb5 w w')(b off:Nat)(hb:b<w.heap.size):w'.cell? ⟨b,off,none⟩=w.cell? ⟨b,off,none⟩:=by
 simp only[World.cell?,h.block b hb]
theorem Xb5.same{w w':World}(h:Xb5 w w')(p:MemPlace)(hp:p.block<w.heap.size):w.sameAt w' p:=by
 cases p with
 |cell b off=>exact h.cell b off hp
 |map b=>exact h.block b hp
theorem Xb6{α β:Type}{f:α->Option β}:∀{l:List α} {r:List β},l.mapM f=some r->r.length=l.length/\∀(j:Nat) y,r[j]?=some y->∃x,l[j]?=some x/\f x=some y
 |[],r,h=>by
  simp_all
 |x::l,r,h=>by
  rw[List.mapM_cons] at h;obtain⟨y,h1,h2⟩:=Qja.1 h;obtain⟨r',h3,h4⟩:=Qja.1 h2
  have:r=y::r':=by simpa using h4.symm
  subst this;obtain⟨g1,g2⟩:=Xb6 h3
  grind
section
variable{D:Type}{enc:TypeId×Value->D}{P:Program}
theorem kb7{T:TypeId->Prop}(K:Kids P T)(hsz:∀{t e:TypeId},T t->P.underlying t=some (.slice e)->0<P.cellsOf e){w w':World}{sp:Nat->Bool}(hs:Xb5 w w') :
  ∀{ts:List TypeId} {vs:List Value} {ds:List (DataW D)} {ps:List MemPlace},(∀t∈ts,T t)->DataW.TrodAll enc P w 0 (λ_=>true) true ts vs ds ps->(∀p∈ps,p.block<w.heap.size)->(∀p∈ps,sp p.block=true)->DataW.TrodAll enc P w' 0 sp true ts vs ds ps
 |[],[],[],_,_,h,_,_=>h
 |t::ts,v::vs,d::ds,ps,ht,h,hlt,hsp=>by
  obtain⟨p,q,⟨fuel,h1⟩,h2,rfl⟩:=h;refine⟨p,q,⟨fuel,?_⟩,kb7 K hsz hs (λt h=>ht t (by simp[h])) h2 (λx hx=>hlt x (by simp[hx])) (λx hx=>hsp x (by simp[hx])),rfl⟩
  exact DataW.trod_stays K hsz (λh=>by cases h) (ht t (by simp)) h1 (λx hx=>hs.same x (hlt x (by simp at hx ⊢;exact .inl hx))) (λx hx=>hsp x (by simp at hx ⊢;exact .inl hx))
 |[],_::_,_,_,_,h,_,_=>h.elim
 |[],[],_::_,_,_,h,_,_=>h.elim
 |_::_,[],_,_,_,h,_,_=>h.elim
 |_::_,_::_,[],_,_,h,_,_=>h.elim
theorem qd4{T:TypeId->Prop}(K:Kids P T)(hsz:∀{t e:TypeId},T t->P.underlying t=some (.slice e)->0<P.cellsOf e){f:Func}{s:ChangeSpec}{apart fresh handsOn again:Bool}{W W':World}{args:Array Value}{ds gs:List (DataW D)}{before:List MemPlace}{tb:TypeId}
  (hT:∀t∈f.params.toList,T t) (hW:DataW.Whole enc P f.params.toList s.vars apart W args.toList ds gs before) (hv:s.vars=[]) (hr:f.resultTypes=#[tb]) (hb:P.underlying tb=some .bool)
  (h1:(s.fn D ds).results=[.lit (.bool true)]) (h2:(s.fn D ds).args=ds) (h3:(s.fn D ds).vars=[]) (hs:Xb5 W W') :
  s.post enc P f apart fresh handsOn again W args (.bool true) W':=by
 have hlt:=hW.lt;obtain⟨pa,pv,hA,hV,hps,hz,hn⟩:=id hW;rw[hv] at hV;have hpv:gs=[]/\pv=[]:=by
  cases gs with
  |nil=>exact⟨rfl,hV⟩
  |cons=>exact hV.elim
 obtain⟨rfl,rfl⟩:=hpv;rw[<- Qbad ds] at h1 h3;have h2:(s.fn D (ds++[])).args=ds:=by rw[Qbad];exact h2
 have hpa:before=pa:=by rw[hps];simp
 subst hpa;have hagain:∀sp:Nat->Bool,(∀p∈before,sp p.block=true)->DataW.TrodAll enc P W' 0 sp true f.params.toList args.toList ds before:=λsp h=>kb7 K hsz hs hT hA hlt h
 have hres:∀(b:Nat) (sp:Nat->Bool) (hd:Bool),DataW.TrodAll enc P W' b sp hd f.resultTypes.toList ((Value.bool true).resultList f.resultTypes.size) [.lit (.bool true)] []:=λb sp hd=>by
  rw[hr];exact⟨[],[],⟨1,by simp[DataW.trod,hb,Value.cells,Value.resultList]⟩,rfl,rfl⟩
 have hvars:∀sp:Nat->Bool,DataW.TrodVars enc P W' sp s.vars ([]:List (DataW D)) []:=λsp=>by rw[hv];exact rfl
 have hok:∀(j:Nat) (t:TypeId) (r:Value),f.resultTypes[j]?=some t->((Value.bool true).resultList f.resultTypes.size)[j]?=some r->Value.okWide P W' .any 0 t r:=by
  rw[hr];intro j t r h4 h5;cases j with
  |zero =>
   simp at h4
   subst h4
   have:r=.bool true:=by simpa [Value.resultList] using h5.symm
   subst this;exact okWide_bool_mk hb _
  |succ j=>simp at h4
 have hag:DataW.TrodAll enc P W' 0 (λ_=>true) true (f.resultTypes.toList++f.params.toList) ((Value.bool true).resultList f.resultTypes.size++args.toList) (.lit (.bool true)::ds) before:=by
  have:=hagain (λ_=>true) (λ_ _=>rfl)
  rw[hr];exact⟨[],before,⟨1,by simp[DataW.trod,hb,Value.cells,Value.resultList]⟩,this,rfl⟩
 refine⟨ds,[],before,[],before,[],hW,?_,?_,?_,hs.kept _,λ_=>?_⟩
 ·rw[h1];exact hres _ _ _
 ·grind
 ·rw[h3];exact hvars _
 ·refine⟨hok,.lit (.bool true)::ds,[],before,⟨before,[],hag,hvars _,by simp,?_,?_⟩,?_⟩
  ·intro b off hp;rw[hs.frozen b off (hlt _ hp)];exact hz b off (by simpa using hp)
  ·omega
  ·intro p hp _;exact hp
variable{w:World}{base:Nat}{spare:Nat->Bool}{held:Bool}
def Cc1(w:World):Fz:=λb o=>(w.cell? ⟨b,o,none⟩).isSome
theorem Yd9{fuel:Nat}{t:TypeId}{k:IntKind}{cs:List Value}{x:DataW D×List MemPlace}(ht:P.underlying t=some (.int k))(h:DataW.trod enc P w base spare held fuel t cs=some x) :
  ∃n,cs=[.int k n]/\(Lit.int k n).wf=true/\x.1=.lit (.int k n):=by
 cases fuel with
 |zero=>cases h
 |succ fuel =>
  match cs,h with
  |[],h=>simp[DataW.trod,ht] at h
  |[v],h =>
   cases v with
   |int k' n =>
    simp only[DataW.trod,ht] at h
    grind
   |_=>simp[DataW.trod,ht] at h
  |a::b::r,h=>simp[DataW.trod,ht] at h
theorem Ed8{fuel:Nat}{t:TypeId}{cs:List Value}{x:DataW D×List MemPlace}(ht:P.underlying t=some .bool)(h:DataW.trod enc P w base spare held fuel t cs=some x) :
  ∃n,cs=[.bool n]/\x.1=.lit (.bool n):=by
 cases fuel with
 |zero=>cases h
 |succ fuel =>
  match cs,h with
  |[],h=>simp[DataW.trod,ht] at h
  |[v],h =>
   cases v with
   |bool n =>
    simp only[DataW.trod,ht] at h
    grind
   |_=>simp[DataW.trod,ht] at h
  |a::b::r,h=>simp[DataW.trod,ht] at h
theorem qd5{fuel:Nat}{t e:TypeId}{n:Nat}{cs:List Value}{x:DataW D×List MemPlace}(ht:P.underlying t=some (.array n e))(h:DataW.trod enc P w base spare held fuel t cs=some x) :
  cs.length=P.cellsOf t/\∃(fuel':Nat) (xs:List (DataW D×List MemPlace)),xs.length=n/\x.1=.agg (xs.map (·.1))/\∀(j:Nat) y,xs[j]?=some y->DataW.trod enc P w base spare held fuel' e ((cs.drop (j*P.cellsOf e)).take (P.cellsOf e))=some y:=by
 cases fuel with
 |zero=>cases h
 |succ fuel =>
  unfold DataW.trod at h;rw[ht] at h
  simp only at h
  split at h
  ·rename_i hl;obtain⟨xs,h1,h2⟩:=Qce.1 h;have hx:=Xb6 h1;exact⟨hl,fuel,xs,by simpa using hx.1,by rw[<- h2],λj y hy=>by
    obtain⟨a,ha,hb⟩:=hx.2 j y hy
    have:j<n:=by
     have:=(Qab.1 hy).1
     rw[hx.1] at this;simpa using this
    rw[List.getElem?_range this] at ha;injection ha with ha;subst ha;exact hb⟩
  ·cases h
theorem ad6{fuel:Nat}{t:TypeId}{fs:Array Field}{cs:List Value}{x:DataW D×List MemPlace}(ht:P.underlying t=some (.struct fs))(h:DataW.trod enc P w base spare held fuel t cs=some x) :
  cs.length=P.cellsOf t/\∃(fuel':Nat) (xs:List (DataW D×List MemPlace)),xs.length=fs.size/\x.1=.agg (xs.map (·.1))/\∀(j:Nat) f,fs[j]?=some f->∃y,xs[j]?=some y/\DataW.trod enc P w base spare held fuel' f.type ((cs.drop f.offset).take (P.cellsOf f.type))=some y:=by
 cases fuel with
 |zero=>cases h
 |succ fuel =>
  unfold DataW.trod at h;rw[ht] at h
  simp only at h
  split at h
  ·rename_i hl;obtain⟨xs,h1,h2⟩:=Qce.1 h;have hx:=Xb6 h1;refine⟨hl,fuel,xs,by simpa using hx.1,by rw[<- h2],λj f hf=>?_⟩
   grind
  ·cases h
theorem Rc3:∀(d:Nat) (t:TypeId) (l:List (Nat×CK)),L6 P d t=some l->∀(fuel:Nat) (cs:List Value) (x:DataW D×List MemPlace),DataW.trod enc P w base spare held fuel t cs=some x->∀p∈l,ea4 cs.toArray p
 |0,_,_,h,_,_,_,_=>by cases h
 |d+1,t,l,h,fuel,cs,x,hx=>by
  have hpart:∀{off n:Nat} {e:TypeId} {l':List (Nat×CK)} {fuel':Nat} {y:DataW D×List MemPlace},Xa5 off n (L6 P d e)=some l'->DataW.trod enc P w base spare held fuel' e ((cs.drop off).take n)=some y->∀p∈l',ea4 cs.toArray p:=λ{off n e l' fuel' y} h1 h2 p hp=>by
   obtain⟨l2,g1,g2,rfl⟩:=la5 h1;obtain⟨q,hq,rfl⟩:=Qbz.1 hp
   have:=Rc3 d e l2 g1 fuel' _ y h2 q hq
   have hlt:=g2 q hq;unfold ea4 at this ⊢;simp only[List.getElem?_toArray,Qbe,hlt,if_true,Qbj] at this ⊢;exact this
  have hcat:∀{α:Type} (f:α->Option (List (Nat×CK))) (xs:List α) (l:List (Nat×CK)),R9 (xs.map f)=some l->∀p∈l,∃a∈xs,∃l',f a=some l'/\p∈l':=λ{α} f xs=>by
   induction xs with
   |nil=>intro l h;simp only[List.map_nil,R9] at h;injection h with h;subst h;simp
   |cons a xs ih =>
    intro l h p hp;simp only[Qbw,R9] at h;cases h1:f a with
    |none=>simp[h1] at h
    |some l1 =>
    cases h2:R9 (xs.map f) with
    |none=>simp[h1,h2] at h
    |some l2 =>
    simp only[h1,h2] at h;injection h with h;subst h
    rcases List.mem_append.1 hp with hp|hp
    ·exact⟨a,by simp,l1,h1,hp⟩
    ·obtain⟨b,hb,r⟩:=ih l2 h2 p hp;exact⟨b,by simp[hb],r⟩
  unfold L6 at h;cases hu:P.underlying t with
  |none=>simp[hu] at h
  |some u =>
  cases u with
  |int k =>
   simp only[hu] at h;injection h with h;subst h
   obtain⟨n,rfl,_,_⟩:=Yd9 hu hx;intro p hp;simp at hp;subst hp;exact⟨n,rfl⟩
  |bool =>
   simp only[hu] at h;injection h with h;subst h
   obtain⟨n,rfl,_⟩:=Ed8 hu hx;intro p hp;simp at hp;subst hp;exact⟨n,rfl⟩
  |struct fs =>
   simp only[hu] at h
   split at h
   ·cases h
   obtain⟨_,fuel',xs,_,_,hxs⟩:=ad6 hu hx;intro p hp;obtain⟨f,hf,l',h1,h2⟩:=hcat _ _ _ h p hp
   split at h1
   ·cases h1
   obtain⟨j,hj⟩:=List.getElem?_of_mem hf;obtain⟨y,_,hy⟩:=hxs j f (by simpa using hj)
   have hc:P.cellsOf f.type=szT P f.type:=by
    unfold Program.cellsOf szT
    grind
   grind
  |array n e =>
   simp only[hu] at h
   split at h
   case isFalse=>cases h
   obtain⟨_,fuel',xs,hn,_,hxs⟩:=qd5 hu hx;intro p hp;obtain⟨j,hj,l',h1,h2⟩:=hcat _ _ _ h p hp;have hj':j<xs.length:=by rw[hn];simpa using hj
   have hy:=hxs j _ (Qaa hj');have hc:P.cellsOf e=szT P e:=by
    unfold Program.cellsOf szT;cases P.info? e<;>rfl
   grind
  |_=>simp[hu] at h
def Db1(k:IntKind)(es:Nat)(g:Nat->Int):List a7:=(List.range es).map λc=>.v (.int k (g c))
def qa6(k:IntKind)(es:Nat):List (Nat×CK):=(List.range es).map λc=>(c,.int k)
theorem Ed9{d:Nat}{t:TypeId}{k:IntKind}{es:Nat}(hf:L6 P d t=some (qa6 k es)){fuel:Nat}{cs:List Value}{x:DataW D×List MemPlace}(hx:DataW.trod enc P w base spare held fuel t cs=some x)(hl:cs.length=es) :
  ∃g:Nat->Int,∀c,c<es->cs[c]?=some (.int k (g c)):=by
 have h:=Rc3 d t _ hf fuel cs x hx;have h':∀c,∃n:Int,c<es->cs[c]?=some (.int k n):=λc=>by
  by_cases hc:c<es
  ·have:=h (c,.int k) (Qbz.2 ⟨c,by simpa using hc,rfl⟩)
   obtain⟨n,hn⟩:=this;exact⟨n,λ_=>by simpa using hn⟩
  ·exact⟨0,λh=>absurd h hc⟩
 exact⟨λc=>Classical.choose (h' c),λc hc=>Classical.choose_spec (h' c) hc⟩
theorem Kc6{k:IntKind}{es:Nat}{g:Nat->Int}{c:Nat}{x:a7}(h:(Db1 k es g)[c]?=some x):c<es/\x=.v (.int k (g c)):=by
 unfold Db1 at h
 grind
theorem ad7(w:World):o1 (λk=>w.heap.size<=k) (λ_=>⟨0,0,0⟩) [] (Cc1 w) w :=
 ⟨λid b h=>by simp at h,λid id' b b' h=>by simp at h,λ_ _ h=>h,λ_ h=>h⟩
theorem ad8{G:Nat->List Value}{f:FuncId}{S:Sum}(hS:d6 P G f S){aargs:List a7}{args:List Value}(hrun:∃out,(S aargs []).run=some (b true,out))(hl:aargs.length=args.length)
  (ha:∀(i:Nat) x x',aargs[i]?=some x->args[i]?=some x'->L1 (λ_=>⟨0,0,0⟩) [] (Cc1 w) w x x') (hG:∀g (c:Nat) x,(G g)[c]?=some x->x.oneCell'=true/\w.cell? ⟨g,c,none⟩=some x) :
  Calls P f args.toArray w λe w'=>e=.returned (.bool true)/\Xb5 w w':=by
 obtain⟨out,hrun⟩:=hrun;obtain⟨_,hc⟩:=hS aargs [] (b true) out hrun (λk=>w.heap.size<=k) (λ_=>⟨0,0,0⟩) (Cc1 w) w args (ad7 w) hl (λi x x' h1 h2=>.val (ha i x x' h1 h2)) (λg c x hx=>by
  obtain⟨h1,h2⟩:=hG g c x hx;exact⟨h1,by unfold Cc1;rw[h2];rfl,h2⟩)
 refine hc.mono λe w' ⟨r',he,ρ',F',hA,hH,hW⟩=>?_
 have:=F9 hW
 subst this;exact⟨he,hA.ext.os,hA.ext.output,hA.ext.size,λk hk=>hA.ext.block k hk (by omega)⟩
theorem Rc4{ρ:Rho}{H:List a8}{F:Fz}{t:TypeId}{k:IntKind}{es d:Nat}{v:Value}{dd:DataW D}{pp:List MemPlace}{bs:Nat}{r:Reach}(hag:agT P t=true)(hf:L6 P d t=some (qa6 k es))(hes:P.cellsOf t=es)
  (hok:Value.okWide P w r bs t v) (h:DataW.Trod enc P w base spare held t v dd pp):∃g:Nat->Int,L1 ρ H F w (.agg (Db1 k es g)) v:=by
 have hv:∃cs:Array Value,v=.agg cs/\cs.size=P.cellsOf t:=by
  unfold agT at hag;unfold Value.okWide at hok
  grind
 obtain⟨cs,rfl,hsz⟩:=hv;obtain⟨fuel,hx⟩:=h;have hx:DataW.trod enc P w base spare held fuel t cs.toList=some (dd,pp):=hx;obtain⟨g,hg⟩:=Ed9 hf hx (by simpa [hes] using hsz)
 refine⟨g,.agg _ _ (by simp[Db1,hsz,hes]) λc x x' h1 h2=>?_⟩
 obtain⟨hc,rfl⟩:=Kc6 h1
 have:=hg c hc
 have h3:some x'=some (.int k (g c)):=by rw[<- h2];simpa using this
 injection h3 with h3;subst h3;exact .v _
end
end Go.Ev
namespace Go.Ev.L
open Go Go.Ev
def Rdg{α:Type}(c:Cod α)(x:a7)(a:α):Prop:=c.dec x=some a/\c.grd x=true
theorem Rc5{α:Type}(t:Ty α){cs:List a7}(h:t.ok cs=true):∃a,Rdg (ha1 t) (.agg cs) a:=⟨t.rd cs,by
 show Bool.rec (motive:=λ_=>Option α) none (some (t.rd cs)) (t.ok cs)=_
 rw[h],rfl⟩
theorem Rc6(n:Int):∃a,Rdg cI (i n) a:=⟨n,rfl,rfl⟩
section
variable{α β γ δ ε:Type}{c:Cod α}{d:Cod β}{e:Cod γ}{f:Cod δ}{c5:Cod ε}{x y z w v:a7}{a:α}{b':β}{g:γ}{j:δ}{m:ε}{r:a7×List a8}
theorem Be9{k:α->β->γ->δ->DT (a7×List a8)}(h1:Rdg c x a)(h2:Rdg d y b')(h3:Rdg e z g)(h4:Rdg f w j)(h:(k a b' g j).run=some r):(Qb6 c d e f k [x,y,z,w] []).run=some r:=by
 unfold Qb6;simp only[h1.1,h1.2,h2.1,h2.2,h3.1,h3.2,h4.1,h4.2];exact h
end
theorem Zd0{g p:Bool}(hg:g=true)(hp:p=true):(DT.guard g (.ret ((one r1B).enc p,([]:List a8)))).run=some (b true,([]:List a8)):=by subst hg;subst hp;rfl
end Go.Ev.L
namespace Go.Ev.Ce
open Go Go.Ev Go.Ev.L Go.Proofs
structure B3 where
 b0:Int
 b1:Int
 b2:Int
structure B2 where
 d0:Int
 d1:Int
structure LL where
 u:List Int
 v:List Int
structure I3 where
 j0:Int
 j1:Int
 j2:Int
def tN:Ty I3 where
 es:=3
 row x:=[i x.j0,i x.j1,i x.j2]
 rd r:=⟨toI (hdA r),toI (hdA (tlA r)),toI (hdA (tlA (tlA r)))⟩
 ok r:=Go.Ev.L.qa6 3 r
 cks:=List.replicate 3 (.int .i64)
 d:=⟨0,0,0⟩
 h0 _:=rfl
 h1 _:=rfl
 h2 _:=rfl
 h3 _ h:=.of (Go.Ev.L.qa7 h)
 h4 _:=rfl
 h5 _:=rfl
theorem qc0:ta1 []=Q1 []/\ta2 []=true:=by
 have h:ja2 []=some (.tup [.v (.slice none 0 0),i 11],[]):=by
  unfold ja2;simp only[v7,Za2,r4,vb8 [] (by simp),vb7 [] (by simp),vb9]
  rfl
 unfold ta1 ta2 Q1;rw[h,vb9];exact⟨rfl,rfl⟩
theorem qe5:ya2 []=Zb7 []/\ya3 []=true:=by
 have h:Y4 []=some (.tup [.v (.slice none 0 0),i 11],[]):=by
  unfold Y4;simp only[v7,Za2,r4,qc0.1,qc0.2,Q1,vb9];rfl
 unfold ya2 ya3 Zb7;rw[h,vb9];exact⟨rfl,rfl⟩
theorem wb5{α:Type}{f:Nat}{c:Cod α}{k kA kB:α->DT (a7×List a8)}(hA:d6 prog G f (G9 c kA))(hB:d6 prog G f (G9 c kB))
  (h:∀a r,(k a).run=some r->(kA a).run=some r\/(kB a).run=some r):d6 prog G f (G9 c k):=λargs blks r out he=>by
 unfold G9 at he
 split at he
 ·rename_i x;cases hd:c.dec x with
  |none=>rw[hd] at he;cases he
  |some a =>
   rw[hd] at he;obtain⟨h1,h2⟩:=DT.run_guard_some (show (DT.guard (c.grd x) (k a)).run=some (r,out) from he)
   rcases h a _ h2 with q|q
   ·refine hA [x] [] r out ?_;show (onO (c.dec x) λa=>DT.guard (c.grd x) (kA a)).run=_
    rw[hd];show (DT.guard (c.grd x) (kA a)).run=_;rw[h1];exact q
   ·refine hB [x] [] r out ?_;show (onO (c.dec x) λa=>DT.guard (c.grd x) (kB a)).run=_
    rw[hd];show (DT.guard (c.grd x) (kB a)).run=_;rw[h1];exact q
 ·cases he
def ac6(l:List V3):PLq×Int:=Q1 l
def kb8(l:List V3):Bool:=decide (l.length<=900000)
def ac7:Sum:=G9 (ga2 tV) λl=>.guard (kb8 l) (.ret ((two (r1L tP) r1I).enc (ac6 l),[]))
theorem cb7:d6 prog G 70 ac7:=wb5 Wb8 cb0 λl r hr=>by
 obtain⟨hg,hr⟩:=DT.run_guard_some hr;cases l with
 |nil=>right;rw[qc0.1,qc0.2];exact hr
 |cons a c =>
  left
  have:=of_decide_eq_true hg
  rw[show kb5 (a::c)=true from decide_eq_true ⟨by simp,this⟩]
  exact hr
def Kb8(l:List V3):List V3×Int:=Zb7 l
def Va9(l:List V3):Bool:=decide (l.length<=900000)
def Kb9:Sum:=G9 (ga2 tV) λl=>.guard (Va9 l) (.ret ((two (r1L tV) r1I).enc (Kb8 l),[]))
theorem Qa2:d6 prog G 69 Kb9:=wb5 Cb9 Bb7 λl r hr=>by
 obtain⟨hg,hr⟩:=DT.run_guard_some hr;cases l with
 |nil=>right;rw[qe5.1,qe5.2];exact hr
 |cons a c =>
  left
  have:=of_decide_eq_true hg
  rw[show Va7 (a::c)=true from decide_eq_true ⟨by simp,this⟩]
  exact hr
end Go.Ev.Ce
namespace Go.Proofs
open Go.Shelf
def Ce.trimP_ren:Go.Shelf.Ren:=⟨fun | 160=>93 | 232=>124 | 231=>123 | 227=>125 | 234=>127 | 233=>126 | 236=>129 | 235=>128 | 228=>151 | 271=>154 | 151=>153 | 197=>152 | 120=>173 | 152=>172 | 260=>171 | 137=>188 | 119=>189 | 224=>190 | 225=>191 | 217=>196 | 266=>198 | n=>n,fun | 9=>9 | 4=>4 | 3=>3 | 5=>5 | 117=>161 | 116=>160 | 0=>0 | 124=>164 | 21=>21 | 105=>176 | 46=>172 | 119=>205 | 139=>208 | 138=>207 | n=>n,fun | 3=>0 | 4=>1 | n=>n⟩
theorem Ce.trimP:Go.Proofs.Lays.n160 Tryz.prog Ce.trimP_ren:={
 mixed:=by kernel_rfl
 f119:=Tryz.func189.trans (congrArg some (by kernel_rfl))
 f120:=Tryz.func173.trans (congrArg some (by kernel_rfl))
 f137:=Tryz.func188.trans (congrArg some (by kernel_rfl))
 f151:=Tryz.func153.trans (congrArg some (by kernel_rfl))
 f152:=Tryz.func172.trans (congrArg some (by kernel_rfl))
 f160:=Tryz.func93.trans (congrArg some (by kernel_rfl))
 f197:=Tryz.func152.trans (congrArg some (by kernel_rfl))
 f217:=Tryz.func196.trans (congrArg some (by kernel_rfl))
 f224:=Tryz.func190.trans (congrArg some (by kernel_rfl))
 f225:=Tryz.func191.trans (congrArg some (by kernel_rfl))
 f227:=Tryz.func125.trans (congrArg some (by kernel_rfl))
 f228:=Tryz.func151.trans (congrArg some (by kernel_rfl))
 f231:=Tryz.func123.trans (congrArg some (by kernel_rfl))
 f232:=Tryz.func124.trans (congrArg some (by kernel_rfl))
 f233:=Tryz.func126.trans (congrArg some (by kernel_rfl))
 f234:=Tryz.func127.trans (congrArg some (by kernel_rfl))
 f235:=Tryz.func128.trans (congrArg some (by kernel_rfl))
 f236:=Tryz.func129.trans (congrArg some (by kernel_rfl))
 f260:=Tryz.func171.trans (congrArg some (by kernel_rfl))
 f266:=Tryz.func198.trans (congrArg some (by kernel_rfl))
 f271:=Tryz.func154.trans (congrArg some (by kernel_rfl))
 t0:=Tryz.underlying0
 a0:=Tryz.isAgg0
 z0:=Tryz.sizeOf0
 v0:=Tryz.zeroValue0
 t3:=Tryz.underlying3
 a3:=Tryz.isAgg3
 z3:=Tryz.sizeOf3
 v3:=Tryz.zeroValue3
 t4:=Tryz.underlying4
 a4:=Tryz.isAgg4
 z4:=Tryz.sizeOf4
 v4:=Tryz.zeroValue4
 t5:=Tryz.underlying5
 a5:=Tryz.isAgg5
 z5:=Tryz.sizeOf5
 v5:=Tryz.zeroValue5
 t9:=Tryz.underlying9
 a9:=Tryz.isAgg9
 z9:=Tryz.sizeOf9
 v9:=Tryz.zeroValue9
 t21:=Tryz.underlying21
 a21:=Tryz.isAgg21
 z21:=Tryz.sizeOf21
 v21:=Tryz.zeroValue21
 t46:=Tryz.underlying172
 a46:=Tryz.isAgg172
 z46:=Tryz.sizeOf172
 v46:=Tryz.zeroValue172
 t105:=Tryz.underlying176
 a105:=Tryz.isAgg176
 z105:=Tryz.sizeOf176
 v105:=Tryz.zeroValue176
 t116:=Tryz.underlying160
 a116:=Tryz.isAgg160
 z116:=Tryz.sizeOf160
 t117:=Tryz.underlying161
 a117:=Tryz.isAgg161
 z117:=Tryz.sizeOf161
 v117:=Tryz.zeroValue161
 t119:=Tryz.underlying205
 a119:=Tryz.isAgg205
 z119:=Tryz.sizeOf205
 t124:=Tryz.underlying164
 a124:=Tryz.isAgg164
 z124:=Tryz.sizeOf164
 v124:=Tryz.zeroValue164
 t138:=Tryz.underlying207
 a138:=Tryz.isAgg207
 z138:=Tryz.sizeOf207
 v138:=Tryz.zeroValue207
 t139:=Tryz.underlying208
 a139:=Tryz.isAgg208
 z139:=Tryz.sizeOf208
 v139:=Tryz.zeroValue208
 g3:=by kernel_rfl
 g4:=by kernel_rfl }
end Go.Proofs
namespace Go.Ev.Ce
open Go Go.Ev Go.Proofs
theorem ad9{w':World}(w:World)(A B:Obj)(q:Nat)(h:w'=((w.alloc A).alloc B).drewN q):w'.os=w.os/\w'.tape=w.tape/\w'.output=w.output/\w.heap.size<=w'.heap.size/\(∀k,k<w.heap.size->w'.heap[k]?=w.heap[k]?)/\w.drawn<=w'.drawn:=by
 have e:w'.heap=(w.heap.push A).push B:=by rw[h];rfl
 refine⟨by rw[h];rfl,by rw[h];rfl,by rw[h];rfl,?_,λk hk=>?_,?_⟩
 ·rw[e,Qjb,Qjb];omega
 ·rw[e,Qam,if_neg (by rw[Qjb];omega),Qam,if_neg (by omega)]
 ·rw[h];exact Nat.le_add_right _ _
def Nd6(s c:ByteArray):ByteArray:=⟨(Go.Lib.trimS s.data.toList c.data.toList).toArray⟩
def Nd7(s c:ByteArray):Bool:=Bool.and (Bool.and (Nat.blt 0 s.size) (Nat.ble s.size 9223372036854775807)) (Bool.and (Bool.and (Nat.blt 1 c.size) (Nat.blt c.size 4294967281)) (c.data.toList.all λb=>decide (b.toNat<128)))
def Fa4:Sum:=λargs blks=>match args,blks with
 |[.v (.string s),.v (.string c)],[]=>.guard (Nd7 s c) (.ret (.v (.string (Nd6 s c)),[]))
 |_,_=>.fail
theorem f160:Ce.trimP_ren.f 160=93:=by kernel_rfl
set_option maxRecDepth 100000 in
theorem Lb0:d6 prog G 93 Fa4:=by
 intro args blks r out he W ρ F w args' hH hlen hargs hG;refine⟨⟨_,Tryz.func93,by kernel_rfl,of_decide_eq_true (by kernel_rfl)⟩,?_⟩
 unfold Fa4 at he
 split at he
 case h_2=>cases he
 rename_i s c
 match args',hlen with
 |[v0,v1],_ =>
 have e0:=F9 (hargs 0 _ _ rfl rfl);have e1:=F9 (hargs 1 _ _ rfl rfl);subst e0 e1;obtain⟨hg,he⟩:=DT.run_guard_some he;unfold Nd7 at hg;simp only[Qbd] at hg;obtain⟨⟨g1,g2⟩,⟨g3,g4⟩,g5⟩:=hg;have he:some (a7.v (.string (Nd6 s c)),([]:List a8))=some (r,out):=he;injection he with he;injection he with q1 q2;subst q1 q2
 have h116:(Tryz.prog.info? (Ce.trimP_ren.t 116)).map (λi=>(i.zero,i.size))=some (some (.agg (Array.replicate 256 (.bool false))),256):=by kernel_rfl
 have:=Any.strings_Trim_set Ce.trimP (zero_of_info h116).1 (zero_of_info h116).2 s c w (Qbb g3) (Qbb g1) (Qbb g2) (Qbb g4) (ascii_of_all g5)
 rw[f160] at this;refine this.mono λe w' ⟨h1,q,hb⟩=>?_
 subst h1;obtain⟨k1,k2,k3,hws,hold,k6⟩:=ad9 w _ _ q hb;have hcell:∀b o,F b o->w'.cell? ⟨b,o,none⟩=w.cell? ⟨b,o,none⟩:=λb o hf=>by
  have:=hold b (Ga7 (hH.frz b o hf))
  simp[World.cell?,this]
 refine⟨_,rfl,ρ,F,⟨⟨k1,k2,k3,hws,λk hk _=>hold k hk,hcell,k6⟩,.refl,λ_ _ h=>h,λ_ _ h=>.inl h,λ_ b h hn=>absurd rfl (hn b h)⟩,?_,.ofv _⟩
 exact⟨λid b hb hd=>(hH.blk id b hb hd).elim λcc h=>h.elim λt h=>h.elim λfr hB=>⟨cc,t,fr,hB.keep (hold _ hB.lt) hcell⟩,hH.apart,λb o hf=>by rw[hcell b o hf];exact hH.frz b o hf,λk hk=>hH.new k (by omega)⟩
end Go.Ev.Ce
namespace Go.Ev.Ce
open Go Go.Ev Go.Ev.L Go.Proofs
section
variable(c:PLq)(e:V3)(s:Int)
structure PI(j:Nat)(o:PLq):Prop where
 le:j<=c.length
 o:o=(c.take j).map (pq e s)
 a:(c.take j).all (okq e s)=true
end
section
variable(c:PLq)(e:V3)(hc:c.length<=1000000)
include hc
end
theorem Gb2:∀(l r:List V3),l.Pairwise LtV->r.Pairwise LtV->(∀v,v∈l↔v∈r)->l=r
 |[],[],_,_,_=>rfl
 |[],y::r,_,_,h=>absurd ((h y).2 (Qck ..)) (by simp)
 |x::l,[],_,_,h=>absurd ((h x).1 (Qck ..)) (by simp)
 |x::l,y::r,h1,h2,h=>by
  obtain⟨a1,a2⟩:=Qid.1 h1;obtain⟨b1,b2⟩:=Qid.1 h2;have e:x=y:=by
   rcases Qbp.1 ((h x).1 (Qck ..)) with e|hx
   ·exact e
   ·rcases Qbp.1 ((h y).2 (Qck ..)) with e|hy
    ·exact e.symm
    ·exact absurd (fb8 (b1 x hx) (a1 y hy)) (vb4 y)
  subst e
  have:l=r:=Gb2 l r a2 b2 λv=>by
   have hv:=h v;simp only[Qbp] at hv;constructor
   ·intro hm
    rcases hv.1 (.inr hm) with e|h'
    ·subst e;exact absurd (a1 v hm) (vb4 v)
    ·exact h'
   ·intro hm
    rcases hv.2 (.inr hm) with e|h'
    ·subst e;exact absurd (b1 v hm) (vb4 v)
    ·exact h'
  rw[this]
set_option maxRecDepth 1000000
def fN{α:Type}(n:Nat)(f:Nat->α):α:=Nat.rec (motive:=λ_=>α) (f 0) (λk _=>f (Nat.succ k)) n
theorem Nd8{α:Type}(n:Nat)(f:Nat->α):fN n f=f n:=by cases n<;>rfl
def fI{α:Type}(x:Int)(f:Int->α):α:=Int.rec (motive:=λ_=>α) (λn=>fN n λn=>f (.ofNat n)) (λn=>fN n λn=>f (.negSucc n)) x
theorem Nd9{α:Type}(x:Int)(f:Int->α):fI x f=f x:=by
 cases x with
 |ofNat n=>exact Nd8 n λn=>f (.ofNat n)
 |negSucc n=>exact Nd8 n λn=>f (.negSucc n)
def fV{α:Type}(p:V3)(f:V3->α):α:=fI p.x λx=>fI p.y λy=>fI p.z λz=>f ⟨x,y,z⟩
theorem hc9{α:Type}(p:V3)(f:V3->α):fV p f=f p:=by unfold fV;simp only[Nd9]
def fZ{α β:Type}(h:β->(β->α)->α)(l:List β):(List β->α)->α:=List.rec (motive:=λ_=>(List β->α)->α) (λf=>f []) (λp _ ih f=>h p λp=>ih λl=>f (p::l)) l
theorem ic0{α β:Type}{h:β->(β->α)->α}(hh:∀x f,h x f=f x)(l:List β)(f:List β->α):fZ h l f=f l:=by
 induction l generalizing f with
 |nil=>rfl
 |cons p l ih=>exact (hh p λp=>fZ h l λl=>f (p::l)).trans (ih λl=>f (p::l))
def Kc7(v:V3)(l:List V3):List V3:=List.rec (motive:=λ_=>List V3) [v] (λw r ih=>Bool.rec (motive:=λ_=>List V3) (Bool.rec (motive:=λ_=>List V3) (w::r) (w::ih) (decide (LtV w v))) (v::w::r) (decide (LtV v w))) l
theorem Xb7{v u:V3}:∀{l:List V3},u∈Kc7 v l↔u=v\/u∈l
 |[]=>by show u∈[v]↔_;simp
 |w::r=>by
  show u∈(Bool.rec (motive:=λ_=>List V3) (Bool.rec (motive:=λ_=>List V3) (w::r) (w::Kc7 v r) (decide (LtV w v))) (v::w::r) (decide (LtV v w)))↔_
  by_cases h1:LtV v w
  ·rw[decide_eq_true h1];simp
  ·rw[decide_eq_false h1];by_cases h2:LtV w v
   ·rw[decide_eq_true h2];show u∈w::Kc7 v r↔_;rw[Qbp,Xb7,Qbp];constructor
    ·rintro (h|h|h)<;>simp[h]
    ·rintro (h|h|h)<;>simp[h]
   ·rw[decide_eq_false h2]
    have:v=w:=(Qc4 v w).elim (λh=>absurd h h1) λh=>h.elim id λh=>absurd h h2
    subst this;show u∈v::r↔_;simp
theorem Cc2{v:V3}:∀{l:List V3},l.Pairwise LtV->(Kc7 v l).Pairwise LtV
 |[],_=>by show [v].Pairwise LtV;simp
 |w::r,h=>by
  show (Bool.rec (motive:=λ_=>List V3) (Bool.rec (motive:=λ_=>List V3) (w::r) (w::Kc7 v r) (decide (LtV w v))) (v::w::r) (decide (LtV v w)):List V3).Pairwise LtV
  obtain⟨h3,h4⟩:=Qid.1 h;by_cases h1:LtV v w
  ·rw[decide_eq_true h1];refine Qid.2 ⟨λu hu=>?_,h⟩
   rcases Qbp.1 hu with rfl|hu
   ·exact h1
   ·exact fb8 h1 (h3 u hu)
  ·rw[decide_eq_false h1];by_cases h2:LtV w v
   ·rw[decide_eq_true h2];refine Qid.2 ⟨λu hu=>?_,Cc2 h4⟩
    rcases Xb7.1 hu with rfl|hu
    ·exact h2
    ·exact h3 u hu
   ·rw[decide_eq_false h2];exact h
def qd6(l:List V3):List V3:=List.rec (motive:=λ_=>List V3) [] (λv _ ih=>Kc7 v ih) l
theorem Cc3{u:V3}:∀{l:List V3},u∈qd6 l↔u∈l
 |[]=>Iff.rfl
 |v::r=>by show u∈Kc7 v (qd6 r)↔_;rw[Xb7,Cc3,Qbp]
theorem Cc4:∀l:List V3,(qd6 l).Pairwise LtV
 |[]=>.nil
 |v::r=>Cc2 (Cc4 r)
theorem Fd0(l:List V3):dis l=qd6 l:=Gb2 _ _ (od0 _) (Cc4 l) λv=>by rw[vb5,Cc3]
def cb8(l:List V3):List V3×Int:=if ua6 l=0 then ((qd6 l).filter (kv (F0 l)),0) else ([],ua6 l)
theorem Fd1(l:List V3):Zb7 l=cb8 l:=by unfold Zb7 cb8 qe3;rw[Fd0]
def Rc7:Sum:=G9 (ga2 tV) λl=>fZ fV l λl=>.guard (Nat.ble l.length 900000) (.ret ((one r1I).enc (ua6 l),[]))
theorem qd7:d6 prog G 104 Rc7:=wb5 ia6 ia6 λl r h=>by
 rw[ic0 hc9] at h;obtain⟨hg,h⟩:=DT.run_guard_some h;have hl:=Qbb hg;left;rw[vb7 l (by omega),vb8 l (by omega)];exact h
def qc1(p q:V3):Bool:=p.x==q.x&&(p.y==q.y&&p.z==q.z)
theorem gb1(p q:V3)(h:qc1 p q=true):p=q:=by
 obtain⟨x,y,z⟩:=p;obtain⟨x',y',z'⟩:=q;unfold qc1 at h;simp only[Qbd,beq_iff_eq] at h;obtain⟨rfl,rfl,rfl⟩:=h;rfl
def eqZ{β:Type}(h:β->β->Bool)(l:List β):List β->Bool :=
 List.rec (motive:=λ_=>List β->Bool) (λm=>List.rec (motive:=λ_=>Bool) true (λ_ _ _=>false) m) (λx _ ih m=>List.rec (motive:=λ_=>Bool) false (λy t _=>Bool.rec (motive:=λ_=>Bool) false (ih t) (h x y)) m) l
theorem Ma7{β:Type}{h:β->β->Bool}(hh:∀x y,h x y=true->x=y):∀{l m:List β},eqZ h l m=true->l=m
 |[],[],_=>rfl
 |[],_::_,e=>by cases e
 |_::_,[],e=>by cases e
 |x::l,y::m,e=>by
  have e:Bool.rec (motive:=λ_=>Bool) false (eqZ h l m) (h x y)=true:=e
  cases hx:h x y with
  |false=>rw[hx] at e;cases e
  |true=>rw[hx] at e;rw[hh x y hx,Ma7 hh e]
def onT{β:Type}(l:List V3)(k:β->DT (a7×List a8))(T:List (List V3×β)):DT (a7×List a8) :=
 List.rec (motive:=λ_=>DT (a7×List a8)) .fail (λx _ ih=>.ite (eqZ qc1 l x.1) (k x.2) ih) T
theorem wb6{β:Type}{l:List V3}{k:β->DT (a7×List a8)}{r:a7×List a8}{Q:List V3×β->Prop}:∀{T:List (List V3×β)},X4 Q T->(onT l k T).run=some r->∃x,Q (l,x)/\(k x).run=some r
 |[],_,h=>by cases h
 |(m,x)::T,.cons hq ht,h=>by
  have h:(DT.ite (eqZ qc1 l m) (k x) (onT l k T)).run=some r:=h;rw[DT.run_ite] at h
  split at h
  ·rename_i e;exact⟨x,by rw[Ma7 gb1 e];exact hq,h⟩
  ·exact wb6 ht h
theorem Ce0:Q1 [⟨0,0,0⟩,⟨2,0,0⟩,⟨0,2,0⟩,⟨2,2,0⟩,⟨0,0,2⟩,⟨2,0,2⟩,⟨0,2,2⟩,⟨2,2,2⟩]=([⟨⟨-1,0,0⟩,0⟩,⟨⟨0,-1,0⟩,0⟩,⟨⟨0,0,-1⟩,0⟩,⟨⟨0,0,1⟩,2⟩,⟨⟨0,1,0⟩,2⟩,⟨⟨1,0,0⟩,2⟩],0):=by kernel_rfl
theorem Ce1:Q1 [⟨0,0,0⟩,⟨0,0,2⟩,⟨0,2,0⟩,⟨0,2,2⟩,⟨2,0,0⟩,⟨2,0,2⟩,⟨2,2,0⟩,⟨2,2,2⟩]=([⟨⟨-1,0,0⟩,0⟩,⟨⟨0,-1,0⟩,0⟩,⟨⟨0,0,-1⟩,0⟩,⟨⟨0,0,1⟩,2⟩,⟨⟨0,1,0⟩,2⟩,⟨⟨1,0,0⟩,2⟩],0):=by kernel_rfl
theorem Ce2:Q1 [⟨0,0,0⟩,⟨0,0,2⟩,⟨0,2,0⟩,⟨0,2,2⟩,⟨3,0,0⟩,⟨3,0,2⟩,⟨3,2,0⟩,⟨3,2,2⟩]=([⟨⟨-1,0,0⟩,0⟩,⟨⟨0,-1,0⟩,0⟩,⟨⟨0,0,-1⟩,0⟩,⟨⟨0,0,1⟩,2⟩,⟨⟨0,1,0⟩,2⟩,⟨⟨1,0,0⟩,3⟩],0):=by kernel_rfl
theorem Ce3:Q1 [⟨1,0,0⟩,⟨1,0,2⟩,⟨1,2,0⟩,⟨1,2,2⟩,⟨4,0,0⟩,⟨4,0,2⟩,⟨4,2,0⟩,⟨4,2,2⟩]=([⟨⟨-1,0,0⟩,-1⟩,⟨⟨0,-1,0⟩,0⟩,⟨⟨0,0,-1⟩,0⟩,⟨⟨0,0,1⟩,2⟩,⟨⟨0,1,0⟩,2⟩,⟨⟨1,0,0⟩,4⟩],0):=by kernel_rfl
theorem Ce4:Q1 [⟨2,0,0⟩,⟨2,0,2⟩,⟨2,2,0⟩,⟨2,2,2⟩,⟨5,0,0⟩,⟨5,0,2⟩,⟨5,2,0⟩,⟨5,2,2⟩]=([⟨⟨-1,0,0⟩,-2⟩,⟨⟨0,-1,0⟩,0⟩,⟨⟨0,0,-1⟩,0⟩,⟨⟨0,0,1⟩,2⟩,⟨⟨0,1,0⟩,2⟩,⟨⟨1,0,0⟩,5⟩],0):=by kernel_rfl
theorem Ce5:Q1 [⟨3,0,0⟩,⟨3,0,2⟩,⟨3,2,0⟩,⟨3,2,2⟩,⟨6,0,0⟩,⟨6,0,2⟩,⟨6,2,0⟩,⟨6,2,2⟩]=([⟨⟨-1,0,0⟩,-3⟩,⟨⟨0,-1,0⟩,0⟩,⟨⟨0,0,-1⟩,0⟩,⟨⟨0,0,1⟩,2⟩,⟨⟨0,1,0⟩,2⟩,⟨⟨1,0,0⟩,6⟩],0):=by kernel_rfl
theorem Ce6:Q1 [⟨4,0,0⟩,⟨4,0,2⟩,⟨4,2,0⟩,⟨4,2,2⟩,⟨7,0,0⟩,⟨7,0,2⟩,⟨7,2,0⟩,⟨7,2,2⟩]=([⟨⟨-1,0,0⟩,-4⟩,⟨⟨0,-1,0⟩,0⟩,⟨⟨0,0,-1⟩,0⟩,⟨⟨0,0,1⟩,2⟩,⟨⟨0,1,0⟩,2⟩,⟨⟨1,0,0⟩,7⟩],0):=by kernel_rfl
theorem Ce7:Q1 [⟨5,0,0⟩,⟨5,0,2⟩,⟨5,2,0⟩,⟨5,2,2⟩,⟨8,0,0⟩,⟨8,0,2⟩,⟨8,2,0⟩,⟨8,2,2⟩]=([⟨⟨-1,0,0⟩,-5⟩,⟨⟨0,-1,0⟩,0⟩,⟨⟨0,0,-1⟩,0⟩,⟨⟨0,0,1⟩,2⟩,⟨⟨0,1,0⟩,2⟩,⟨⟨1,0,0⟩,8⟩],0):=by kernel_rfl
theorem Ce8:cb8 [⟨0,0,0⟩,⟨2,0,0⟩,⟨0,2,0⟩,⟨2,2,0⟩,⟨0,0,2⟩,⟨2,0,2⟩,⟨0,2,2⟩,⟨2,2,2⟩]=([⟨0,0,0⟩,⟨0,0,2⟩,⟨0,2,0⟩,⟨0,2,2⟩,⟨2,0,0⟩,⟨2,0,2⟩,⟨2,2,0⟩,⟨2,2,2⟩],0):=by kernel_rfl
theorem Ce9:cb8 [⟨0,0,0⟩,⟨1,0,0⟩,⟨2,0,0⟩,⟨3,0,0⟩,⟨0,2,0⟩,⟨1,2,0⟩,⟨2,2,0⟩,⟨3,2,0⟩,⟨0,0,2⟩,⟨1,0,2⟩,⟨2,0,2⟩,⟨3,0,2⟩,⟨0,2,2⟩,⟨1,2,2⟩,⟨2,2,2⟩,⟨3,2,2⟩]=([⟨0,0,0⟩,⟨0,0,2⟩,⟨0,2,0⟩,⟨0,2,2⟩,⟨3,0,0⟩,⟨3,0,2⟩,⟨3,2,0⟩,⟨3,2,2⟩],0):=by kernel_rfl
theorem De0:cb8 [⟨0,0,0⟩,⟨0,0,2⟩,⟨0,2,0⟩,⟨0,2,2⟩,⟨3,0,0⟩,⟨3,0,2⟩,⟨3,2,0⟩,⟨3,2,2⟩]=([⟨0,0,0⟩,⟨0,0,2⟩,⟨0,2,0⟩,⟨0,2,2⟩,⟨3,0,0⟩,⟨3,0,2⟩,⟨3,2,0⟩,⟨3,2,2⟩],0):=by kernel_rfl
theorem De1:cb8 [⟨1,0,0⟩,⟨2,0,0⟩,⟨3,0,0⟩,⟨4,0,0⟩,⟨1,2,0⟩,⟨2,2,0⟩,⟨3,2,0⟩,⟨4,2,0⟩,⟨1,0,2⟩,⟨2,0,2⟩,⟨3,0,2⟩,⟨4,0,2⟩,⟨1,2,2⟩,⟨2,2,2⟩,⟨3,2,2⟩,⟨4,2,2⟩]=([⟨1,0,0⟩,⟨1,0,2⟩,⟨1,2,0⟩,⟨1,2,2⟩,⟨4,0,0⟩,⟨4,0,2⟩,⟨4,2,0⟩,⟨4,2,2⟩],0):=by kernel_rfl
theorem De2:cb8 [⟨1,0,0⟩,⟨1,0,2⟩,⟨1,2,0⟩,⟨1,2,2⟩,⟨4,0,0⟩,⟨4,0,2⟩,⟨4,2,0⟩,⟨4,2,2⟩]=([⟨1,0,0⟩,⟨1,0,2⟩,⟨1,2,0⟩,⟨1,2,2⟩,⟨4,0,0⟩,⟨4,0,2⟩,⟨4,2,0⟩,⟨4,2,2⟩],0):=by kernel_rfl
theorem De3:cb8 [⟨2,0,0⟩,⟨3,0,0⟩,⟨4,0,0⟩,⟨5,0,0⟩,⟨2,2,0⟩,⟨3,2,0⟩,⟨4,2,0⟩,⟨5,2,0⟩,⟨2,0,2⟩,⟨3,0,2⟩,⟨4,0,2⟩,⟨5,0,2⟩,⟨2,2,2⟩,⟨3,2,2⟩,⟨4,2,2⟩,⟨5,2,2⟩]=([⟨2,0,0⟩,⟨2,0,2⟩,⟨2,2,0⟩,⟨2,2,2⟩,⟨5,0,0⟩,⟨5,0,2⟩,⟨5,2,0⟩,⟨5,2,2⟩],0):=by kernel_rfl
theorem De4:cb8 [⟨2,0,0⟩,⟨2,0,2⟩,⟨2,2,0⟩,⟨2,2,2⟩,⟨5,0,0⟩,⟨5,0,2⟩,⟨5,2,0⟩,⟨5,2,2⟩]=([⟨2,0,0⟩,⟨2,0,2⟩,⟨2,2,0⟩,⟨2,2,2⟩,⟨5,0,0⟩,⟨5,0,2⟩,⟨5,2,0⟩,⟨5,2,2⟩],0):=by kernel_rfl
theorem De5:cb8 [⟨3,0,0⟩,⟨4,0,0⟩,⟨5,0,0⟩,⟨6,0,0⟩,⟨3,2,0⟩,⟨4,2,0⟩,⟨5,2,0⟩,⟨6,2,0⟩,⟨3,0,2⟩,⟨4,0,2⟩,⟨5,0,2⟩,⟨6,0,2⟩,⟨3,2,2⟩,⟨4,2,2⟩,⟨5,2,2⟩,⟨6,2,2⟩]=([⟨3,0,0⟩,⟨3,0,2⟩,⟨3,2,0⟩,⟨3,2,2⟩,⟨6,0,0⟩,⟨6,0,2⟩,⟨6,2,0⟩,⟨6,2,2⟩],0):=by kernel_rfl
theorem De6:cb8 [⟨3,0,0⟩,⟨3,0,2⟩,⟨3,2,0⟩,⟨3,2,2⟩,⟨6,0,0⟩,⟨6,0,2⟩,⟨6,2,0⟩,⟨6,2,2⟩]=([⟨3,0,0⟩,⟨3,0,2⟩,⟨3,2,0⟩,⟨3,2,2⟩,⟨6,0,0⟩,⟨6,0,2⟩,⟨6,2,0⟩,⟨6,2,2⟩],0):=by kernel_rfl
theorem De7:cb8 [⟨4,0,0⟩,⟨5,0,0⟩,⟨6,0,0⟩,⟨7,0,0⟩,⟨4,2,0⟩,⟨5,2,0⟩,⟨6,2,0⟩,⟨7,2,0⟩,⟨4,0,2⟩,⟨5,0,2⟩,⟨6,0,2⟩,⟨7,0,2⟩,⟨4,2,2⟩,⟨5,2,2⟩,⟨6,2,2⟩,⟨7,2,2⟩]=([⟨4,0,0⟩,⟨4,0,2⟩,⟨4,2,0⟩,⟨4,2,2⟩,⟨7,0,0⟩,⟨7,0,2⟩,⟨7,2,0⟩,⟨7,2,2⟩],0):=by kernel_rfl
theorem qe6:cb8 [⟨4,0,0⟩,⟨4,0,2⟩,⟨4,2,0⟩,⟨4,2,2⟩,⟨7,0,0⟩,⟨7,0,2⟩,⟨7,2,0⟩,⟨7,2,2⟩]=([⟨4,0,0⟩,⟨4,0,2⟩,⟨4,2,0⟩,⟨4,2,2⟩,⟨7,0,0⟩,⟨7,0,2⟩,⟨7,2,0⟩,⟨7,2,2⟩],0):=by kernel_rfl
theorem qe7:cb8 [⟨5,0,0⟩,⟨6,0,0⟩,⟨7,0,0⟩,⟨8,0,0⟩,⟨5,2,0⟩,⟨6,2,0⟩,⟨7,2,0⟩,⟨8,2,0⟩,⟨5,0,2⟩,⟨6,0,2⟩,⟨7,0,2⟩,⟨8,0,2⟩,⟨5,2,2⟩,⟨6,2,2⟩,⟨7,2,2⟩,⟨8,2,2⟩]=([⟨5,0,0⟩,⟨5,0,2⟩,⟨5,2,0⟩,⟨5,2,2⟩,⟨8,0,0⟩,⟨8,0,2⟩,⟨8,2,0⟩,⟨8,2,2⟩],0):=by kernel_rfl
theorem qe8:cb8 [⟨5,0,0⟩,⟨5,0,2⟩,⟨5,2,0⟩,⟨5,2,2⟩,⟨8,0,0⟩,⟨8,0,2⟩,⟨8,2,0⟩,⟨8,2,2⟩]=([⟨5,0,0⟩,⟨5,0,2⟩,⟨5,2,0⟩,⟨5,2,2⟩,⟨8,0,0⟩,⟨8,0,2⟩,⟨8,2,0⟩,⟨8,2,2⟩],0):=by kernel_rfl
def qe9:List (List V3×PLq):=[([⟨0,0,0⟩,⟨2,0,0⟩,⟨0,2,0⟩,⟨2,2,0⟩,⟨0,0,2⟩,⟨2,0,2⟩,⟨0,2,2⟩,⟨2,2,2⟩],[⟨⟨-1,0,0⟩,0⟩,⟨⟨0,-1,0⟩,0⟩,⟨⟨0,0,-1⟩,0⟩,⟨⟨0,0,1⟩,2⟩,⟨⟨0,1,0⟩,2⟩,⟨⟨1,0,0⟩,2⟩]),([⟨0,0,0⟩,⟨0,0,2⟩,⟨0,2,0⟩,⟨0,2,2⟩,⟨2,0,0⟩,⟨2,0,2⟩,⟨2,2,0⟩,⟨2,2,2⟩],[⟨⟨-1,0,0⟩,0⟩,⟨⟨0,-1,0⟩,0⟩,⟨⟨0,0,-1⟩,0⟩,⟨⟨0,0,1⟩,2⟩,⟨⟨0,1,0⟩,2⟩,⟨⟨1,0,0⟩,2⟩]),([⟨0,0,0⟩,⟨0,0,2⟩,⟨0,2,0⟩,⟨0,2,2⟩,⟨3,0,0⟩,⟨3,0,2⟩,⟨3,2,0⟩,⟨3,2,2⟩],[⟨⟨-1,0,0⟩,0⟩,⟨⟨0,-1,0⟩,0⟩,⟨⟨0,0,-1⟩,0⟩,⟨⟨0,0,1⟩,2⟩,⟨⟨0,1,0⟩,2⟩,⟨⟨1,0,0⟩,3⟩]),([⟨1,0,0⟩,⟨1,0,2⟩,⟨1,2,0⟩,⟨1,2,2⟩,⟨4,0,0⟩,⟨4,0,2⟩,⟨4,2,0⟩,⟨4,2,2⟩],[⟨⟨-1,0,0⟩,-1⟩,⟨⟨0,-1,0⟩,0⟩,⟨⟨0,0,-1⟩,0⟩,⟨⟨0,0,1⟩,2⟩,⟨⟨0,1,0⟩,2⟩,⟨⟨1,0,0⟩,4⟩]),([⟨2,0,0⟩,⟨2,0,2⟩,⟨2,2,0⟩,⟨2,2,2⟩,⟨5,0,0⟩,⟨5,0,2⟩,⟨5,2,0⟩,⟨5,2,2⟩],[⟨⟨-1,0,0⟩,-2⟩,⟨⟨0,-1,0⟩,0⟩,⟨⟨0,0,-1⟩,0⟩,⟨⟨0,0,1⟩,2⟩,⟨⟨0,1,0⟩,2⟩,⟨⟨1,0,0⟩,5⟩]),([⟨3,0,0⟩,⟨3,0,2⟩,⟨3,2,0⟩,⟨3,2,2⟩,⟨6,0,0⟩,⟨6,0,2⟩,⟨6,2,0⟩,⟨6,2,2⟩],[⟨⟨-1,0,0⟩,-3⟩,⟨⟨0,-1,0⟩,0⟩,⟨⟨0,0,-1⟩,0⟩,⟨⟨0,0,1⟩,2⟩,⟨⟨0,1,0⟩,2⟩,⟨⟨1,0,0⟩,6⟩]),([⟨4,0,0⟩,⟨4,0,2⟩,⟨4,2,0⟩,⟨4,2,2⟩,⟨7,0,0⟩,⟨7,0,2⟩,⟨7,2,0⟩,⟨7,2,2⟩],[⟨⟨-1,0,0⟩,-4⟩,⟨⟨0,-1,0⟩,0⟩,⟨⟨0,0,-1⟩,0⟩,⟨⟨0,0,1⟩,2⟩,⟨⟨0,1,0⟩,2⟩,⟨⟨1,0,0⟩,7⟩]),([⟨5,0,0⟩,⟨5,0,2⟩,⟨5,2,0⟩,⟨5,2,2⟩,⟨8,0,0⟩,⟨8,0,2⟩,⟨8,2,0⟩,⟨8,2,2⟩],[⟨⟨-1,0,0⟩,-5⟩,⟨⟨0,-1,0⟩,0⟩,⟨⟨0,0,-1⟩,0⟩,⟨⟨0,0,1⟩,2⟩,⟨⟨0,1,0⟩,2⟩,⟨⟨1,0,0⟩,8⟩])]
theorem Fd2:X4 (λx=>Q1 x.1=(x.2,0)) qe9:=.cons Ce0 <| .cons Ce1 <| .cons Ce2 <| .cons Ce3 <| .cons Ce4 <| .cons Ce5 <| .cons Ce6 <| .cons Ce7 <| .nil
def re0:List (List V3×List V3):=[([⟨0,0,0⟩,⟨2,0,0⟩,⟨0,2,0⟩,⟨2,2,0⟩,⟨0,0,2⟩,⟨2,0,2⟩,⟨0,2,2⟩,⟨2,2,2⟩],[⟨0,0,0⟩,⟨0,0,2⟩,⟨0,2,0⟩,⟨0,2,2⟩,⟨2,0,0⟩,⟨2,0,2⟩,⟨2,2,0⟩,⟨2,2,2⟩]),([⟨0,0,0⟩,⟨1,0,0⟩,⟨2,0,0⟩,⟨3,0,0⟩,⟨0,2,0⟩,⟨1,2,0⟩,⟨2,2,0⟩,⟨3,2,0⟩,⟨0,0,2⟩,⟨1,0,2⟩,⟨2,0,2⟩,⟨3,0,2⟩,⟨0,2,2⟩,⟨1,2,2⟩,⟨2,2,2⟩,⟨3,2,2⟩],[⟨0,0,0⟩,⟨0,0,2⟩,⟨0,2,0⟩,⟨0,2,2⟩,⟨3,0,0⟩,⟨3,0,2⟩,⟨3,2,0⟩,⟨3,2,2⟩]),([⟨0,0,0⟩,⟨0,0,2⟩,⟨0,2,0⟩,⟨0,2,2⟩,⟨3,0,0⟩,⟨3,0,2⟩,⟨3,2,0⟩,⟨3,2,2⟩],[⟨0,0,0⟩,⟨0,0,2⟩,⟨0,2,0⟩,⟨0,2,2⟩,⟨3,0,0⟩,⟨3,0,2⟩,⟨3,2,0⟩,⟨3,2,2⟩]),([⟨1,0,0⟩,⟨2,0,0⟩,⟨3,0,0⟩,⟨4,0,0⟩,⟨1,2,0⟩,⟨2,2,0⟩,⟨3,2,0⟩,⟨4,2,0⟩,⟨1,0,2⟩,⟨2,0,2⟩,⟨3,0,2⟩,⟨4,0,2⟩,⟨1,2,2⟩,⟨2,2,2⟩,⟨3,2,2⟩,⟨4,2,2⟩],[⟨1,0,0⟩,⟨1,0,2⟩,⟨1,2,0⟩,⟨1,2,2⟩,⟨4,0,0⟩,⟨4,0,2⟩,⟨4,2,0⟩,⟨4,2,2⟩]),([⟨1,0,0⟩,⟨1,0,2⟩,⟨1,2,0⟩,⟨1,2,2⟩,⟨4,0,0⟩,⟨4,0,2⟩,⟨4,2,0⟩,⟨4,2,2⟩],[⟨1,0,0⟩,⟨1,0,2⟩,⟨1,2,0⟩,⟨1,2,2⟩,⟨4,0,0⟩,⟨4,0,2⟩,⟨4,2,0⟩,⟨4,2,2⟩]),([⟨2,0,0⟩,⟨3,0,0⟩,⟨4,0,0⟩,⟨5,0,0⟩,⟨2,2,0⟩,⟨3,2,0⟩,⟨4,2,0⟩,⟨5,2,0⟩,⟨2,0,2⟩,⟨3,0,2⟩,⟨4,0,2⟩,⟨5,0,2⟩,⟨2,2,2⟩,⟨3,2,2⟩,⟨4,2,2⟩,⟨5,2,2⟩],[⟨2,0,0⟩,⟨2,0,2⟩,⟨2,2,0⟩,⟨2,2,2⟩,⟨5,0,0⟩,⟨5,0,2⟩,⟨5,2,0⟩,⟨5,2,2⟩]),([⟨2,0,0⟩,⟨2,0,2⟩,⟨2,2,0⟩,⟨2,2,2⟩,⟨5,0,0⟩,⟨5,0,2⟩,⟨5,2,0⟩,⟨5,2,2⟩],[⟨2,0,0⟩,⟨2,0,2⟩,⟨2,2,0⟩,⟨2,2,2⟩,⟨5,0,0⟩,⟨5,0,2⟩,⟨5,2,0⟩,⟨5,2,2⟩]),([⟨3,0,0⟩,⟨4,0,0⟩,⟨5,0,0⟩,⟨6,0,0⟩,⟨3,2,0⟩,⟨4,2,0⟩,⟨5,2,0⟩,⟨6,2,0⟩,⟨3,0,2⟩,⟨4,0,2⟩,⟨5,0,2⟩,⟨6,0,2⟩,⟨3,2,2⟩,⟨4,2,2⟩,⟨5,2,2⟩,⟨6,2,2⟩],[⟨3,0,0⟩,⟨3,0,2⟩,⟨3,2,0⟩,⟨3,2,2⟩,⟨6,0,0⟩,⟨6,0,2⟩,⟨6,2,0⟩,⟨6,2,2⟩]),([⟨3,0,0⟩,⟨3,0,2⟩,⟨3,2,0⟩,⟨3,2,2⟩,⟨6,0,0⟩,⟨6,0,2⟩,⟨6,2,0⟩,⟨6,2,2⟩],[⟨3,0,0⟩,⟨3,0,2⟩,⟨3,2,0⟩,⟨3,2,2⟩,⟨6,0,0⟩,⟨6,0,2⟩,⟨6,2,0⟩,⟨6,2,2⟩]),([⟨4,0,0⟩,⟨5,0,0⟩,⟨6,0,0⟩,⟨7,0,0⟩,⟨4,2,0⟩,⟨5,2,0⟩,⟨6,2,0⟩,⟨7,2,0⟩,⟨4,0,2⟩,⟨5,0,2⟩,⟨6,0,2⟩,⟨7,0,2⟩,⟨4,2,2⟩,⟨5,2,2⟩,⟨6,2,2⟩,⟨7,2,2⟩],[⟨4,0,0⟩,⟨4,0,2⟩,⟨4,2,0⟩,⟨4,2,2⟩,⟨7,0,0⟩,⟨7,0,2⟩,⟨7,2,0⟩,⟨7,2,2⟩]),([⟨4,0,0⟩,⟨4,0,2⟩,⟨4,2,0⟩,⟨4,2,2⟩,⟨7,0,0⟩,⟨7,0,2⟩,⟨7,2,0⟩,⟨7,2,2⟩],[⟨4,0,0⟩,⟨4,0,2⟩,⟨4,2,0⟩,⟨4,2,2⟩,⟨7,0,0⟩,⟨7,0,2⟩,⟨7,2,0⟩,⟨7,2,2⟩]),([⟨5,0,0⟩,⟨6,0,0⟩,⟨7,0,0⟩,⟨8,0,0⟩,⟨5,2,0⟩,⟨6,2,0⟩,⟨7,2,0⟩,⟨8,2,0⟩,⟨5,0,2⟩,⟨6,0,2⟩,⟨7,0,2⟩,⟨8,0,2⟩,⟨5,2,2⟩,⟨6,2,2⟩,⟨7,2,2⟩,⟨8,2,2⟩],[⟨5,0,0⟩,⟨5,0,2⟩,⟨5,2,0⟩,⟨5,2,2⟩,⟨8,0,0⟩,⟨8,0,2⟩,⟨8,2,0⟩,⟨8,2,2⟩]),([⟨5,0,0⟩,⟨5,0,2⟩,⟨5,2,0⟩,⟨5,2,2⟩,⟨8,0,0⟩,⟨8,0,2⟩,⟨8,2,0⟩,⟨8,2,2⟩],[⟨5,0,0⟩,⟨5,0,2⟩,⟨5,2,0⟩,⟨5,2,2⟩,⟨8,0,0⟩,⟨8,0,2⟩,⟨8,2,0⟩,⟨8,2,2⟩])]
theorem Fd3:X4 (λx=>cb8 x.1=(x.2,0)) re0:=.cons Ce8 <| .cons Ce9 <| .cons De0 <| .cons De1 <| .cons De2 <| .cons De3 <| .cons De4 <| .cons De5 <| .cons De6 <| .cons De7 <| .cons qe6 <| .cons qe7 <| .cons qe8 <| .nil
def qd8:Sum:=G9 (ga2 tV) λl=>fZ fV l λl=>onT l (λa=>.ret ((two (r1L tP) r1I).enc (a,0),[])) qe9
theorem qd9:d6 prog G 70 qd8:=wb5 cb7 cb7 λl r h=>by
 rw[ic0 hc9] at h;obtain⟨x,hx,h⟩:=wb6 Fd2 h;left;have hg:kb8 l=true:=decide_eq_true (by
  have:ua6 l=0:=by
   unfold Q1 at hx
   split at hx
   ·assumption
   ·have:=congrArg Prod.snd hx
    exact this
  have:=(gb0 this).1
  omega)
 rw[hg];show some ((two (r1L tP) r1I).enc (Q1 l),([]:List a8))=some r;rw[hx];exact h
def rd0:Sum:=G9 (ga2 tV) λl=>fZ fV l λl=>onT l (λa=>.ret ((two (r1L tV) r1I).enc (a,0),[])) re0
theorem rd1:d6 prog G 69 rd0:=wb5 Qa2 Qa2 λl r h=>by
 rw[ic0 hc9] at h;obtain⟨x,hx,h⟩:=wb6 Fd3 h;left;have hg:Va9 l=true:=decide_eq_true (by
  have:ua6 l=0:=by
   unfold cb8 at hx
   split at hx
   ·assumption
   ·have:=congrArg Prod.snd hx
    exact this
  have:=(gb0 this).1
  omega)
 rw[hg];show some ((two (r1L tV) r1I).enc (Zb7 l),([]:List a8))=some r;rw[Fd1,hx];exact h
def rd2:Sum:=j6 (En []) he8
theorem qc2:d6 prog G 20 rd2:=bd b20 trivial
def re1:Sum:=j6 (En [(93,Fa4)]) je7
theorem Zd1:d6 prog G 61 re1:=bd b61 ⟨Lb0,trivial⟩
def re2:Sum:=j6 (En []) le6
theorem Zd2:d6 prog G 94 re2:=bd b94 trivial
def Od0:Sum:=j6 (En [(104,Rc7)]) Kd4
theorem Fd4:d6 prog G 103 Od0:=bd xe1 ⟨qd7,trivial⟩
def Od1:Sum:=j6 (En [(94,re2),(103,Od0)]) Ld2
theorem Fd5:d6 prog G 130 Od1:=bd ye2 ⟨Zd2,Fd4,trivial⟩
def Zd3:Sum:=j6 (En [(130,Od1)]) le7
theorem rd3:d6 prog G 95 Zd3:=bd b95 ⟨Fd5,trivial⟩
def Fd6:Sum:=j6 (En []) le8
theorem Kc8:d6 prog G 96 Fd6:=bd b96 trivial
def re3:Sum:=j6 (En [(95,Zd3),(96,Fd6)]) je8
theorem Zd4:d6 prog G 62 re3:=bd b62 ⟨rd3,Kc8,trivial⟩
def Zd5:Sum:=j6 (En []) me0
theorem rd4:d6 prog G 98 Zd5:=bd b98 trivial
def Zd6:Sum:=j6 (En [(98,Zd5)]) le9
theorem rd5:d6 prog G 97 Zd6:=bd b97 ⟨rd4,trivial⟩
def Zd7:Sum:=j6 (En [(98,Zd5)]) me1
theorem rd6:d6 prog G 99 Zd7:=bd b99 ⟨rd4,trivial⟩
def rd7:Sum:=j6 (En []) Kd1
theorem Rc8:d6 prog G 100 rd7:=bd we9 trivial
def Zd8:Sum:=j6 (En []) Ud7
theorem rd8:d6 prog G 91 Zd8:=bd b91 trivial
def Fd7:Sum:=j6 (En [(91,Zd8)]) ke4
theorem Kc9:d6 prog G 68 Fd7:=bd b68 ⟨rd8,trivial⟩
def bd0:Sum:=j6 (En []) ke6
theorem Xb8:d6 prog G 72 bd0:=bd b72 trivial
def re4:Sum:=j6 (En []) le5
theorem Zd9:d6 prog G 92 re4:=bd b92 trivial
def rd9:Sum:=j6 (En [(92,re4)]) Pc2
theorem Rc9:d6 prog G 122 rd9:=bd ne9 ⟨Zd9,trivial⟩
def re5:Sum:=j6 (En [(91,Zd8),(122,rd9)]) le4
theorem ae0:d6 prog G 90 re5:=bd b90 ⟨rd8,Rc9,trivial⟩
def Od2:Sum:=j6 (En []) Ld0
theorem Fd8:d6 prog G 115 Od2:=bd ne8 trivial
def ae1:Sum:=j6 (En [(68,Fd7),(72,bd0),(90,re5),(115,Od2)]) ke8
theorem sd0:d6 prog G 74 ae1:=bd b74 ⟨Kc9,Xb8,ae0,Fd8,trivial⟩
def Od3:Sum:=j6 (En [(74,ae1)]) Ld5
theorem Fd9:d6 prog G 136 Od3:=bd ye6 ⟨sd0,trivial⟩
def Od4:Sum:=j6 (En [(136,Od3)]) kd6
theorem Gd0:d6 prog G 156 Od4:=bd oe1 ⟨Fd9,trivial⟩
def Od5:Sum:=j6 (En [(156,Od4)]) Ld4
theorem Gd1:d6 prog G 135 Od5:=bd oe0 ⟨Gd0,trivial⟩
def Od6:Sum:=j6 (En [(68,Fd7),(70,qd8),(135,Od5)]) Kd6
theorem Gd2:d6 prog G 106 Od6:=bd xe4 ⟨Kc9,qd9,Gd1,trivial⟩
def Od7:Sum:=j6 (En [(106,Od6)]) Kd5
theorem Gd3:d6 prog G 105 Od7:=bd xe3 ⟨Gd2,trivial⟩
def Od8:Sum:=j6 (En [(97,Zd6),(99,Zd7),(100,rd7),(105,Od7)]) fc6
theorem Gd4:d6 prog G 131 Od8:=bd kd7 ⟨rd5,rd6,Rc8,Gd3,trivial⟩
def sd1:Sum:=j6 (En [(131,Od8)]) Kd2
theorem Sc0:d6 prog G 101 sd1:=bd Ad3 ⟨Gd4,trivial⟩
def Od9:Sum:=j6 (En [(97,Zd6),(99,Zd7),(100,rd7)]) Ld3
theorem Gd5:d6 prog G 132 Od9:=bd ye3 ⟨rd5,rd6,Rc8,trivial⟩
def Pd0:Sum:=j6 (En [(132,Od9)]) Kd3
theorem Gd6:d6 prog G 102 Pd0:=bd xe0 ⟨Gd5,trivial⟩
def re6:Sum:=j6 (En [(96,Fd6),(101,sd1),(102,Pd0)]) je9
theorem ae2:d6 prog G 63 re6:=bd b63 ⟨Kc8,Sc0,Gd6,trivial⟩
def re7:Sum:=j6 (En [(95,Zd3),(96,Fd6)]) ke0
theorem ae3:d6 prog G 64 re7:=bd b64 ⟨rd3,Kc8,trivial⟩
def re8:Sum:=j6 (En []) ke1
theorem ae4:d6 prog G 65 re8:=bd b65 trivial
def re9:Sum:=j6 (En [(101,sd1)]) ke2
theorem ae5:d6 prog G 66 re9:=bd b66 ⟨Sc0,trivial⟩
def se0:Sum:=j6 (En [(61,re1),(62,re3),(63,re6),(64,re7),(65,re8),(66,re9)]) ie1
theorem ae6:d6 prog G 33 se0:=bd b33 ⟨Zd1,Zd4,ae2,ae3,ae4,ae5,trivial⟩
def ae7:Sum:=j6 (En []) ke7
theorem sd2:d6 prog G 73 ae7:=bd b73 trivial
def se1:Sum:=j6 (En [(72,bd0),(73,ae7)]) ke5
theorem ae8:d6 prog G 71 se1:=bd b71 ⟨Xb8,sd2,trivial⟩
def sd3:Sum:=j6 (En []) ie8
theorem qc3:d6 prog G 40 sd3:=bd b40 trivial
def se2:Sum:=j6 (En [(40,sd3),(72,bd0),(73,ae7)]) le0
theorem ae9:d6 prog G 76 se2:=bd b76 ⟨qc3,Xb8,sd2,trivial⟩
def se3:Sum:=j6 (En [(71,se1),(76,se2)]) ke9
theorem be0:d6 prog G 75 se3:=bd b75 ⟨ae8,ae9,trivial⟩
def qc4:Sum:=ka9 (En [(69,rd0),(70,qd8),(74,ae1),(75,se3)]) ie3
theorem be1:d6 prog G 35 qc4:=bd b35 ⟨rd1,qd9,sd0,be0,trivial⟩
def se4:Sum:=ka9 (En [(20,rd2)]) le3
theorem be2:d6 prog G 79 se4:=bd b79 ⟨qc2,trivial⟩
def be3:Sum:=j6 (En [(69,rd0),(79,se4)]) je4
theorem be4:d6 prog G 46 be3:=bd b46 ⟨rd1,be2,trivial⟩
end Go.Ev.Ce
namespace Go.Ev.L
open Go Go.Ev
def se5:Value->ByteArray
 |.string s=>s
 |_=>⟨#[]⟩
def cb9(H H':List a8):Prop:=∀id g,(blkAt H id g).map (λb=>(b.es,b.elems))=(blkAt H' id g).map (λb=>(b.es,b.elems))
theorem cb9.refl(H:List a8):cb9 H H:=λ_ _=>rfl
theorem cb9.disown(H:List a8)(id:Nat):cb9 (disown H id) H:=λj g=>by
 rw[qb7];cases blkAt H j g with
 |none=>rfl
 |some b =>
  grind
theorem cb9.trans{H1 H2 H3:List a8}(h:cb9 H1 H2)(k:cb9 H2 H3):cb9 H1 H3:=λid g=>(h id g).trans (k id g)
theorem cb9.symm{H1 H2:List a8}(h:cb9 H1 H2):cb9 H2 H1:=λid g=>(h id g).symm
theorem Dis.app{H H1 H2:List a8}(h:Dis H H1)(k:Dis H1 H2):Dis H H2:=by
 induction k with
 |refl=>exact h
 |step id _ ih=>exact .step id ih
section
variable{α:Type}(t:Ty α)
def sd4(es:Nat):a7->Bool
 |.tree e _ _=>Nat.beq e es
 |.v (.slice none 0 0)=>true
 |_=>false
def De8(sh:List a7->Bool):Cod α where
 enc x:=.agg (t.row x)
 dec x:=match x with
  |.agg cs=>Bool.rec (motive:=λ_=>Option α) none (some (t.rd cs)) (sh cs)
  |_=>none
 grd x:=match x with
  |.agg cs=>t.ok cs
  |_=>false
 ok x a hx hg:=by
  split at hx
  ·rename_i cs;cases hb:sh cs with
   |false=>rw[hb] at hx;cases hx
   |true =>
    rw[hb] at hx;have hx:some (t.rd cs)=some a:=hx;injection hx with hx;subst hx;have h3:=t.h3 cs hg;intro ρ H F w v hv;obtain⟨vs,rfl,hl,hr⟩:=Z7 hv;refine .val (.agg _ _ (by rw[<- h3.length];exact hl) λi y v' hy hv'=>?_)
    obtain⟨x,hx,hle⟩:=h3.get i y hy;exact hle.c _ _ _ _ _ (hr i x v' hx hv')
  ·cases hx
end
end Go.Ev.L
namespace Go.Ev.Ce
open Go Go.Ev Go.Ev.L Go.Proofs
theorem hd1{x y:a7}(h:Za1 [x] [y]):CLe x y:=by cases h with | cons h _=>exact h
structure Tol where
 nm:ByteArray
 ou:List V3
 inn:List (List V3)
 ho:List V3
 li:List Int
 ru:Int
 fo:List V3
def Pd1:List a7->Bool
 |[.v (.string _),x1,x2,x3,x4,.v (.int .i64 _),x6]=>Bool.and ((tLs tV).ok [x1]) (Bool.and ((tLs (tLs tV)).ok [x2]) (Bool.and ((tLs tV).ok [x3]) (Bool.and ((tLs tI).ok [x4]) (Bool.and ((tLs tV).ok [x6]) (true)))))
 |_=>false
def tT:Ty Tol where
 es:=7
 row x:=[.v (.string x.nm),eL tV x.ou,eL (tLs tV) x.inn,eL tV x.ho,eL tI x.li,i x.ru,eL tV x.fo]
 rd r:=⟨se5 (toV (hdA r)),rL tV (hdA (tlA r)),rL (tLs tV) (hdA (tlA (tlA r))),rL tV (hdA (tlA (tlA (tlA r)))),rL tI (hdA (tlA (tlA (tlA (tlA r))))),toI (hdA (tlA (tlA (tlA (tlA (tlA r)))))),rL tV (hdA (tlA (tlA (tlA (tlA (tlA (tlA r)))))))⟩
 ok:=Pd1
 cks:=[.any,.sl 3,.sl 1,.sl 3,.sl 1,.int .i64,.sl 3]
 d:=⟨⟨#[]⟩,[],[],[],[],0,[]⟩
 h0 _:=rfl
 h1 x:=by
  show Tol.mk x.nm (rL tV (eL tV x.ou)) (rL (tLs tV) (eL (tLs tV) x.inn)) (rL tV (eL tV x.ho)) (rL tI (eL tI x.li)) x.ru (rL tV (eL tV x.fo))=x;rw[show rL tV (eL tV x.ou)=x.ou from v7 tV x.ou,show rL (tLs tV) (eL (tLs tV) x.inn)=x.inn from v7 (tLs tV) x.inn,show rL tV (eL tV x.ho)=x.ho from v7 tV x.ho,show rL tI (eL tI x.li)=x.li from v7 tI x.li,show rL tV (eL tV x.fo)=x.fo from v7 tV x.fo]
 h2 x:=by
  show Bool.and ((tLs tV).ok ((tLs tV).row x.ou)) (Bool.and ((tLs (tLs tV)).ok ((tLs (tLs tV)).row x.inn)) (Bool.and ((tLs tV).ok ((tLs tV).row x.ho)) (Bool.and ((tLs tI).ok ((tLs tI).row x.li)) (Bool.and ((tLs tV).ok ((tLs tV).row x.fo)) (true)))))=true;rw[(tLs tV).h2 x.ou,(tLs (tLs tV)).h2 x.inn,(tLs tV).h2 x.ho,(tLs tI).h2 x.li,(tLs tV).h2 x.fo];rfl
 h3 r h:=by
  unfold Pd1 at h
  split at h
  ·rename_i _ x1 x2 x3 x4 _ x6;simp only[Qbd] at h;obtain⟨h1,h2,h3,h4,h6,_⟩:=h;have c1:=(tLs tV).h3 _ h1;have c2:=(tLs (tLs tV)).h3 _ h2;have c3:=(tLs tV).h3 _ h3;have c4:=(tLs tI).h3 _ h4;have c6:=(tLs tV).h3 _ h6;exact .cons (.refl _) (.cons (hd1 c1) (.cons (hd1 c2) (.cons (hd1 c3) (.cons (hd1 c4) (.cons (.refl _) (.cons (hd1 c6) (.nil)))))))
  ·cases h
 h4 _:=rfl
 h5 _:=rfl
def se6:List a7->Bool
 |[.v (.string _),x1,x2,x3,x4,.v (.int .i64 _),x6]=>Bool.and (sd4 3 x1) (Bool.and (sd4 1 x2) (Bool.and (sd4 3 x3) (Bool.and (sd4 1 x4) (Bool.and (sd4 3 x6) (true)))))
 |_=>false
def cT:Cod Tol:=De8 tT se6
set_option maxRecDepth 1000000
def cuL:List V3:=[⟨0,0,0⟩,⟨2,0,0⟩,⟨0,2,0⟩,⟨2,2,0⟩,⟨0,0,2⟩,⟨2,0,2⟩,⟨0,2,2⟩,⟨2,2,2⟩]
def frc{ρ:Type}(R:RR ρ)(F:ρ->(ρ->DT (a7×List a8))->DT (a7×List a8))(o:ROq):DT (a7×List a8) :=
 Option.rec (motive:=λ_=>DT (a7×List a8)) .fail (λr=>Option.rec (motive:=λ_=>DT (a7×List a8)) .fail (λq=>F q λq=>.ret (R.enc q,[])) (R.rd r)) o
theorem Gd7{ρ:Type}{R:RR ρ}{F:ρ->(ρ->DT (a7×List a8))->DT (a7×List a8)}(hF:∀x f,F x f=f x){o:ROq}{r:a7×List a8}(h:(frc R F o).run=some r):(rdO R o).run=some r:=by
 cases o with
 |none=>cases h
 |some a =>
  unfold frc at h;unfold rdO okO N4;cases hr:R.rd a with
  |none=>simp only[hr] at h;cases h
  |some q=>simp only[hr,hF] at h ⊢;exact h
def Gd8(q:List V3×Int)(f:List V3×Int->DT (a7×List a8)):DT (a7×List a8):=fZ fV q.1 λa=>fI q.2 λb=>f (a,b)
theorem Gd9(q:List V3×Int)(f:List V3×Int->DT (a7×List a8)):Gd8 q f=f q:=by unfold Gd8;rw[ic0 hc9,Nd9]
def Lc0(p:List V3):ROq:=(frc (two (r1L tV) r1I) Gd8 (be3 [(ga2 tV).enc cuL,(ga2 tV).enc p] []).run).run
end Go.Ev.Ce
