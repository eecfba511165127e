/- Own work. -/
import Derived.Test.YtigadclidanicaaGreatEvDz
import Derived.ChangeStays
import Derived.ChangeSame
import Derived.OpenShut
import Derived.RowKit
set_option linter.all false
noncomputable section
def Qja:=@List.mem_cons
def Qjb:=@Int.le_of_lt
def Qjc:=@List.mem_cons_self
def Qjd:=@List.pairwise_cons
def Qje:=@List.mem_cons_of_mem
def Qjf:=@Int.mul_nonneg
def Qjg:=@List.mem_append
def Qjh:=@Eq.trans
def Qji:=@Option.bind_eq_some_iff
def Qjj:=@Int.natCast_dvd_natCast
def Qjk:=@Int.mul_le_mul_of_nonneg_right
def Qjl:=@Nat.gcd_dvd_right
def Qjm:=@Int.mul_pos
def Qjn:=@Bool.and_eq_true
def Qjo:=@Nat.gcd_dvd_left
def Qjp:=@List.eq_nil_of_length_eq_zero
def Qjq:=@Int.dvd_natAbs
def Qjr:=@List.mem_range
def Qjs:=@Nat.dvd_trans
def Qjt:=@List.getElem?_eq_getElem
def Qju:=@List.all_eq_true
def Qjv:=@List.any_eq_true
def Qjw:=@List.pairwise_singleton
def Qjx:=@Int.mul_eq_zero
def Qjy:=@Option.map_eq_some_iff
def Qjz:=@List.getElem?_range
namespace Go.Ev.Ce
open Go Go.Ev Go.Ev.L Go.Proofs
set_option maxRecDepth 100000
def Pb5:List (Nat×Sum):=[]
theorem Lc2:j9 prog G Pb5:=trivial
@[reducible] noncomputable def Wb8:Sum:=dc3 (En Pb5) Wf1
theorem Tc6:j6 prog G 153 Wb8:=bd zg5 Lc2
def Pb6:List (Nat×Sum):=[]
theorem Lc3:j9 prog G Pb6:=trivial
@[reducible] noncomputable def Wb9:Sum:=dc3 (En Pb6) Wf0
theorem Tc7:j6 prog G 152 Wb9:=bd zg4 Lc3
def fc9:List (Nat×Sum):=[(152,Wb9),(153,Wb8)]
theorem dd4:j9 prog G fc9:=⟨Tc7,Tc6,trivial⟩
@[reducible] noncomputable def sc3:Sum:=dc3 (En fc9) Vf7
theorem nd2:j6 prog G 131 sc3:=bd yg3 dd4
structure L6 where
def pa6:List (Nat×Sum):=[]
theorem Wa8:j9 prog G pa6:=trivial
structure D5 where
structure r9 where
def na0(p:D5)(s:r9):St:=⟨.v (.slice none 0 0)::i 0::i 0::.fn 110 []::ra 4 (i 1::ra 44 []),[]⟩
def S1{α:Type}(k:r9->α)(e:Nat->α)(z:α)(p:D5)(s:r9):α:=(e 1)
def U0(p:D5)(s:r9):Stp r9:=S1 .next .exit .fail p s
def U7:Lo D5 r9:=⟨En pa6,0,Vf9,[1,4,4],[0,1,2,3,8],.p,[⟨.s (.o .nil)::.s (.o (.lit .i64 0))::.s (.o (.lit .i64 0))::.s (.o (.fn 110))::ru2 4 (.s (.o (.lit .i64 1))::ru2 44 []),[],λa H=>(⟨⟩,⟨⟩)⟩],U0,[(some 0,λp s=>upq (na0 p s) [(12,i 1),(13,i 0),(14,b false)])],na0⟩
theorem Ta9:U7.Ok:=Lo.ok [] (by kernel_rfl) .nil rfl (.cons (λa H=>by kernel_rfl) .nil) λp s=>(.of @S1 (λF _ _ _ _ _=>by unfold S1;(repeat' apply k8 (f:=F))<;>rfl) (by kernel_rfl))
structure L7 where
 alt:Nat
def B4{α:Type}(kk:L7->α)(x:L6):α:=let t1:=(lp (U0 (⟨⟩:D5)) (⟨⟩:r9));(sl (Nat.beq t1.1 1) (kk ⟨1⟩) (kk ⟨0⟩))
def L8(x:L6):L7:=B4 (λr=>r) x
def W4(x:L6)(r:L7):DT (d7×List d8):=(.ite (Nat.beq r.alt 1) (.ret (.tup [],[])) .fail)
theorem cb9{α β:Type}(F:α->β)(kk:L7->α)(x:L6):F (B4 kk x)=B4 (λr=>F (kk r)) x:=by unfold B4;(repeat' apply k8 (f:=F))<;>rfl
def sa1:Sum:=Sa0 ⟨[.s (.o .nil),.s (.o (.lit .i64 0)),.s (.o (.lit .i64 0)),.s (.o (.fn 110))],[],λa H=>(⟨⟩,())⟩ (λx=>W4 x (L8 x))
theorem ab5:j6 prog G 144 sa1:=I1 (enc:=λx=>⟨[.v (.slice none 0 0),i 0,i 0,.fn 110 []],[]⟩) (λa H=>by kernel_rfl) (bd zg3 Wa8) λx=>Ga2 (.s .p (.b (.u U7.ls))) [U7.pr] (by kernel_rfl) (.cons Ta9 .nil) (Qjh (b:=B4 (λr=>(W4 x r).run) x) (by kernel_rfl) (cb9 (λr=>(W4 x r).run) (λr=>r) x).symm)
structure W5 where
def Ea8:List (Nat×Sum):=[(144,sa1)]
theorem pb8:j9 prog G Ea8:=⟨ab5,trivial⟩
structure K3 where
structure B1 where
def lb5(p:K3)(s:B1):St:=⟨.v (.slice none 0 0)::i 0::i 0::i 0::.fn 110 []::ra 5 (b true::b true::ra 136 []),[]⟩
def P5{α:Type}(k:B1->α)(e:Nat->α)(z:α)(p:K3)(s:B1):α:=let t1:=(L8 ⟨⟩);(sl (Nat.beq t1.alt 1) (e 1) z)
def Q8(p:K3)(s:B1):Stp B1:=P5 .next .exit .fail p s
def fa9:Lo K3 B1:=⟨En Ea8,0,Vf6,[1,1,4,4],[0,1,2,3,4,10,11],.p,[⟨.s (.o .nil)::.s (.o (.lit .i64 0))::.s (.o (.lit .i64 0))::.s (.o (.lit .i64 0))::.s (.o (.fn 110))::ru2 5 (.s (.o (.blit true))::.s (.o (.blit true))::ru2 136 []),[],λa H=>(⟨⟩,⟨⟩)⟩],Q8,[(none,λp s=>⟨[.tup []],[]⟩)],lb5⟩
theorem lb6:fa9.Ok:=Lo.ok [] (by kernel_rfl) .nil rfl (.cons (λa H=>by kernel_rfl) .nil) λp s=>(.of @P5 (λF _ _ _ _ _=>by unfold P5;(repeat' apply k8 (f:=F))<;>rfl) (by kernel_rfl))
structure W6 where
 alt:Nat
def F9{α:Type}(kk:W6->α)(x:W5):α:=let t1:=(lp (Q8 (⟨⟩:K3)) (⟨⟩:B1));(sl (Nat.beq t1.1 1) (kk ⟨1⟩) (kk ⟨0⟩))
def W7(x:W5):W6:=F9 (λr=>r) x
def ja4(x:W5)(r:W6):DT (d7×List d8):=(.ite (Nat.beq r.alt 1) (.ret (.tup [],[])) .fail)
theorem wb3{α β:Type}(F:α->β)(kk:W6->α)(x:W5):F (F9 kk x)=F9 (λr=>F (kk r)) x:=by unfold F9;(repeat' apply k8 (f:=F))<;>rfl
def Ha7:Sum:=Sa0 ⟨[.s (.o .nil),.s (.o (.lit .i64 0)),.s (.o (.lit .i64 0)),.s (.o (.lit .i64 0)),.s (.o (.fn 110))],[],λa H=>(⟨⟩,())⟩ (λx=>ja4 x (W7 x))
theorem sb6:j6 prog G 130 Ha7:=I1 (enc:=λx=>⟨[.v (.slice none 0 0),i 0,i 0,i 0,.fn 110 []],[]⟩) (λa H=>by kernel_rfl) (bd yg2 pb8) λx=>Ga2 (.s .p (.s .p (.b (.u fa9.ls)))) [fa9.pr] (by kernel_rfl) (.cons lb6 .nil) (Qjh (b:=F9 (λr=>(ja4 x r).run) x) (by kernel_rfl) (wb3 (λr=>(ja4 x r).run) (λr=>r) x).symm)
structure na7 where
def Tb3:List (Nat×Sum):=[(130,Ha7),(131,sc3)]
theorem Pb7:j9 prog G Tb3:=⟨sb6,nd2,trivial⟩
structure na8 where
 alt:Nat
def R5{α:Type}(kk:na8->α)(x:na7):α:=let t1:=(W7 ⟨⟩);(sl (Nat.beq t1.alt 1) (kk ⟨1⟩) (kk ⟨0⟩))
def na9(x:na7):na8:=R5 (λr=>r) x
def za3(x:na7)(r:na8):DT (d7×List d8):=(.ite (Nat.beq r.alt 1) (.ret (.tup [],[])) .fail)
theorem ac9{α β:Type}(F:α->β)(kk:na8->α)(x:na7):F (R5 kk x)=R5 (λr=>F (kk r)) x:=by unfold R5;(repeat' apply k8 (f:=F))<;>rfl
def fb1:Sum:=Sa0 ⟨[.s (.o .nil),.s (.o (.fn 110))],[],λa H=>(⟨⟩,())⟩ (λx=>za3 x (na9 x))
theorem Tb4:j6 prog G 109 fb1:=I1 (enc:=λx=>⟨[.v (.slice none 0 0),.fn 110 []],[]⟩) (λa H=>by kernel_rfl) (bd wg6 Pb7) λx=>B6 (Qjh (b:=R5 (λr=>(za3 x r).run) x) (by kernel_rfl) (ac9 (λr=>(za3 x r).run) (λr=>r) x).symm)
structure la3 where
 k9:List Pt
def Wa9:List (Nat×Sum):=[]
theorem Jb7:j9 prog G Wa9:=trivial
structure T2 where
 k9:List Pt
structure E9 where
def Pa1(p:T2)(s:E9):St:=⟨.v (.slice none 0 0)::.fn 108 [.ptr 0 0 0 0]::ra 5 (i 0::i 0::ra 10 []),[⟨0,1,[[eL tX p.k9]],true,false,0⟩]⟩
def pa1{α:Type}(k:E9->α)(e:Nat->α)(z:α)(p:T2)(s:E9):α:=(e 1)
def ra1(p:T2)(s:E9):Stp E9:=pa1 .next .exit .fail p s
def ua8:Lo T2 E9:=⟨En Wa9,1,Ae2,[1,0,1,4,4],[0,1,7,8],.p,[⟨.s (.o .nil)::.fn 108 [.o (.ptr 0 0 0 0)]::ru2 5 (.s (.o (.lit .i64 0))::.s (.o (.lit .i64 0))::ru2 10 []),[⟨0,1,true,some [[.c 4 (nL tX)]]⟩],λa H=>(⟨hLq tX H 0 0 0⟩,⟨⟩)⟩],ra1,[(some 0,λp s=>upq (Pa1 p s) [(9,b false)])],Pa1⟩
theorem Fb8:ua8.Ok:=Lo.ok [] (by kernel_rfl) .nil rfl (.cons (λa H=>by kernel_rfl) .nil) λp s=>(.of @pa1 (λF _ _ _ _ _=>by unfold pa1;(repeat' apply k8 (f:=F))<;>rfl) (by kernel_rfl))
structure la4 where
 alt:Nat
 k9:List Pt
def P1{α:Type}(kk:la4->α)(x:la3):α:=let t1:=(lp (ra1 (⟨rt tX x.k9⟩:T2)) (⟨⟩:E9));(sl ((cnE tX x.k9)&&true) (sl (Nat.beq t1.1 1) (kk ⟨1,rt tX x.k9⟩) (kk ⟨0,[]⟩)) (kk ⟨0,[]⟩))
def za4(x:la3):la4:=P1 (λr=>r) x
def xa2(x:la3)(r:la4):DT (d7×List d8):=(.ite (Nat.beq r.alt 1) (.ret (i (-1),[⟨0,1,[[eL tX r.k9]],true,false,0⟩])) .fail)
theorem Tb5{α β:Type}(F:α->β)(kk:la4->α)(x:la3):F (P1 kk x)=P1 (λr=>F (kk r)) x:=by unfold P1;(repeat' apply k8 (f:=F))<;>rfl
def cb5:Sum:=Sa0 ⟨[.s (.o .nil),.fn 108 [.o (.ptr 0 0 0 0)]],[⟨0,1,true,some [[.c 4 (nL tX)]]⟩],λa H=>(⟨hLq tX H 0 0 0⟩,())⟩ (λx=>xa2 x (za4 x))
theorem Pb8:j6 prog G 118 cb5:=I1 (enc:=λx=>⟨[.v (.slice none 0 0),.fn 108 [.ptr 0 0 0 0]],[⟨0,1,[[eL tX x.k9]],true,false,0⟩]⟩) (λa H=>by kernel_rfl) (bd Mf7 Jb7) λx=>Ga2 (.s .p (.s (.s .p (.b (.u ua8.ls))) .p)) [ua8.pr] (by kernel_rfl) (.cons Fb8 .nil) (Qjh (b:=P1 (λr=>(xa2 x r).run) x) (by kernel_rfl) (Tb5 (λr=>(xa2 x r).run) (λr=>r) x).symm)
structure ga0 where
 k9:List Pt
def Jb8:List (Nat×Sum):=[(118,cb5)]
theorem Fb9:j9 prog G Jb8:=⟨Pb8,trivial⟩
structure ga1 where
 alt:Nat
 k9:List Pt
def M3{α:Type}(kk:ga1->α)(x:ga0):α:=let t1:=(za4 ⟨rt tX x.k9⟩);(sl ((cnE tX x.k9)&&true) (sl (Nat.beq t1.alt 1) (kk ⟨1,t1.k9⟩) (kk ⟨0,[]⟩)) (kk ⟨0,[]⟩))
def ga2(x:ga0):ga1:=M3 (λr=>r) x
def ua9(x:ga0)(r:ga1):DT (d7×List d8):=(.ite (Nat.beq r.alt 1) (.ret (.v (.slice none 0 0),[⟨0,1,[[eL tX r.k9]],true,false,0⟩])) .fail)
theorem Pb9{α β:Type}(F:α->β)(kk:ga1->α)(x:ga0):F (M3 kk x)=M3 (λr=>F (kk r)) x:=by unfold M3;(repeat' apply k8 (f:=F))<;>rfl
def Xa0:Sum:=Sa0 ⟨[.s (.o .nil),.fn 108 [.o (.ptr 0 0 0 0)]],[⟨0,1,true,some [[.c 4 (nL tX)]]⟩],λa H=>(⟨hLq tX H 0 0 0⟩,())⟩ (λx=>ua9 x (ga2 x))
theorem Jb9:j6 prog G 107 Xa0:=I1 (enc:=λx=>⟨[.v (.slice none 0 0),.fn 108 [.ptr 0 0 0 0]],[⟨0,1,[[eL tX x.k9]],true,false,0⟩]⟩) (λa H=>by kernel_rfl) (bd ng6 Fb9) λx=>Ga2 .p [] (by kernel_rfl) .nil (Qjh (b:=M3 (λr=>(ua9 x r).run) x) (by kernel_rfl) (Pb9 (λr=>(ua9 x r).run) (λr=>r) x).symm)
structure pa7 where
def bc0:List (Nat×Sum):=[]
theorem Tb6:j9 prog G bc0:=trivial
structure pa8 where
def ca9{α:Type}(kk:pa8->α)(x:pa7):α:=(kk ⟨⟩)
def gc0(x:pa7):pa8:=ca9 (λr=>r) x
def Ea2(x:pa7)(r:pa8):DT (d7×List d8):=.ret (.v (.slice none 0 0),[])
theorem gc1{α β:Type}(F:α->β)(kk:pa8->α)(x:pa7):F (ca9 kk x)=ca9 (λr=>F (kk r)) x:=by unfold ca9;(repeat' apply k8 (f:=F))<;>rfl
def kb5:Sum:=Sa0 ⟨[.s (.o .nil)],[],λa H=>(⟨⟩,())⟩ (λx=>Ea2 x (gc0 x))
theorem bc1:j6 prog G 111 kb5:=I1 (enc:=λx=>⟨[.v (.slice none 0 0)],[]⟩) (λa H=>by kernel_rfl) (bd ng7 Tb6) λx=>Ga2 .p [] (by kernel_rfl) .nil (Qjh (b:=ca9 (λr=>(Ea2 x r).run) x) (by kernel_rfl) (gc1 (λr=>(Ea2 x r).run) (λr=>r) x).symm)
def nc4:List (Nat×Sum):=[]
theorem gc2:j9 prog G nc4:=trivial
structure ya3 where
def la9{α:Type}(kk:ya3->α)(x:Unit):α:=(kk ⟨⟩)
def uc5(x:Unit):ya3:=la9 (λr=>r) x
def La7(r:ya3):DT (d7×List d8):=.ret (.v (.slice none 0 0),[])
theorem uc6{α β:Type}(F:α->β)(kk:ya3->α)(x:Unit):F (la9 kk x)=la9 (λr=>F (kk r)) x:=by unfold la9;(repeat' apply k8 (f:=F))<;>rfl
def tb0:Sum:=ca1 eg5 (λx=>La7 (uc5 x))
theorem nc5:j6 prog G 75 tb0:=gb2 (bd b75 gc2) λx=>B6 (Qjh (b:=la9 (λr=>(La7 r).run) x) (by kernel_rfl) (uc6 (λr=>(La7 r).run) (λr=>r) x).symm)
def Vd7:List (Nat×Sum):=[(39,Wa2),(106,yb4),(75,tb0),(107,Xa0),(109,fb1),(111,kb5)]
theorem Md4:j9 prog G Vd7:=⟨ab3,Ob9,nc5,Jb9,Tb4,bc1,trivial⟩
def pb9(x:Unit):ROq:=let t1:=(Ba4 []);let t2:=(Ra0 []);let t4:=(ga2 ⟨rt tX t2⟩);let t5:=(na9 ⟨⟩);(sl (Ba5 []) (sl (!t1) (some (.v (.slice none 0 0),[])) (sl (Ra1 []) (sl ((cnE tX t2)&&true) (sl (Nat.beq t4.alt 1) (sl (Nat.beq t5.alt 1) (some (.v (.slice none 0 0),[])) none) none) none) none)) none)
def nc6(x:Unit):PLq:=V2 (one (r1L tP)) (pb9 x)
def nc7(x:Unit):Bool:=okO (one (r1L tP)) (pb9 x)
def qe1:Sum:=ca1 eg5 (λx=>.guard (nc7 x) (.ret ((one (r1L tP)).enc (nc6 x),[])))
theorem Vd8:j6 prog G 87 qe1:=ab0 (bd b87 Md4) (one (r1L tP)) (o:=pb9) λx=>B6 (by kernel_rfl)
def nc8:List (Nat×Sum):=[]
theorem gc3:j9 prog G nc8:=trivial
structure ya4 where
def ma0{α:Type}(kk:ya4->α)(x:Addr×Nat):α:=(kk ⟨⟩)
def uc7(x:Addr×Nat):ya4:=ma0 (λr=>r) x
def La8(r:ya4):DT (d7×List d8):=.ret (.sl 0 0 0 0,[⟨66,4,[],true,false,0⟩])
theorem uc8{α β:Type}(F:α->β)(kk:ya4->α)(x:Addr×Nat):F (ma0 kk x)=ma0 (λr=>F (kk r)) x:=by unfold ma0;(repeat' apply k8 (f:=F))<;>rfl
def tb1:Sum:=ca1 cE0 (λx=>La8 (uc7 x))
theorem nc9:j6 prog G 75 tb1:=gb2 (bd b75 gc3) λx=>B6 (Qjh (b:=ma0 (λr=>(La8 r).run) x) (by kernel_rfl) (uc8 (λr=>(La8 r).run) (λr=>r) x).symm)
def Vd9:List (Nat×Sum):=[(39,Wa2),(106,yb4),(75,tb1),(107,za2),(109,Ha6),(111,La2)]
theorem Md5:j9 prog G Vd9:=⟨ab3,Ob9,nc9,Wa5,eb8,kb2,trivial⟩
def qb0(x:Addr×Nat):ROq:=let t1:=(Ba4 []);let t2:=(Ra0 []);let t4:=(P0 ⟨0,[],rt tX t2⟩);let t5:=(fa8 ⟨t4.ns0,app (bL tP (kb3 (slR tP t4.eh0 0 t4.ns0))) (l4 t4.eh0 t4.ns0)⟩);(sl (Ba5 []) (sl (!t1) (some (.v (.slice none 0 0),[])) (sl (Ra1 []) (sl ((cnE tX t2)&&true) (sl (Nat.beq t4.alt 1) (sl (Bool.and (Nat.ble t4.ns0 room) (Bool.and (Nat.ble t4.ns0 (len t4.eh0)) (okS tP t4.eh0 0 t4.ns0))) (sl (Nat.beq t5.alt 1) (some (.sl 0 0 t5.ns0 0,[⟨66,4,t5.eh0,true,false,0⟩])) none) none) none) none) none)) none)
def dd5(x:Addr×Nat):PLq:=V2 (one (r1L tP)) (qb0 x)
def dd6(x:Addr×Nat):Bool:=okO (one (r1L tP)) (qb0 x)
def qe2:Sum:=ca1 cE0 (λx=>.guard (dd6 x) (.ret ((one (r1L tP)).enc (dd5 x),[])))
theorem Wd0:j6 prog G 87 qe2:=ab0 (bd b87 Md5) (one (r1L tP)) (o:=qb0) λx=>B6 (by kernel_rfl)
theorem qe3{σ:Type}{step:σ->Stp σ}{s:σ}{t:Nat}(h:step s=.exit t):lp step s=(t,s):=by rw[rf9];exact Fd7 h
theorem ee0:kb3 []=[]:=Qjp (Ic7 [])
theorem Fe1:lean []=[]:=by
 unfold lean;rw[Se2,if_pos rfl,List.filter_nil,ee0];rfl
theorem Ag1(X:List Pt):ga2 ⟨X⟩=⟨1,X⟩:=by
 unfold ga2 M3 za4 P1;simp only[j8,l8];rw[qe3 (step:=ra1 ⟨X⟩) (s:=⟨⟩) (t:=1) rfl];rfl
theorem pg0:na9 ⟨⟩=⟨1⟩:=by
 have h1:L8 ⟨⟩=⟨1⟩:=by
  unfold L8 B4
  simp only
  rw[qe3 (step:=U0 ⟨⟩) (s:=⟨⟩) (t:=1) rfl];rfl
 have h2:W7 ⟨⟩=⟨1⟩:=by
  unfold W7 F9
  simp only
  rw[qe3 (step:=Q8 ⟨⟩) (s:=⟨⟩) (t:=1) (by
   unfold Q8 P5;simp only[h1]
   rfl)]
  rfl
 unfold na9 R5;simp only[h2];rfl
theorem Fe2(x:Unit):pb9 x=some (.v (.slice none 0 0),[]):=by
 have hn:([]:PLq).length<=1000000000:=by simp
 unfold pb9;simp only[j8,l8,md9 hn,nd0 hn,Ld8 hn,Ld9 hn,Se2,Ag1,pg0];rfl
theorem Fe3(x:Addr×Nat):Rd (one (r1L tP)) (qb0 x) (λr=>r=[]):=by
 have hn:([]:PLq).length<=1000000000:=by simp
 have hX:=Ze7 [];obtain⟨m,r,e1,e2,e3,e4⟩:=de9 [] (pts []) hn (by omega)
 have hr:r=[]:=Qjp (by simpa using e4)
 subst hr;have hm:m=0:=by simpa using e2
 subst hm;obtain⟨m2,r2,k1,k2,k3⟩:=Md2 [] 0 (by simp) hn
 have e1:P0 ⟨0,[],pts []⟩=_:=e1;unfold qb0;simp only[j8,l8,md9 hn,nd0 hn,Ld8 hn,Ld9 hn,Se2,e1];have hs:app (bL tP (kb3 (slR tP (bL tP []) 0 0))) (l4 (bL tP []) 0)=bL tP []:=by
  rw[show slR tP (bL tP []) 0 0=[] from rfl,ee0];rfl
 rw[hs,k1];have hfin:r2.take m2=[]:=by rw[k3];rfl
 exact Se0 (P:=λr=>r=[]) k2 rfl hfin
def W8(l:PLq):PLq:=lean l
def W9(l:PLq):Bool:=decide (l.length<=1000000)
def oc0:Sum:=ca1 (na2 tP) λl=>.guard (W9 l) (.ret ((one (r1L tP)).enc (W8 l),[]))
theorem Pc0:j6 prog G 87 oc0:=by
 refine eg6 (qe0 oe0 λa r hr=>?_) (qe0 Vd8 λa r hr=>?_) (qe0 Wd0 λa r hr=>?_)
 ·obtain⟨p,c⟩:=a;obtain⟨hg,hr⟩:=DT.run_guard_some hr;have hl:c.length<=1000000:=by
   have:=of_decide_eq_true hg
   simp only[List.length_cons] at this;omega
  rw[eg3 p c hl,eg4 p c hl];exact hr
 ·obtain⟨hg,hr⟩:=DT.run_guard_some hr;have e:nc6 a=lean []:=by unfold nc6;rw[Fe2,Fe1];exact kb4 _ rfl
  have e2:nc7 a=true:=by unfold nc7;rw[Fe2];exact Bb8 (r:=[]) _ rfl
  rw[e,e2];exact hr
 ·obtain⟨hg,hr⟩:=DT.run_guard_some hr;have e:dd5 a=lean []:=by rw[Fe1];exact (Fe3 a).p
  rw[e,show dd6 a=true from (Fe3 a).g]
  exact hr
def Cc2:List (Nat×Sum):=[(73,ob7)]
theorem yd0:j9 prog G Cc2:=⟨yb3,trivial⟩
structure Pa2 where
 Gc0:LPq
 L9:Int
structure ba2 where
 A3:Int
def gc4(p:Pa2)(s:ba2):St:=⟨ra 9 (eL tLq p.Gc0::i p.L9::i s.A3::ra 9 []),[]⟩
def Ba9{α:Type}(k:ba2->α)(e:Nat->α)(z:α)(p:Pa2)(s:ba2):α:=let y0:=(gL tLq p.Gc0 s.A3.toNat);let t1:=(fa5 (rt tP y0));(sl (decide (s.A3<p.L9)) (sl (inB s.A3 (List.length p.Gc0)) (sl (okE tP y0) (sl (Ka6 (rt tP y0)) (sl (t1 != 0) (e 1) (k ⟨W (s.A3+1)⟩)) z) z) z) (e 2))
def Ha8(p:Pa2)(s:ba2):Stp ba2:=Ba9 .next .exit .fail p s
def Gb0:Lo Pa2 ba2:=⟨En Cc2,0,lg5,[1,1,0,1,4,4],[9,10,11],.p,[⟨ru2 9 (sLq tLq::sIq::sIq::ru2 9 []),[],λa H=>(⟨aLq tLq a 9,aIq a 10⟩,⟨aIq a 11⟩)⟩],Ha8,[(none,λp s=>let t1:=(fa5 (rt tP (gL tLq p.Gc0 s.A3.toNat)));⟨[i t1],[]⟩),(some 0,λp s=>upq (gc4 p s) [(12,b (decide (s.A3<p.L9)))])],gc4⟩
theorem nd3:Gb0.Ok:=Lo.ok [] (by kernel_rfl) .nil rfl (.cons (λa H=>by kernel_rfl) .nil) λp s=>(.of @Ba9 (λF _ _ _ _ _=>by unfold Ba9;(repeat' apply k8 (f:=F))<;>rfl) (by kernel_rfl))
def fb2(x:LPq):ROq:=let t1:=(lp (Ha8 (⟨rt tLq x,(↑(List.length x):Int)⟩:Pa2)) (⟨0⟩:ba2));let t2:=(fa5 (rt tP (gL tLq (rt tLq x) t1.2.A3.toNat)));(sl (decide ((↑(List.length x):Int)>16)) (some (i 2,[])) (sl ((cnE tLq x)&&true) (sl (Nat.beq t1.1 1) (some (i t2,[])) (sl (Nat.beq t1.1 2) (some (i 0,[])) none)) none))
def yb8(x:LPq):Int:=V2 (one r1I) (fb2 x)
def yb9(x:LPq):Bool:=okO (one r1I) (fb2 x)
def Pc1:Sum:=ca1 (na2 tLq) (λx=>.guard (yb9 x) (.ret ((one r1I).enc (yb8 x),[])))
theorem Md6:j6 prog G 86 Pc1:=ab0 (bd b86 yd0) (one r1I) (o:=fb2) λx=>Ga2 (.s .p (.s .p (.s (.s .p (.b (.u Gb0.ls))) .p))) [Gb0.pr] (by kernel_rfl) (.cons nd3 .nil) (by kernel_rfl)
def Cc3:List (Nat×Sum):=[]
theorem yd1:j9 prog G Cc3:=trivial
@[reducible] noncomputable def Pc2:Sum:=dc3 (En Cc3) Uf9
theorem Md7:j6 prog G 112 Pc2:=bd wg8 yd1
def wb4:List (Nat×Sum):=[(39,Wa2),(87,oc0),(28,Jb5),(134,cd5),(79,Sa3),(112,Pc2)]
theorem dd7:j9 prog G wb4:=⟨ab3,Pc0,ac7,Vd4,pb0,Md7,trivial⟩
structure D9 where
 H4:PLq
 L9:Int
 (se8 se9:PLq)
 Cd7:LPq
 (Tf0 Tf1:Int)
structure l9 where
 ph:Nat
 lb4:PLq
 A3:Int
 I4:Nat
 eh3:List (List d7)
def Hb1(p:D9)(s:l9):St:=⟨ra 4 (eL tP s.lb4::ra 4 (eL tP p.H4::i p.L9::i s.A3::ra 31 (i 0::.unk::eL tP p.se8::.unk::.unk::.ptr 0 0 0 0::.ptr 1 0 0 0::eL tP p.se9::.ptr 2 0 0 0::ra 9 (eL tLq p.Cd7::i p.Tf0::i p.Tf1::ra 25 [])))),[⟨0,1,[[.v (.slice none 0 0)]],true,false,0⟩,⟨0,1,[[i 0]],true,false,0⟩,⟨0,0,[[.v (.slice none 0 0)]],true,false,0⟩]⟩
def Hb2(p:D9)(s:l9):St:=⟨ra 4 (eL tP s.lb4::ra 4 (eL tP p.H4::i p.L9::i s.A3::ra 31 (i 0::.unk::eL tP p.se8::.unk::.unk::.ptr 0 0 0 0::.ptr 1 0 0 0::eL tP p.se9::.ptr 2 0 0 0::ra 9 (eL tLq p.Cd7::i p.Tf0::i p.Tf1::ra 25 [])))),[⟨0,1,[[.v (.slice none 0 0)]],true,false,0⟩,⟨0,1,[[i 0]],true,false,0⟩,⟨0,0,[[.sl 3 0 s.I4 0]],true,false,0⟩,⟨35,1,s.eh3,true,false,0⟩]⟩
def Tc8(p:D9)(s:l9):St:=(sel (Nat.beq s.ph 1) (Hb2 p s) (Hb1 p s))
def E7{α:Type}(k:l9->α)(e:Nat->α)(z:α)(p:D9)(s:l9):α:=let y5:=(W9 []);let y2:=(W (s.A3+1));let y1:=((okE tP s.lb4)&&true);let t1:=(pb6 (gL tP p.H4 s.A3.toNat));let t2:=(C5 [rt tP s.lb4,[t1]]);let t3:=(W8 []);let y3:=(↑(List.length t3):Int);let t4:=(C5 [rt tP s.lb4,[gL tP p.H4 s.A3.toNat]]);let y8:=(Nat.beq t4.alt 2);let y7:=(Nat.beq t4.alt 1);let y6:=(okS tP t4.eh0 0 t4.ns0);let y0:=(W9 (slR tP t4.eh0 0 t4.ns0));let t5:=(W8 (slR tP t4.eh0 0 t4.ns0));let t6:=(W8 (slR tP t2.eh0 0 t2.ns0));let y4:=(↑(List.length t6):Int);let w0:α:=(sl y1 (sl y7 (sl y5 (k ⟨0,t3,y2,0,[]⟩) z) (sl y8 (sl y6 (sl y0 (k ⟨0,t5,y2,0,[]⟩) z) z) z)) z);(sl (decide (s.A3<p.L9)) (sl (inB s.A3 (List.length p.H4)) (sl (decide ((↑(List.length s.lb4):Int)>=48)) (e 1) (sl y1 (sl (Nat.beq t2.alt 1) (sl y5 (sl (decide (y3>0)) (sl (decide (y3>0)) (sl ((!(Nat.beq (List.length t3) 0))&&true) (sl y1 (sl y7 (sl y5 (k ⟨1,t3,y2,1,[[eL tP t3]]⟩) z) (sl y8 (sl y6 (sl y0 (k ⟨1,t5,y2,1,[[eL tP t3]]⟩) z) z) z)) z) z) w0) (sl (decide (y3>0)) z w0)) z) (sl (Nat.beq t2.alt 2) (sl (okS tP t2.eh0 0 t2.ns0) (sl (W9 (slR tP t2.eh0 0 t2.ns0)) (sl (decide (y4>0)) (sl (decide (y4>0)) (sl ((!(Nat.beq (List.length t6) 0))&&true) (sl y1 (sl y7 (sl y5 (k ⟨1,t3,y2,1,[[eL tP t6]]⟩) z) (sl y8 (sl y6 (sl y0 (k ⟨1,t5,y2,1,[[eL tP t6]]⟩) z) z) z)) z) z) w0) (sl (decide (y4>0)) z w0)) z) z) z)) z)) z) (e 2))
def E8{α:Type}(k:l9->α)(e:Nat->α)(z:α)(p:D9)(s:l9):α:=let y6:=(W9 []);let y3:=(W (s.A3+1));let y2:=(Nat.beq s.I4 (len s.eh3)&&Nat.ble ((s.I4+1)*24) room);let y1:=((okE tP s.lb4)&&true);let t1:=(pb6 (gL tP p.H4 s.A3.toNat));let t2:=(C5 [rt tP s.lb4,[t1]]);let t3:=(W8 []);let y4:=(↑(List.length t3):Int);let t4:=(C5 [rt tP s.lb4,[gL tP p.H4 s.A3.toNat]]);let y9:=(Nat.beq t4.alt 2);let y8:=(Nat.beq t4.alt 1);let y7:=(okS tP t4.eh0 0 t4.ns0);let y0:=(W9 (slR tP t4.eh0 0 t4.ns0));let t5:=(W8 (slR tP t4.eh0 0 t4.ns0));let t6:=(W8 (slR tP t2.eh0 0 t2.ns0));let y5:=(↑(List.length t6):Int);let w0:α:=(sl y1 (sl y8 (sl y6 (k ⟨1,t3,y3,s.I4,s.eh3⟩) z) (sl y9 (sl y7 (sl y0 (k ⟨1,t5,y3,s.I4,s.eh3⟩) z) z) z)) z);(sl (decide (s.A3<p.L9)) (sl (inB s.A3 (List.length p.H4)) (sl (decide ((↑(List.length s.lb4):Int)>=48)) (e 3) (sl y1 (sl (Nat.beq t2.alt 1) (sl y6 (sl (decide (y4>0)) (sl (decide (y4>0)) (sl ((!(Nat.beq (List.length t3) 0))&&true) (sl y2 (sl y1 (sl y8 (sl y6 (k ⟨1,t3,y3,s.I4+1,app s.eh3 [[eL tP t3]]⟩) z) (sl y9 (sl y7 (sl y0 (k ⟨1,t5,y3,s.I4+1,app s.eh3 [[eL tP t3]]⟩) z) z) z)) z) z) z) w0) (sl (decide (y4>0)) z w0)) z) (sl (Nat.beq t2.alt 2) (sl (okS tP t2.eh0 0 t2.ns0) (sl (W9 (slR tP t2.eh0 0 t2.ns0)) (sl (decide (y5>0)) (sl (decide (y5>0)) (sl ((!(Nat.beq (List.length t6) 0))&&true) (sl y2 (sl y1 (sl y8 (sl y6 (k ⟨1,t3,y3,s.I4+1,app s.eh3 [[eL tP t6]]⟩) z) (sl y9 (sl y7 (sl y0 (k ⟨1,t5,y3,s.I4+1,app s.eh3 [[eL tP t6]]⟩) z) z) z)) z) z) z) w0) (sl (decide (y5>0)) z w0)) z) z) z)) z)) z) (e 4))
def q7(p:D9)(s:l9):Stp l9:=(sel (Nat.beq s.ph 1) (E8 .next .exit .fail p s) (E7 .next .exit .fail p s))
def qb1:Lo D9 l9:=⟨En wb4,0,cg2,[1,1,1,1,0,1,4,4,1,1,0,4,1,1,1,4,4,1,1,4,4],[4,9,10,11,43,45,48,49,50,51,61,62,63],.p,[⟨ru2 4 (sLq tP::ru2 4 (sLq tP::sIq::sIq::ru2 31 (.s (.o (.lit .i64 0))::sUq::sLq tP::sUq::sUq::sPq 0::sPq 1::sLq tP::sPq 2::ru2 9 (sLq tLq::sIq::sIq::ru2 25 [])))),[⟨0,1,true,some [[.o .nil]]⟩,⟨0,1,true,some [[.o (.lit .i64 0)]]⟩,⟨0,0,true,some [[.o .nil]]⟩],λa H=>(⟨aLq tP a 9,aIq a 10,aLq tP a 45,aLq tP a 50,aLq tLq a 61,aIq a 62,aIq a 63⟩,⟨0,aLq tP a 4,aIq a 11,0,[]⟩)⟩,⟨ru2 4 (sLq tP::ru2 4 (sLq tP::sIq::sIq::ru2 31 (.s (.o (.lit .i64 0))::sUq::sLq tP::sUq::sUq::sPq 0::sPq 1::sLq tP::sPq 2::ru2 9 (sLq tLq::sIq::sIq::ru2 25 [])))),[⟨0,1,true,some [[.o .nil]]⟩,⟨0,1,true,some [[.o (.lit .i64 0)]]⟩,⟨0,0,true,some [[.o (.sl 3 0 (some 0) none)]]⟩,⟨35,1,true,none⟩],λa H=>(⟨aLq tP a 9,aIq a 10,aLq tP a 45,aLq tP a 50,aLq tLq a 61,aIq a 62,aIq a 63⟩,⟨1,aLq tP a 4,aIq a 11,slN (slT (rwT (elT H 2) 0) 0),elT H 3⟩)⟩],q7,[(none,λp s=>⟨ra 4 (eL tP s.lb4::.unk::.ptr 3 0 0 0::.unk::.unk::eL tP p.H4::i p.L9::i s.A3::b (decide (s.A3<p.L9))::.tptr [i (gL tP p.H4 s.A3.toNat).n.x,i (gL tP p.H4 s.A3.toNat).n.y,i (gL tP p.H4 s.A3.toNat).n.z,i (gL tP p.H4 s.A3.toNat).b]::.agg [i (gL tP p.H4 s.A3.toNat).n.x,i (gL tP p.H4 s.A3.toNat).n.y,i (gL tP p.H4 s.A3.toNat).n.z,i (gL tP p.H4 s.A3.toNat).b]::eL tP s.lb4::i (↑(List.length s.lb4):Int)::b (decide ((↑(List.length s.lb4):Int)>=48))::.unk::b false::ra 23 (i 1::.unk::eL tP p.se8::.unk::.unk::.ptr 0 0 0 0::.ptr 1 0 0 0::eL tP p.se9::.ptr 2 0 0 0::ra 9 (eL tLq p.Cd7::i p.Tf0::i p.Tf1::ra 25 []))),[⟨0,1,[[.v (.slice none 0 0)]],true,false,0⟩,⟨0,1,[[i 9]],true,false,0⟩,⟨0,0,[[.v (.slice none 0 0)]],true,false,0⟩,⟨0,4,[[i (gL tP p.H4 s.A3.toNat).n.x,i (gL tP p.H4 s.A3.toNat).n.y,i (gL tP p.H4 s.A3.toNat).n.z,i (gL tP p.H4 s.A3.toNat).b]],true,false,0⟩]⟩),(some 0,λp s=>upq (Hb1 p s) [(12,b (decide (s.A3<p.L9)))]),(none,λp s=>⟨ra 4 (eL tP s.lb4::.unk::.ptr 4 0 0 0::.unk::.unk::eL tP p.H4::i p.L9::i s.A3::b (decide (s.A3<p.L9))::.tptr [i (gL tP p.H4 s.A3.toNat).n.x,i (gL tP p.H4 s.A3.toNat).n.y,i (gL tP p.H4 s.A3.toNat).n.z,i (gL tP p.H4 s.A3.toNat).b]::.agg [i (gL tP p.H4 s.A3.toNat).n.x,i (gL tP p.H4 s.A3.toNat).n.y,i (gL tP p.H4 s.A3.toNat).n.z,i (gL tP p.H4 s.A3.toNat).b]::eL tP s.lb4::i (↑(List.length s.lb4):Int)::b (decide ((↑(List.length s.lb4):Int)>=48))::.unk::b false::ra 23 (i 1::.unk::eL tP p.se8::.unk::.unk::.ptr 0 0 0 0::.ptr 1 0 0 0::eL tP p.se9::.ptr 2 0 0 0::ra 9 (eL tLq p.Cd7::i p.Tf0::i p.Tf1::ra 25 []))),[⟨0,1,[[.v (.slice none 0 0)]],true,false,0⟩,⟨0,1,[[i 9]],true,false,0⟩,⟨0,0,[[.sl 3 0 s.I4 0]],true,false,0⟩,⟨35,1,s.eh3,true,false,0⟩,⟨0,4,[[i (gL tP p.H4 s.A3.toNat).n.x,i (gL tP p.H4 s.A3.toNat).n.y,i (gL tP p.H4 s.A3.toNat).n.z,i (gL tP p.H4 s.A3.toNat).b]],true,false,0⟩]⟩),(some 0,λp s=>upq (Hb2 p s) [(12,b (decide (s.A3<p.L9)))])],Tc8⟩
theorem Tc9:qb1.OkM:=Lo.okM [] (by kernel_rfl) .nil rfl (.cons (λa H=>by kernel_rfl) (.cons (λa H=>by kernel_rfl) .nil)) λp s=>(.sel (Nat.beq s.ph 1) (.of @E8 (λF _ _ _ _ _=>by unfold E8;(repeat' apply k8 (f:=F))<;>rfl) (by kernel_rfl)) (.of @E7 (λF _ _ _ _ _=>by unfold E7;(repeat' apply k8 (f:=F))<;>rfl) (by kernel_rfl)))
structure Y5 where
 Qa5:Int
structure s8 where
 ph:Nat
 (ea1 R8:PLq)
 ea0:LPq
 lb8:Int
 I4:Nat
 eh3:List (List d7)
def Hb3(p:Y5)(s:s8):St:=⟨.unk::eL tP s.ea1::.unk::.unk::.ptr 0 0 0 0::.ptr 1 0 0 0::eL tP s.R8::.ptr 2 0 0 0::ra 9 (eL tLq s.ea0::i p.Qa5::i s.lb8::ra 25 []),[⟨0,1,[[.v (.slice none 0 0)]],true,false,0⟩,⟨0,1,[[i 0]],true,false,0⟩,⟨0,0,[[.v (.slice none 0 0)]],true,false,0⟩]⟩
def Hb4(p:Y5)(s:s8):St:=⟨.unk::eL tP s.ea1::.unk::.unk::.ptr 0 0 0 0::.ptr 1 0 0 0::eL tP s.R8::.ptr 2 0 0 0::ra 9 (eL tLq s.ea0::i p.Qa5::i s.lb8::ra 25 []),[⟨0,1,[[.v (.slice none 0 0)]],true,false,0⟩,⟨0,1,[[i 0]],true,false,0⟩,⟨0,0,[[.sl 3 0 s.I4 0]],true,false,0⟩,⟨35,1,s.eh3,true,false,0⟩]⟩
def Uc0(p:Y5)(s:s8):St:=(sel (Nat.beq s.ph 1) (Hb4 p s) (Hb3 p s))
def s6{α:Type}(k:s8->α)(e:Nat->α)(z:α)(p:Y5)(s:s8):α:=let y1:=(rt tLq s.ea0);let y0:=(gL tLq s.ea0 s.lb8.toNat);let t1:=(La3 (rt tP y0) (rt tP s.ea1));let t2:=(lp (q7 (⟨rt tP s.R8,(↑(List.length s.R8):Int),rt tP s.ea1,rt tP s.R8,y1,p.Qa5,s.lb8⟩:D9)) (⟨0,rt tP y0,0,0,[]⟩:l9));(sl (decide (s.lb8<p.Qa5)) (sl (inB s.lb8 (List.length s.ea0)) (sl (okE tP y0) (sl (okE tP s.ea1) (sl (La4 (rt tP y0) (rt tP s.ea1)) (sl t1 (k ⟨1,s.ea1,s.R8,s.ea0,W (s.lb8+1),1,[[eL tP y0]]⟩) (sl ((cnE tP y0)&&((cnE tP s.R8)&&((cnE tP s.ea1)&&((cnE tP s.R8)&&((cnE tLq s.ea0)&&true))))) (sl (Nat.beq t2.1 1) (e 1) (sl (Nat.beq t2.1 2) (k ⟨0,rt tP s.ea1,rt tP s.R8,y1,W (s.lb8+1),0,[]⟩) (sl (Nat.beq t2.1 3) (e 2) (sl (Nat.beq t2.1 4) (k ⟨1,rt tP s.ea1,rt tP s.R8,y1,W (s.lb8+1),t2.2.I4,t2.2.eh3⟩) z)))) z)) z) z) z) z) (e 3))
def B5{α:Type}(k:s8->α)(e:Nat->α)(z:α)(p:Y5)(s:s8):α:=let y1:=(rt tLq s.ea0);let y0:=(gL tLq s.ea0 s.lb8.toNat);let t1:=(La3 (rt tP y0) (rt tP s.ea1));let t2:=(lp (q7 (⟨rt tP s.R8,(↑(List.length s.R8):Int),rt tP s.ea1,rt tP s.R8,y1,p.Qa5,s.lb8⟩:D9)) (⟨1,rt tP y0,0,s.I4,s.eh3⟩:l9));(sl (decide (s.lb8<p.Qa5)) (sl (inB s.lb8 (List.length s.ea0)) (sl (okE tP y0) (sl (okE tP s.ea1) (sl (La4 (rt tP y0) (rt tP s.ea1)) (sl t1 (sl (Nat.beq s.I4 (len s.eh3)&&Nat.ble ((s.I4+1)*24) room) (k ⟨1,s.ea1,s.R8,s.ea0,W (s.lb8+1),s.I4+1,app s.eh3 [[eL tP y0]]⟩) z) (sl ((cnE tP y0)&&((cnE tP s.R8)&&((cnE tP s.ea1)&&((cnE tP s.R8)&&((cnE tLq s.ea0)&&true))))) (sl (Nat.beq t2.1 1) (e 4) (sl (Nat.beq t2.1 2) (k ⟨0,rt tP s.ea1,rt tP s.R8,y1,W (s.lb8+1),0,[]⟩) (sl (Nat.beq t2.1 3) (e 5) (sl (Nat.beq t2.1 4) (k ⟨1,rt tP s.ea1,rt tP s.R8,y1,W (s.lb8+1),t2.2.I4,t2.2.eh3⟩) z)))) z)) z) z) z) z) (e 6))
def C8(p:Y5)(s:s8):Stp s8:=(sel (Nat.beq s.ph 1) (B5 .next .exit .fail p s) (s6 .next .exit .fail p s))
def qb2:Lo Y5 s8:=⟨En wb4,0,cg2,[1,1,1,1,0,1,4,4],[1,4,5,6,7,17,18,19],.s .p (.s .p (.s (.b (.s .p (.s .p (.s .p (.b (.i (.s .p (.s .p (.b (.u qb1.lsM)))))))))) .p)),[⟨sUq::sLq tP::sUq::sUq::sPq 0::sPq 1::sLq tP::sPq 2::ru2 9 (sLq tLq::sIq::sIq::ru2 25 []),[⟨0,1,true,some [[.o .nil]]⟩,⟨0,1,true,some [[.o (.lit .i64 0)]]⟩,⟨0,0,true,some [[.o .nil]]⟩],λa H=>(⟨aIq a 18⟩,⟨0,aLq tP a 1,aLq tP a 6,aLq tLq a 17,aIq a 19,0,[]⟩)⟩,⟨sUq::sLq tP::sUq::sUq::sPq 0::sPq 1::sLq tP::sPq 2::ru2 9 (sLq tLq::sIq::sIq::ru2 25 []),[⟨0,1,true,some [[.o .nil]]⟩,⟨0,1,true,some [[.o (.lit .i64 0)]]⟩,⟨0,0,true,some [[.o (.sl 3 0 (some 0) none)]]⟩,⟨35,1,true,none⟩],λa H=>(⟨aIq a 18⟩,⟨1,aLq tP a 1,aLq tP a 6,aLq tLq a 17,aIq a 19,slN (slT (rwT (elT H 2) 0) 0),elT H 3⟩)⟩],C8,[(none,λp s=>let t2:=(lp (q7 (⟨rt tP s.R8,(↑(List.length s.R8):Int),rt tP s.ea1,rt tP s.R8,rt tLq s.ea0,p.Qa5,s.lb8⟩:D9)) (⟨0,rt tP (gL tLq s.ea0 s.lb8.toNat),0,0,[]⟩:l9));⟨.unk::eL tP (rt tP s.ea1)::.unk::.unk::.ptr 0 0 0 0::.ptr 1 0 0 0::eL tP (rt tP s.R8)::.ptr 2 0 0 0::ra 9 (eL tLq (rt tLq s.ea0)::i p.Qa5::i s.lb8::ra 25 []),[⟨0,1,[[.v (.slice none 0 0)]],true,false,0⟩,⟨0,1,[[i 9]],true,false,0⟩,⟨0,0,[[.v (.slice none 0 0)]],true,false,0⟩,⟨0,4,[[i (gL tP (rt tP s.R8) t2.2.A3.toNat).n.x,i (gL tP (rt tP s.R8) t2.2.A3.toNat).n.y,i (gL tP (rt tP s.R8) t2.2.A3.toNat).n.z,i (gL tP (rt tP s.R8) t2.2.A3.toNat).b]],true,false,0⟩]⟩),(none,λp s=>let t2:=(lp (q7 (⟨rt tP s.R8,(↑(List.length s.R8):Int),rt tP s.ea1,rt tP s.R8,rt tLq s.ea0,p.Qa5,s.lb8⟩:D9)) (⟨0,rt tP (gL tLq s.ea0 s.lb8.toNat),0,0,[]⟩:l9));⟨.unk::eL tP (rt tP s.ea1)::.unk::.unk::.ptr 0 0 0 0::.ptr 1 0 0 0::eL tP (rt tP s.R8)::.ptr 2 0 0 0::ra 9 (eL tLq (rt tLq s.ea0)::i p.Qa5::i s.lb8::ra 25 []),[⟨0,1,[[.v (.slice none 0 0)]],true,false,0⟩,⟨0,1,[[i 9]],true,false,0⟩,⟨0,0,[[.sl 3 0 t2.2.I4 0]],true,false,0⟩,⟨35,1,t2.2.eh3,true,false,0⟩,⟨0,4,[[i (gL tP (rt tP s.R8) t2.2.A3.toNat).n.x,i (gL tP (rt tP s.R8) t2.2.A3.toNat).n.y,i (gL tP (rt tP s.R8) t2.2.A3.toNat).n.z,i (gL tP (rt tP s.R8) t2.2.A3.toNat).b]],true,false,0⟩]⟩),(some 0,λp s=>upq (Hb3 p s) [(20,b (decide (s.lb8<p.Qa5)))]),(none,λp s=>let t2:=(lp (q7 (⟨rt tP s.R8,(↑(List.length s.R8):Int),rt tP s.ea1,rt tP s.R8,rt tLq s.ea0,p.Qa5,s.lb8⟩:D9)) (⟨1,rt tP (gL tLq s.ea0 s.lb8.toNat),0,s.I4,s.eh3⟩:l9));⟨.unk::eL tP (rt tP s.ea1)::.unk::.unk::.ptr 0 0 0 0::.ptr 1 0 0 0::eL tP (rt tP s.R8)::.ptr 2 0 0 0::ra 9 (eL tLq (rt tLq s.ea0)::i p.Qa5::i s.lb8::ra 25 []),[⟨0,1,[[.v (.slice none 0 0)]],true,false,0⟩,⟨0,1,[[i 9]],true,false,0⟩,⟨0,0,[[.v (.slice none 0 0)]],true,false,0⟩,⟨0,4,[[i (gL tP (rt tP s.R8) t2.2.A3.toNat).n.x,i (gL tP (rt tP s.R8) t2.2.A3.toNat).n.y,i (gL tP (rt tP s.R8) t2.2.A3.toNat).n.z,i (gL tP (rt tP s.R8) t2.2.A3.toNat).b]],true,false,0⟩]⟩),(none,λp s=>let t2:=(lp (q7 (⟨rt tP s.R8,(↑(List.length s.R8):Int),rt tP s.ea1,rt tP s.R8,rt tLq s.ea0,p.Qa5,s.lb8⟩:D9)) (⟨1,rt tP (gL tLq s.ea0 s.lb8.toNat),0,s.I4,s.eh3⟩:l9));⟨.unk::eL tP (rt tP s.ea1)::.unk::.unk::.ptr 0 0 0 0::.ptr 1 0 0 0::eL tP (rt tP s.R8)::.ptr 2 0 0 0::ra 9 (eL tLq (rt tLq s.ea0)::i p.Qa5::i s.lb8::ra 25 []),[⟨0,1,[[.v (.slice none 0 0)]],true,false,0⟩,⟨0,1,[[i 9]],true,false,0⟩,⟨0,0,[[.sl 3 0 t2.2.I4 0]],true,false,0⟩,⟨35,1,t2.2.eh3,true,false,0⟩,⟨0,4,[[i (gL tP (rt tP s.R8) t2.2.A3.toNat).n.x,i (gL tP (rt tP s.R8) t2.2.A3.toNat).n.y,i (gL tP (rt tP s.R8) t2.2.A3.toNat).n.z,i (gL tP (rt tP s.R8) t2.2.A3.toNat).b]],true,false,0⟩]⟩),(some 0,λp s=>upq (Hb4 p s) [(20,b (decide (s.lb8<p.Qa5)))])],Uc0⟩
theorem Uc1:qb2.OkM:=Lo.okM [qb1.prM] (by kernel_rfl) (.cons Tc9 .nil) rfl (.cons (λa H=>by kernel_rfl) (.cons (λa H=>by kernel_rfl) .nil)) λp s=>(.sel (Nat.beq s.ph 1) (.of @B5 (λF _ _ _ _ _=>by unfold B5;(repeat' apply k8 (f:=F))<;>rfl) (by kernel_rfl)) (.of @s6 (λF _ _ _ _ _=>by unfold s6;(repeat' apply k8 (f:=F))<;>rfl) (by kernel_rfl)))
def Pa3(x:LPq)(y:PLq):ROq:=let y0:=(.tup [.v (.slice none 0 0),i 9],[]);let t1:=(Ba4 (rt tP y));let t2:=(W8 (rt tP y));let t3:=(lp (C8 (⟨(↑(List.length x):Int)⟩:Y5)) (⟨0,rt tP y,rt tP t2,rt tLq x,0,0,[]⟩:s8));(sl (okE tP y) (sl (Ba5 (rt tP y)) (sl (!t1) (some (.tup [eL tLq x,i 0],[])) (sl (okE tP y) (sl (W9 (rt tP y)) (sl ((cnE tP y)&&((cnE tP t2)&&((cnE tLq x)&&true))) (sl (Nat.beq t3.1 1) (some y0) (sl (Nat.beq t3.1 2) (some y0) (sl (Nat.beq t3.1 3) (some (.tup [.v (.slice none 0 0),i 0],[])) (sl (Nat.beq t3.1 4) (some y0) (sl (Nat.beq t3.1 5) (some y0) (sl (Nat.beq t3.1 6) (sl (decide ((↑t3.2.I4:Int)>200)) (some y0) (some ((.tup [(.tree 1 t3.2.I4 (λk=>g8 t3.2.eh3 (0+k))),i 0]),[]))) none)))))) none) none) none)) none) none)
def ja0(x:LPq)(y:PLq):LPq×Int:=V2 (two (r1L tLq) r1I) (Pa3 x y)
def hb5(x:LPq)(y:PLq):Bool:=okO (two (r1L tLq) r1I) (Pa3 x y)
def sc4:Sum:=ta3 (na2 tLq) (na2 tP) (λx y=>.guard (hb5 x y) (.ret ((two (r1L tLq) r1I).enc (ja0 x y),[])))
theorem nd4:j6 prog G 88 sc4:=ub3 (bd b88 dd7) (two (r1L tLq) r1I) (o:=Pa3) λx y=>sd1 (.s .p (.s .p (.s .p (.s .p (.s (.s .p (.b (.u qb2.lsM))) .p))))) [qb2.prM] (by kernel_rfl) (.cons Uc1 .nil) (by kernel_rfl)
def Cc4:List (Nat×Sum):=[(73,ob7),(86,Pc1),(39,Wa2),(87,oc0),(88,sc4)]
theorem yd2:j9 prog G Cc4:=⟨yb3,Md6,ab3,Pc0,nd4,trivial⟩
structure ja1 where
 Xb8:LPq
 vc9:Int
 g7:PLq
structure E4 where
 ph:Nat
 Gc1:Int
 ma7:LPq
def Xb0(p:ja1)(s:E4):St:=⟨ra 8 (.sl 0 0 1 0::ra 19 (eL tLq p.Xb8::i p.vc9::i s.Gc1::ra 14 [])),[⟨35,1,[[eL tP p.g7]],true,false,0⟩]⟩
def Xb1(p:ja1)(s:E4):St:=⟨ra 8 (eL tLq s.ma7::ra 19 (eL tLq p.Xb8::i p.vc9::i s.Gc1::ra 14 [])),[]⟩
def nd5(p:ja1)(s:E4):St:=(sel (Nat.beq s.ph 1) (Xb1 p s) (Xb0 p s))
def T3{α:Type}(k:E4->α)(e:Nat->α)(z:α)(p:ja1)(s:E4):α:=let y0:=(gL tLq p.Xb8 s.Gc1.toNat);let t1:=(ja0 [rt tP p.g7] (rt tP y0));(sl (decide (s.Gc1<p.vc9)) (sl (inB s.Gc1 (List.length p.Xb8)) (sl ((okE tP p.g7)&&true) (sl (okE tP y0) (sl (hb5 [rt tP p.g7] (rt tP y0)) (sl (t1.2 != 0) (e 1) (k ⟨1,W (s.Gc1+1),t1.1⟩)) z) z) z) z) (e 2))
def T4{α:Type}(k:E4->α)(e:Nat->α)(z:α)(p:ja1)(s:E4):α:=let y0:=(gL tLq p.Xb8 s.Gc1.toNat);let t1:=(ja0 (rt tLq s.ma7) (rt tP y0));(sl (decide (s.Gc1<p.vc9)) (sl (inB s.Gc1 (List.length p.Xb8)) (sl (okE tLq s.ma7) (sl (okE tP y0) (sl (hb5 (rt tLq s.ma7) (rt tP y0)) (sl (t1.2 != 0) (e 3) (k ⟨1,W (s.Gc1+1),t1.1⟩)) z) z) z) z) (e 4))
def R6(p:ja1)(s:E4):Stp E4:=(sel (Nat.beq s.ph 1) (T4 .next .exit .fail p s) (T3 .next .exit .fail p s))
def Gb1:Lo ja1 E4:=⟨En Cc4,0,lg2,[1,1,1,1,1,0,1,4,4],[8,28,29,30],.p,[⟨ru2 8 (.s (.o (.sl 0 0 (some 0) (some 1)))::ru2 19 (sLq tLq::sIq::sIq::ru2 14 [])),[⟨35,1,true,some [[.c 4 (nL tP)]]⟩],λa H=>(⟨aLq tLq a 28,aIq a 29,hLq tP H 0 0 0⟩,⟨0,aIq a 30,[]⟩)⟩,⟨ru2 8 (sLq tLq::ru2 19 (sLq tLq::sIq::sIq::ru2 14 [])),[],λa H=>(⟨aLq tLq a 28,aIq a 29,[]⟩,⟨1,aIq a 30,aLq tLq a 8⟩)⟩],R6,[(none,λp s=>let t1:=(ja0 [rt tP p.g7] (rt tP (gL tLq p.Xb8 s.Gc1.toNat)));⟨[.tup [.v (.slice none 0 0),i t1.2]],[]⟩),(some 0,λp s=>upq (Xb0 p s) [(31,b (decide (s.Gc1<p.vc9)))]),(none,λp s=>let t1:=(ja0 (rt tLq s.ma7) (rt tP (gL tLq p.Xb8 s.Gc1.toNat)));⟨[.tup [.v (.slice none 0 0),i t1.2]],[]⟩),(some 0,λp s=>upq (Xb1 p s) [(31,b (decide (s.Gc1<p.vc9)))])],nd5⟩
theorem nd6:Gb1.Ok:=Lo.ok [] (by kernel_rfl) .nil rfl (.cons (λa H=>by kernel_rfl) (.cons (λa H=>by kernel_rfl) .nil)) λp s=>(.sel (Nat.beq s.ph 1) (.of @T4 (λF _ _ _ _ _=>by unfold T4;(repeat' apply k8 (f:=F))<;>rfl) (by kernel_rfl)) (.of @T3 (λF _ _ _ _ _=>by unfold T3;(repeat' apply k8 (f:=F))<;>rfl) (by kernel_rfl)))
def fb3(x:PLq)(y:LPq):ROq:=let t1:=(fa5 (rt tP x));let t2:=(yb8 (rt tLq y));let t3:=(Ba4 (rt tP x));let t4:=(W8 (rt tP x));let t5:=(lp (R6 (⟨rt tLq y,(↑(List.length y):Int),rt tP t4⟩:ja1)) (⟨0,0,[]⟩:E4));let y0:=(rt tP (gL tLq (rt tLq y) t5.2.Gc1.toNat));let t6:=(ja0 [rt tP (rt tP t4)] y0);let t7:=(ja0 (rt tLq t5.2.ma7) y0);(sl (okE tP x) (sl (Ka6 (rt tP x)) (sl (t1 != 0) (some (.tup [.v (.slice none 0 0),i t1],[])) (sl (okE tLq y) (sl (yb9 (rt tLq y)) (sl (t2 != 0) (some (.tup [.v (.slice none 0 0),i t2],[])) (sl (okE tP x) (sl (Ba5 (rt tP x)) (sl (!t3) (some (.tup [.v (.slice none 0 0),i 0],[])) (sl (okE tP x) (sl (W9 (rt tP x)) (sl ((cnE tLq y)&&((cnE tP t4)&&true)) (sl (Nat.beq t5.1 1) (some (.tup [.v (.slice none 0 0),i t6.2],[])) (sl (Nat.beq t5.1 2) (some (.tup [.sl 0 0 1 0,i 0],[⟨35,1,[[eL tP (rt tP t4)]],true,false,0⟩])) (sl (Nat.beq t5.1 3) (some (.tup [.v (.slice none 0 0),i t7.2],[])) (sl (Nat.beq t5.1 4) (some (.tup [eL tLq t5.2.ma7,i 0],[])) none)))) none) none) none)) none) none)) none) none)) none) none)
def bc2(x:PLq)(y:LPq):LPq×Int:=V2 (two (r1L tLq) r1I) (fb3 x y)
def bc3(x:PLq)(y:LPq):Bool:=okO (two (r1L tLq) r1I) (fb3 x y)
def Pc3:Sum:=ta3 (na2 tP) (na2 tLq) (λx y=>.guard (bc3 x y) (.ret ((two (r1L tLq) r1I).enc (bc2 x y),[])))
theorem Md8:j6 prog G 66 Pc3:=ub3 (bd b66 yd2) (two (r1L tLq) r1I) (o:=fb3) λx y=>Ga2 (.s .p (.s .p (.s .p (.s .p (.s .p (.s (.s .p (.b (.u Gb1.ls))) .p)))))) [Gb1.pr] (by kernel_rfl) (.cons nd6 .nil) (by kernel_rfl)
def yd3:List (Nat×Sum):=[(66,Pc3)]
theorem nd7:j9 prog G yd3:=⟨Md8,trivial⟩
def Xa1(x:LPq)(y:PLq):ROq:=let t1:=(bc2 (rt tP y) (rt tLq x));(sl (okE tP y) (sl (okE tLq x) (sl (bc3 (rt tP y) (rt tLq x)) (sl (t1.2==0) (some (.tup [b ((↑(List.length t1.1):Int)==0),i t1.2],[])) (some (.tup [b false,i t1.2],[]))) none) none) none)
def u9(x:LPq)(y:PLq):Bool×Int:=V2 (two r1B r1I) (Xa1 x y)
def xa3(x:LPq)(y:PLq):Bool:=okO (two r1B r1I) (Xa1 x y)
def Cc5:Sum:=ta3 (na2 tLq) (na2 tP) (λx y=>.guard (xa3 x y) (.ret ((two r1B r1I).enc (u9 x y),[])))
theorem yd4:j6 prog G 29 Cc5:=ub3 (bd b29 nd7) (two r1B r1I) (o:=Xa1) λx y=>B6 (by kernel_rfl)
structure hb6 where
 (j5 g7:PLq)
def nd8:List (Nat×Sum):=[(28,Jb5)]
theorem dd8:j9 prog G nd8:=⟨ac7,trivial⟩
structure hb7 where
 alt:Nat
 bs0:Bool
def za9{α:Type}(kk:hb7->α)(x:hb6):α:=let t1:=(La3 (rt tP x.g7) (rt tP x.j5));(sl (okE tP x.g7) (sl (okE tP x.j5) (sl (La4 (rt tP x.g7) (rt tP x.j5)) (kk ⟨1,!t1⟩) (kk ⟨0,false⟩)) (kk ⟨0,false⟩)) (kk ⟨0,false⟩))
def hb8(x:hb6):hb7:=za9 (λr=>r) x
def wb5(x:hb6)(r:hb7):DT (d7×List d8):=(.ite (Nat.beq r.alt 1) (.ret (b r.bs0,[⟨0,1,[[eL tP x.g7]],true,false,0⟩])) .fail)
theorem yd5{α β:Type}(F:α->β)(kk:hb7->α)(x:hb6):F (za9 kk x)=za9 (λr=>F (kk r)) x:=by unfold za9;(repeat' apply k8 (f:=F))<;>rfl
def sc5:Sum:=Sa0 ⟨[sLq tP,sPq 0],[⟨0,1,true,some [[.c 4 (nL tP)]]⟩],λa H=>(⟨aLq tP a 0,hLq tP H 0 0 0⟩,())⟩ (λx=>wb5 x (hb8 x))
theorem nd9:j6 prog G 62 sc5:=I1 (enc:=λx=>⟨[eL tP x.j5,.ptr 0 0 0 0],[⟨0,1,[[eL tP x.g7]],true,false,0⟩]⟩) (λa H=>by kernel_rfl) (bd b62 dd8) λx=>B6 (Qjh (b:=za9 (λr=>(wb5 x r).run) x) (by kernel_rfl) (yd5 (λr=>(wb5 x r).run) (λr=>r) x).symm)
structure ga3 where
 s9:LPq
 g7:PLq
def Ta6:List (Nat×Sum):=[(62,sc5)]
theorem Gb2:j9 prog G Ta6:=⟨nd9,trivial⟩
structure Q5 where
 s9:LPq
 is7:Int
structure v7 where
 is8:Int
 g7:PLq
def Ja6(p:Q5)(s:v7):St:=⟨eL tLq p.s9::.fn 62 [.ptr 0 0 0 0]::ra 5 (i p.is7::i s.is8::ra 10 []),[⟨0,1,[[eL tP s.g7]],true,false,0⟩]⟩
def M4{α:Type}(k:v7->α)(e:Nat->α)(z:α)(p:Q5)(s:v7):α:=let t1:=(hb8 ⟨rt tP (gL tLq p.s9 s.is8.toNat),rt tP s.g7⟩);(sl (decide (s.is8<p.is7)) (sl (inB s.is8 (List.length p.s9)) (sl ((cnE tP (gL tLq p.s9 s.is8.toNat))&&((cnE tP s.g7)&&true)) (sl (Nat.beq t1.alt 1) (sl t1.bs0 (e 1) (k ⟨W (s.is8+1),rt tP s.g7⟩)) z) z) z) (e 2))
def O3(p:Q5)(s:v7):Stp v7:=M4 .next .exit .fail p s
def ra2:Lo Q5 v7:=⟨En Ta6,1,cg0,[1,0,1,4,4],[0,1,7,8],.p,[⟨sLq tLq::.fn 62 [.o (.ptr 0 0 0 0)]::ru2 5 (sIq::sIq::ru2 10 []),[⟨0,1,true,some [[.c 4 (nL tP)]]⟩],λa H=>(⟨aLq tLq a 0,aIq a 7⟩,⟨aIq a 8,hLq tP H 0 0 0⟩)⟩],O3,[(none,λp s=>⟨[i s.is8],[⟨0,1,[[eL tP (rt tP s.g7)]],true,false,0⟩]⟩),(some 0,λp s=>upq (Ja6 p s) [(9,b (decide (s.is8<p.is7)))])],Ja6⟩
theorem Bb9:ra2.Ok:=Lo.ok [] (by kernel_rfl) .nil rfl (.cons (λa H=>by kernel_rfl) .nil) λp s=>(.of @M4 (λF _ _ _ _ _=>by unfold M4;(repeat' apply k8 (f:=F))<;>rfl) (by kernel_rfl))
structure ga4 where
 alt:Nat
 is0:Int
 g7:PLq
def M6{α:Type}(kk:ga4->α)(x:ga3):α:=let t1:=(lp (O3 (⟨rt tLq x.s9,(↑(List.length x.s9):Int)⟩:Q5)) (⟨0,rt tP x.g7⟩:v7));(sl ((cnE tLq x.s9)&&((cnE tP x.g7)&&true)) (sl (Nat.beq t1.1 1) (kk ⟨1,t1.2.is8,rt tP t1.2.g7⟩) (sl (Nat.beq t1.1 2) (kk ⟨1,-1,t1.2.g7⟩) (kk ⟨0,0,[]⟩))) (kk ⟨0,0,[]⟩))
def ga5(x:ga3):ga4:=M6 (λr=>r) x
def va0(x:ga3)(r:ga4):DT (d7×List d8):=(.ite (Nat.beq r.alt 1) (.ret (i r.is0,[⟨0,1,[[eL tP r.g7]],true,false,0⟩])) .fail)
theorem Qb0{α β:Type}(F:α->β)(kk:ga4->α)(x:ga3):F (M6 kk x)=M6 (λr=>F (kk r)) x:=by unfold M6;(repeat' apply k8 (f:=F))<;>rfl
def Xa2:Sum:=Sa0 ⟨[sLq tLq,.fn 62 [.o (.ptr 0 0 0 0)]],[⟨0,1,true,some [[.c 4 (nL tP)]]⟩],λa H=>(⟨aLq tLq a 0,hLq tP H 0 0 0⟩,())⟩ (λx=>va0 x (ga5 x))
theorem Kb0:j6 prog G 77 Xa2:=I1 (enc:=λx=>⟨[eL tLq x.s9,.fn 62 [.ptr 0 0 0 0]],[⟨0,1,[[eL tP x.g7]],true,false,0⟩]⟩) (λa H=>by kernel_rfl) (bd b77 Gb2) λx=>Ga2 (.s .p (.s (.s .p (.b (.u ra2.ls))) .p)) [ra2.pr] (by kernel_rfl) (.cons Bb9 .nil) (Qjh (b:=M6 (λr=>(va0 x r).run) x) (by kernel_rfl) (Qb0 (λr=>(va0 x r).run) (λr=>r) x).symm)
structure Y6 where
 s9:LPq
 g7:PLq
def wb6:List (Nat×Sum):=[(77,Xa2)]
theorem sb7:j9 prog G wb6:=⟨Kb0,trivial⟩
structure Y7 where
 alt:Nat
 bs0:Bool
 g7:PLq
def H7{α:Type}(kk:Y7->α)(x:Y6):α:=let t1:=(ga5 ⟨rt tLq x.s9,rt tP x.g7⟩);(sl ((cnE tLq x.s9)&&((cnE tP x.g7)&&true)) (sl (Nat.beq t1.alt 1) (kk ⟨1,decide (t1.is0>=0),t1.g7⟩) (kk ⟨0,false,[]⟩)) (kk ⟨0,false,[]⟩))
def pa2(x:Y6):Y7:=H7 (λr=>r) x
def ma5(x:Y6)(r:Y7):DT (d7×List d8):=(.ite (Nat.beq r.alt 1) (.ret (b r.bs0,[⟨0,1,[[eL tP r.g7]],true,false,0⟩])) .fail)
theorem Cb0{α β:Type}(F:α->β)(kk:Y7->α)(x:Y6):F (H7 kk x)=H7 (λr=>F (kk r)) x:=by unfold H7;(repeat' apply k8 (f:=F))<;>rfl
def Ja7:Sum:=Sa0 ⟨[sLq tLq,.fn 62 [.o (.ptr 0 0 0 0)]],[⟨0,1,true,some [[.c 4 (nL tP)]]⟩],λa H=>(⟨aLq tLq a 0,hLq tP H 0 0 0⟩,())⟩ (λx=>ma5 x (pa2 x))
theorem wb7:j6 prog G 61 Ja7:=I1 (enc:=λx=>⟨[eL tLq x.s9,.fn 62 [.ptr 0 0 0 0]],[⟨0,1,[[eL tP x.g7]],true,false,0⟩]⟩) (λa H=>by kernel_rfl) (bd b61 sb7) λx=>B6 (Qjh (b:=H7 (λr=>(ma5 x r).run) x) (by kernel_rfl) (Cb0 (λr=>(ma5 x r).run) (λr=>r) x).symm)
def Md9:List (Nat×Sum):=[(61,Ja7)]
theorem yd6:j9 prog G Md9:=⟨wb7,trivial⟩
def fb4(x:PLq)(y:LPq):ROq:=let t1:=(pa2 ⟨rt tLq y,rt tP x⟩);(sl ((cnE tLq y)&&((cnE tP x)&&true)) (sl (Nat.beq t1.alt 1) (some (b (!t1.bs0),[])) none) none)
def R7(x:PLq)(y:LPq):Bool:=V2 (one r1B) (fb4 x y)
def Ea3(x:PLq)(y:LPq):Bool:=okO (one r1B) (fb4 x y)
def zb0:Sum:=ta3 (na2 tP) (na2 tLq) (λx y=>.guard (Ea3 x y) (.ret ((one r1B).enc (R7 x y),[])))
theorem Qb1:j6 prog G 27 zb0:=ub3 (bd b27 yd6) (one r1B) (o:=fb4) λx y=>B6 (by kernel_rfl)
end Go.Ev.Ce
namespace Go.Ev
open Go Go.ChangeShapes Go.RowKit
structure Nd0(w w':World):Prop where
 os:w'.os=w.os
 output:w'.output=w.output
 size:w.heap.size<=w'.heap.size
 block:∀k,k<w.heap.size->w'.heap[k]?=w.heap[k]?
theorem Nd0.kept{w w':World}(h:Nd0 w w')(may:MemPlace->Prop):w.keptBut w' may:=by
 refine⟨h.os,h.output,λi hi=>?_⟩
 rw[h.block i hi]
 grind
theorem Nd0.frozen{w w':World}(h:Nd0 w w')(b off:Nat)(hb:b<w.heap.size):w'.frozen? ⟨b,off,none⟩=w.frozen? ⟨b,off,none⟩:=by
 simp only[World.frozen?,h.block b hb]
theorem Nd0.cell{w w':World}(h:Nd0 w w')(b off:Nat)(hb:b<w.heap.size):w'.cell? ⟨b,off,none⟩=w.cell? ⟨b,off,none⟩:=by
 simp only[World.cell?,h.block b hb]
theorem Nd0.same{w w':World}(h:Nd0 w w')(p:MemPlace)(hp:p.block<w.heap.size):w.sameAt w' p:=by
 cases p with
 |cell b off=>exact h.cell b off hp
 |map b=>exact h.block b hp
theorem Cc6{α β:Type}{f:α->Option β}:∀{l:List α} {r:List β},l.mapM f=some r->r.length=l.length/\∀(j:Nat) y,r[j]?=some y->∃x,l[j]?=some x/\f x=some y
 |[],r,h=>by
  simp_all
 |x::l,r,h=>by
  rw[List.mapM_cons] at h;obtain⟨y,h1,h2⟩:=Qji.1 h;obtain⟨r',h3,h4⟩:=Qji.1 h2
  have:r=y::r':=by simpa using h4.symm
  subst this;obtain⟨g1,g2⟩:=Cc6 h3
  grind
section
variable{D:Type}{enc:TypeId×Value->D}{P:Program}
theorem Pc4{T:TypeId->Prop}(K:Kids P T)(hsz:∀{t e:TypeId},T t->P.underlying t=some (.slice e)->0<P.cellsOf e){w w':World}{sp:Nat->Bool}(hs:Nd0 w w') :
  ∀{ts:List TypeId} {vs:List Value} {ds:List (DataW D)} {ps:List MemPlace},(∀t∈ts,T t)->DataW.TrodAll enc P w 0 (λ_=>true) true ts vs ds ps->(∀p∈ps,p.block<w.heap.size)->(∀p∈ps,sp p.block=true)->DataW.TrodAll enc P w' 0 sp true ts vs ds ps
 |[],[],[],_,_,h,_,_=>h
 |t::ts,v::vs,d::ds,ps,ht,h,hlt,hsp=>by
  obtain⟨p,q,⟨fuel,h1⟩,h2,rfl⟩:=h;refine⟨p,q,⟨fuel,?_⟩,Pc4 K hsz hs (λt h=>ht t (by simp[h])) h2 (λx hx=>hlt x (by simp[hx])) (λx hx=>hsp x (by simp[hx])),rfl⟩
  exact DataW.trod_stays K hsz (λh=>by cases h) (ht t (by simp)) h1 (λx hx=>hs.same x (hlt x (by simp at hx ⊢;exact .inl hx))) (λx hx=>hsp x (by simp at hx ⊢;exact .inl hx))
 |[],_::_,_,_,_,h,_,_=>h.elim
 |[],[],_::_,_,_,h,_,_=>h.elim
 |_::_,[],_,_,_,h,_,_=>h.elim
 |_::_,_::_,[],_,_,h,_,_=>h.elim
theorem Af9{T:TypeId->Prop}(K:Kids P T)(hsz:∀{t e:TypeId},T t->P.underlying t=some (.slice e)->0<P.cellsOf e){f:Func}{s:ChangeSpec}{apart fresh handsOn again:Bool}{W W':World}{args:Array Value}{ds gs:List (DataW D)}{before:List MemPlace}{tb:TypeId}
  (hT:∀t∈f.params.toList,T t) (hW:DataW.Whole enc P f.params.toList s.vars apart W args.toList ds gs before) (hv:s.vars=[]) (hr:f.resultTypes=#[tb]) (hb:P.underlying tb=some .bool)
  (h1:(s.fn D ds).results=[.lit (.bool true)]) (h2:(s.fn D ds).args=ds) (h3:(s.fn D ds).vars=[]) (hs:Nd0 W W') :
  s.post enc P f apart fresh handsOn again W args (.bool true) W':=by
 have hlt:=hW.lt;obtain⟨pa,pv,hA,hV,hps,hz,hn⟩:=id hW;rw[hv] at hV;have hpv:gs=[]/\pv=[]:=by
  cases gs with
  |nil=>exact⟨rfl,hV⟩
  |cons=>exact hV.elim
 obtain⟨rfl,rfl⟩:=hpv;rw[<- List.append_nil ds] at h1 h3;have h2:(s.fn D (ds++[])).args=ds:=by rw[List.append_nil];exact h2
 have hpa:before=pa:=by rw[hps];simp
 subst hpa;have hagain:∀sp:Nat->Bool,(∀p∈before,sp p.block=true)->DataW.TrodAll enc P W' 0 sp true f.params.toList args.toList ds before:=λsp h=>Pc4 K hsz hs hT hA hlt h
 have hres:∀(b:Nat) (sp:Nat->Bool) (hd:Bool),DataW.TrodAll enc P W' b sp hd f.resultTypes.toList ((Value.bool true).resultList f.resultTypes.size) [.lit (.bool true)] []:=λb sp hd=>by
  rw[hr];exact⟨[],[],⟨1,by simp[DataW.trod,hb,Value.cells,Value.resultList]⟩,rfl,rfl⟩
 have hvars:∀sp:Nat->Bool,DataW.TrodVars enc P W' sp s.vars ([]:List (DataW D)) []:=λsp=>by rw[hv];exact rfl
 have hok:∀(j:Nat) (t:TypeId) (r:Value),f.resultTypes[j]?=some t->((Value.bool true).resultList f.resultTypes.size)[j]?=some r->Value.okWide P W' .any 0 t r:=by
  rw[hr];intro j t r h4 h5;cases j with
  |zero =>
   simp at h4
   subst h4
   have:r=.bool true:=by simpa [Value.resultList] using h5.symm
   subst this;exact okWide_bool_mk hb _
  |succ j=>simp at h4
 have hag:DataW.TrodAll enc P W' 0 (λ_=>true) true (f.resultTypes.toList++f.params.toList) ((Value.bool true).resultList f.resultTypes.size++args.toList) (.lit (.bool true)::ds) before:=by
  have:=hagain (λ_=>true) (λ_ _=>rfl)
  rw[hr];exact⟨[],before,⟨1,by simp[DataW.trod,hb,Value.cells,Value.resultList]⟩,this,rfl⟩
 refine⟨ds,[],before,[],before,[],hW,?_,?_,?_,hs.kept _,λ_=>?_⟩
 ·rw[h1];exact hres _ _ _
 ·grind
 ·rw[h3];exact hvars _
 ·refine⟨hok,.lit (.bool true)::ds,[],before,⟨before,[],hag,hvars _,by simp,?_,?_⟩,?_⟩
  ·intro b off hp;rw[hs.frozen b off (hlt _ hp)];exact hz b off (by simpa using hp)
  ·omega
  ·intro p hp _;exact hp
variable{w:World}{base:Nat}{spare:Nat->Bool}{held:Bool}
def qe4(w:World):Fz:=λb o=>(w.cell? ⟨b,o,none⟩).isSome
theorem eg7{fuel:Nat}{t:TypeId}{k:IntKind}{cs:List Value}{x:DataW D×List MemPlace}(ht:P.underlying t=some (.int k))(h:DataW.trod enc P w base spare held fuel t cs=some x) :
  ∃n,cs=[.int k n]/\(Lit.int k n).wf=true/\x.1=.lit (.int k n):=by
 cases fuel with
 |zero=>cases h
 |succ fuel =>
  match cs,h with
  |[],h=>simp[DataW.trod,ht] at h
  |[v],h =>
   cases v with
   |int k' n =>
    simp only[DataW.trod,ht] at h
    grind
   |_=>simp[DataW.trod,ht] at h
  |a::b::r,h=>simp[DataW.trod,ht] at h
theorem Pf0{fuel:Nat}{t:TypeId}{cs:List Value}{x:DataW D×List MemPlace}(ht:P.underlying t=some .bool)(h:DataW.trod enc P w base spare held fuel t cs=some x) :
  ∃n,cs=[.bool n]/\x.1=.lit (.bool n):=by
 cases fuel with
 |zero=>cases h
 |succ fuel =>
  match cs,h with
  |[],h=>simp[DataW.trod,ht] at h
  |[v],h =>
   cases v with
   |bool n =>
    simp only[DataW.trod,ht] at h
    grind
   |_=>simp[DataW.trod,ht] at h
  |a::b::r,h=>simp[DataW.trod,ht] at h
theorem Fe4{fuel:Nat}{t e:TypeId}{n:Nat}{cs:List Value}{x:DataW D×List MemPlace}(ht:P.underlying t=some (.array n e))(h:DataW.trod enc P w base spare held fuel t cs=some x) :
  cs.length=P.cellsOf t/\∃(fuel':Nat) (xs:List (DataW D×List MemPlace)),xs.length=n/\x.1=.agg (xs.map (·.1))/\∀(j:Nat) y,xs[j]?=some y->DataW.trod enc P w base spare held fuel' e ((cs.drop (j*P.cellsOf e)).take (P.cellsOf e))=some y:=by
 cases fuel with
 |zero=>cases h
 |succ fuel =>
  unfold DataW.trod at h;rw[ht] at h
  simp only at h
  split at h
  ·rename_i hl;obtain⟨xs,h1,h2⟩:=Qjy.1 h;have hx:=Cc6 h1;exact⟨hl,fuel,xs,by simpa using hx.1,by rw[<- h2],λj y hy=>by
    obtain⟨a,ha,hb⟩:=hx.2 j y hy
    have:j<n:=by
     have:=(List.getElem?_eq_some_iff.1 hy).1
     rw[hx.1] at this;simpa using this
    rw[Qjz this] at ha;injection ha with ha;subst ha;exact hb⟩
  ·cases h
theorem od0{fuel:Nat}{t:TypeId}{fs:Array Field}{cs:List Value}{x:DataW D×List MemPlace}(ht:P.underlying t=some (.struct fs))(h:DataW.trod enc P w base spare held fuel t cs=some x) :
  cs.length=P.cellsOf t/\∃(fuel':Nat) (xs:List (DataW D×List MemPlace)),xs.length=fs.size/\x.1=.agg (xs.map (·.1))/\∀(j:Nat) f,fs[j]?=some f->∃y,xs[j]?=some y/\DataW.trod enc P w base spare held fuel' f.type ((cs.drop f.offset).take (P.cellsOf f.type))=some y:=by
 cases fuel with
 |zero=>cases h
 |succ fuel =>
  unfold DataW.trod at h;rw[ht] at h
  simp only at h
  split at h
  ·rename_i hl;obtain⟨xs,h1,h2⟩:=Qjy.1 h;have hx:=Cc6 h1;refine⟨hl,fuel,xs,by simpa using hx.1,by rw[<- h2],λj f hf=>?_⟩
   grind
  ·cases h
theorem Bf0{fuel:Nat}{t e:TypeId}{cs:List Value}{x:DataW D×List MemPlace}(ht:P.underlying t=some (.slice e))(h:DataW.trod enc P w base spare held fuel t cs=some x) :
  cs=[.slice none 0 0]\/∃(a:Addr) (n cap fuel':Nat),cs=[.slice (some a) n cap]/\n<=cap/\cap<=maxLen/\∀j,j<n->∃row y,w.cells? base (a.add (j*P.cellsOf e)) (P.cellsOf e)=some row/\DataW.trod enc P w base spare held fuel' e row=some y:=by
 cases fuel with
 |zero=>cases h
 |succ fuel =>
  match cs,h with
  |[],h=>simp[DataW.trod,ht] at h
  |[v],h =>
   cases v with
   |slice a len cap =>
    cases a with
    |none =>
     simp only[DataW.trod,ht] at h
     grind
    |some a =>
     refine .inr ?_;simp only[DataW.trod,ht] at h
     split at h
     ·rename_i hc;obtain⟨elems,h1,h2⟩:=Qji.1 h;have hx:=Cc6 h1;refine⟨a,len,cap,fuel,rfl,hc.2.1,hc.2.2,λj hj=>?_⟩
      have hj':j<elems.length:=by rw[hx.1];simpa using hj
      obtain⟨i,hi,hb⟩:=hx.2 j _ (Qjt hj');rw[Qjz hj] at hi;injection hi with hi;subst hi;obtain⟨row,r1,r2⟩:=Qji.1 hb;exact⟨row,_,r1,r2⟩
     ·cases h
   |_=>simp[DataW.trod,ht] at h
  |a::b::r,h=>simp[DataW.trod,ht] at h
theorem af3:∀(d:Nat) (t:TypeId) (l:List (Nat×CK)),ma8 P d t=some l->∀(fuel:Nat) (cs:List Value) (x:DataW D×List MemPlace),DataW.trod enc P w base spare held fuel t cs=some x->∀p∈l,Za8 cs.toArray p
 |0,_,_,h,_,_,_,_=>by cases h
 |d+1,t,l,h,fuel,cs,x,hx=>by
  have hpart:∀{off n:Nat} {e:TypeId} {l':List (Nat×CK)} {fuel':Nat} {y:DataW D×List MemPlace},wc7 off n (ma8 P d e)=some l'->DataW.trod enc P w base spare held fuel' e ((cs.drop off).take n)=some y->∀p∈l',Za8 cs.toArray p:=λ{off n e l' fuel' y} h1 h2 p hp=>by
   obtain⟨l2,g1,g2,rfl⟩:=jb4 h1;obtain⟨q,hq,rfl⟩:=List.mem_map.1 hp
   have:=af3 d e l2 g1 fuel' _ y h2 q hq
   have hlt:=g2 q hq;unfold Za8 at this ⊢;simp only[List.getElem?_toArray,List.getElem?_take,hlt,if_true,List.getElem?_drop] at this ⊢;exact this
  have hcat:∀{α:Type} (f:α->Option (List (Nat×CK))) (xs:List α) (l:List (Nat×CK)),Da5 (xs.map f)=some l->∀p∈l,∃a∈xs,∃l',f a=some l'/\p∈l':=λ{α} f xs=>by
   induction xs with
   |nil=>intro l h;simp only[List.map_nil,Da5] at h;injection h with h;subst h;simp
   |cons a xs ih =>
    intro l h p hp;simp only[List.map_cons,Da5] at h;cases h1:f a with
    |none=>simp[h1] at h
    |some l1 =>
    cases h2:Da5 (xs.map f) with
    |none=>simp[h1,h2] at h
    |some l2 =>
    simp only[h1,h2] at h;injection h with h;subst h
    rcases Qjg.1 hp with hp|hp
    ·exact⟨a,by simp,l1,h1,hp⟩
    ·obtain⟨b,hb,r⟩:=ih l2 h2 p hp;exact⟨b,by simp[hb],r⟩
  unfold ma8 at h;cases hu:P.underlying t with
  |none=>simp[hu] at h
  |some u =>
  cases u with
  |int k =>
   simp only[hu] at h;injection h with h;subst h
   obtain⟨n,rfl,_,_⟩:=eg7 hu hx;intro p hp;simp at hp;subst hp;exact⟨n,rfl⟩
  |bool =>
   simp only[hu] at h;injection h with h;subst h
   obtain⟨n,rfl,_⟩:=Pf0 hu hx;intro p hp;simp at hp;subst hp;exact⟨n,rfl⟩
  |struct fs =>
   simp only[hu] at h
   split at h
   ·cases h
   obtain⟨_,fuel',xs,_,_,hxs⟩:=od0 hu hx;intro p hp;obtain⟨f,hf,l',h1,h2⟩:=hcat _ _ _ h p hp
   split at h1
   ·cases h1
   obtain⟨j,hj⟩:=List.getElem?_of_mem hf;obtain⟨y,_,hy⟩:=hxs j f (by simpa using hj)
   have hc:P.cellsOf f.type=szT P f.type:=by
    unfold Program.cellsOf szT
    grind
   grind
  |array n e =>
   simp only[hu] at h
   split at h
   case isFalse=>cases h
   obtain⟨_,fuel',xs,hn,_,hxs⟩:=Fe4 hu hx;intro p hp;obtain⟨j,hj,l',h1,h2⟩:=hcat _ _ _ h p hp;have hj':j<xs.length:=by rw[hn];simpa using hj
   have hy:=hxs j _ (Qjt hj');have hc:P.cellsOf e=szT P e:=by
    unfold Program.cellsOf szT;cases P.info? e<;>rfl
   grind
  |_=>simp[hu] at h
def Cc7(k:IntKind)(es:Nat)(g:Nat->Int):List d7:=(List.range es).map λc=>.v (.int k (g c))
def Ra9(k:IntKind)(es:Nat):List (Nat×CK):=(List.range es).map λc=>(c,.int k)
theorem af4{d:Nat}{t:TypeId}{k:IntKind}{es:Nat}(hf:ma8 P d t=some (Ra9 k es)){fuel:Nat}{cs:List Value}{x:DataW D×List MemPlace}(hx:DataW.trod enc P w base spare held fuel t cs=some x)(hl:cs.length=es) :
  ∃g:Nat->Int,∀c,c<es->cs[c]?=some (.int k (g c)):=by
 have h:=af3 d t _ hf fuel cs x hx;have h':∀c,∃n:Int,c<es->cs[c]?=some (.int k n):=λc=>by
  by_cases hc:c<es
  ·have:=h (c,.int k) (List.mem_map.2 ⟨c,by simpa using hc,rfl⟩)
   obtain⟨n,hn⟩:=this;exact⟨n,λ_=>by simpa using hn⟩
  ·exact⟨0,λh=>absurd h hc⟩
 exact⟨λc=>Classical.choose (h' c),λc hc=>Classical.choose_spec (h' c) hc⟩
theorem Fe5{F:Fz}{w:World}(k:IntKind)(n:Int):la5 F w (.v (.int k n)) (.int k n):=.v _ rfl
theorem Nd1{k:IntKind}{es:Nat}{g:Nat->Int}{c:Nat}{x:d7}(h:(Cc7 k es g)[c]?=some x):c<es/\x=.v (.int k (g c)):=by
 unfold Cc7 at h
 grind
theorem lf3(w:World):I0 (λk=>w.heap.size<=k) (λ_=>⟨0,0,0⟩) [] (qe4 w) w :=
 ⟨λid b h=>by simp at h,λid id' b b' h=>by simp at h,λ_ _ h=>h,λ_ h=>h⟩
theorem lf4{G:Nat->List Value}{f:FuncId}{S:Sum}(hS:j6 P G f S){aargs:List d7}{args:List Value}(hrun:∃out,(S aargs []).run=some (b true,out))(hl:aargs.length=args.length)
  (ha:∀(i:Nat) x x',aargs[i]?=some x->args[i]?=some x'->ta1 (λ_=>⟨0,0,0⟩) [] (qe4 w) w x x') (hG:∀g (c:Nat) x,(G g)[c]?=some x->x.oneCell'=true/\w.cell? ⟨g,c,none⟩=some x) :
  Calls P f args.toArray w λe w'=>e=.returned (.bool true)/\Nd0 w w':=by
 obtain⟨out,hrun⟩:=hrun;obtain⟨_,hc⟩:=hS aargs [] (b true) out hrun (λk=>w.heap.size<=k) (λ_=>⟨0,0,0⟩) (qe4 w) w args (lf3 w) hl (λi x x' h1 h2=>.val (ha i x x' h1 h2)) (λg c x hx=>by
  obtain⟨h1,h2⟩:=hG g c x hx;exact⟨h1,by unfold qe4;rw[h2];rfl,h2⟩)
 refine hc.mono λe w' ⟨r',he,ρ',F',hA,hH,hW⟩=>?_
 have:=ia8 hW
 subst this;exact⟨he,hA.ext.os,hA.ext.output,hA.ext.size,λk hk=>hA.ext.block k hk (by omega)⟩
end
end Go.Ev
namespace Go.Ev.L
open Go Go.Ev
def Rdg{α:Type}(c:Cod α)(x:d7)(a:α):Prop:=c.dec x=some a/\c.grd x=true
section
variable{α β γ δ ε:Type}{c:Cod α}{d:Cod β}{e:Cod γ}{f:Cod δ}{c5:Cod ε}{x y z w v:d7}{a:α}{b':β}{g:γ}{j:δ}{m:ε}{r:d7×List d8}
theorem Ag2{k:α->β->DT (d7×List d8)}(h1:Rdg c x a)(h2:Rdg d y b')(h:(k a b').run=some r):(ta3 c d k [x,y] []).run=some r:=by
 unfold ta3;simp only[h1.1,h1.2,h2.1,h2.2];exact h
end
theorem eg8{g p:Bool}(hg:g=true)(hp:p=true):(DT.guard g (.ret ((one r1B).enc p,([]:List d8)))).run=some (b true,([]:List d8)):=by subst hg;subst hp;rfl
def pg1:Value->ByteArray
 |.string s=>s
 |_=>⟨#[]⟩
def Cb1(H H':List d8):Prop:=∀id g,(blkAt H id g).map (λb=>(b.es,b.elems))=(blkAt H' id g).map (λb=>(b.es,b.elems))
theorem Cb1.refl(H:List d8):Cb1 H H:=λ_ _=>rfl
theorem Cb1.disown(H:List d8)(id:Nat):Cb1 (disown H id) H:=λj g=>by
 rw[Zc6];cases blkAt H j g with
 |none=>rfl
 |some b =>
  grind
theorem Cb1.trans{H1 H2 H3:List d8}(h:Cb1 H1 H2)(k:Cb1 H2 H3):Cb1 H1 H3:=λid g=>(h id g).trans (k id g)
theorem Cb1.symm{H1 H2:List d8}(h:Cb1 H1 H2):Cb1 H2 H1:=λid g=>(h id g).symm
theorem yd7{H H':List d8}(h:Cb1 H H')(x:d7):(freezeCell H x).map (·.1)=(freezeCell H' x).map (·.1)/\∀y H1 H1',freezeCell H x=some (y,H1)->freezeCell H' x=some (y,H1')->Cb1 H1 H1':=by
 cases x with
 |v u =>
  simp only[freezeCell]
  grind
 |tree es n get =>
  refine⟨rfl,λy H1 H1' e e'=>?_⟩
  injection e with e;injection e with _ e;injection e' with e';injection e' with _ e'
  subst e e';exact h
 |fn f caps =>
  simp only[freezeCell]
  grind
 |sl id off n g =>
  simp only[freezeCell];have hb:=h id g;cases h1:blkAt H id g with
  |none =>
   grind
  |some b =>
   cases h2:blkAt H' id g with
   |none=>rw[h1,h2] at hb;cases hb
   |some b' =>
    rw[h1,h2] at hb;simp only[Option.map_some] at hb;injection hb with hb;injection hb with e1 e2
    refine⟨by simp only[Option.map_some,ic5,e1,e2],λy H1 H1' e e'=>?_⟩
    injection e with e;injection e with _ e;injection e' with e';injection e' with _ e'
    subst e e';exact (Cb1.disown H id).trans (h.trans (Cb1.disown H' id).symm)
 |_=>exact⟨rfl,λy H1 H1' e=>by cases e⟩
theorem gc5:∀(cs:List d7) {H H':List d8},Cb1 H H'->(freezeCells H cs).map (·.1)=(freezeCells H' cs).map (·.1)
 |[],H,H',h=>rfl
 |x::r,H,H',h=>by
  obtain⟨h1,h2⟩:=yd7 h x;simp only[freezeCells];cases e1:freezeCell H x with
  |none =>
   grind
  |some p =>
   cases e2:freezeCell H' x with
   |none=>rw[e1,e2] at h1;cases h1
   |some q =>
    rw[e1,e2] at h1;obtain⟨y,H1⟩:=p;obtain⟨y',H1'⟩:=q;simp only[Option.map_some] at h1;injection h1 with h1;subst h1
    have:=gc5 r (h2 _ _ _ e1 e2)
    grind
theorem Nd2{H H':List d8}{x y:d7}(h:freezeCell H x=some (y,H')):Dis H H':=by
 cases x with
 |v u =>
  simp only[freezeCell] at h;cases hu:vd2 u with
  |true=>rw[hu] at h;injection h with h;injection h with _ h;subst h;exact .refl
  |false=>rw[hu] at h;cases h
 |tree es n get=>injection h with h;injection h with _ h;subst h;exact .refl
 |fn f caps =>
  simp only[freezeCell] at h;cases hu:Za4 Wc7 caps with
  |true=>rw[hu] at h;injection h with h;injection h with _ h;subst h;exact .refl
  |false=>rw[hu] at h;cases h
 |sl id off n g =>
  simp only[freezeCell] at h;cases h1:blkAt H id g with
  |none=>rw[h1] at h;cases h
  |some b=>rw[h1] at h;injection h with h;injection h with _ h;subst h;exact .step id .refl
 |_=>cases h
theorem Dis.app{H H1 H2:List d8}(h:Dis H H1)(k:Dis H1 H2):Dis H H2:=by
 induction k with
 |refl=>exact h
 |step id _ ih=>exact .step id ih
theorem sc6:∀{cs l:List d7} {H H':List d8},freezeCells H cs=some (l,H')->Dis H H'
 |[],l,H,H',h=>by
  injection h with h;injection h with _ h;subst h;exact .refl
 |x::r,l,H,H',h=>by
  simp only[freezeCells] at h;cases e1:freezeCell H x with
  |none=>rw[e1] at h;cases h
  |some p =>
   obtain⟨y,H1⟩:=p;rw[e1] at h
   simp only at h
   cases e2:freezeCells H1 r with
   |none=>rw[e2] at h;cases h
   |some q =>
    obtain⟨l2,H2⟩:=q;rw[e2] at h
    simp only at h
    injection h with h;injection h with _ h;subst h
    exact (Nd2 e1).app (sc6 e2)
section
variable{α:Type}(t:Ty α)
def r1S:R1 α where
 enc x:=.agg (t.row x)
 rd H x:=match x with
  |.agg cs=>Option.rec (motive:=λ_=>Option α) none (λp=>Bool.rec (motive:=λ_=>Option α) none (some (t.rd p)) (t.ok p)) ((freezeCells H cs).map (·.1))
  |_=>none
 d:=t.d
 le H x r h:=by
  split at h
  ·rename_i cs;cases hf:freezeCells H cs with
   |none=>rw[hf] at h;cases h
   |some q =>
    obtain⟨l,H'⟩:=q;rw[hf] at h;simp only[Option.map_some] at h;cases hb:t.ok l with
    |false=>rw[hb] at h;cases h
    |true =>
     rw[hb] at h;have h:some (t.rd l)=some r:=h;injection h with h;subst h;have h3:=t.h3 l hb;refine⟨.agg l,H',by simp only[Ka1,hf],sc6 hf,λρ' H2 F w v hv=>?_⟩
     obtain⟨vs,rfl,hl,hr⟩:=Ka0 (.val hv);refine .agg _ _ (by rw[<- h3.length];exact hl) λi y v' hy hv'=>?_
     obtain⟨x,hx,hle⟩:=h3.get i y hy;exact hle.c _ _ _ _ _ (hr i x v' hx hv')
  ·cases h
 dis H id x:=by
  cases x with
  |agg cs=>simp only[gc5 cs (Cb1.disown H id)]
  |_=>rfl
def cG:Cod ByteArray where
 enc s:=.v (.string s)
 dec x:=match x with
  |.v (.string s)=>some s
  |_=>none
 grd _:=true
 ok x a hx _:=by
  split at hx
  ·injection hx with hx;subst hx;exact λ_ _ _ _ _ h=>h
  ·cases hx
def Nd3(es:Nat):d7->Bool
 |.tree e _ _=>Nat.beq e es
 |.v (.slice none 0 0)=>true
 |_=>false
def eg9(sh:List d7->Bool):Cod α where
 enc x:=.agg (t.row x)
 dec x:=match x with
  |.agg cs=>Bool.rec (motive:=λ_=>Option α) none (some (t.rd cs)) (sh cs)
  |_=>none
 grd x:=match x with
  |.agg cs=>t.ok cs
  |_=>false
 ok x a hx hg:=by
  split at hx
  ·rename_i cs;cases hb:sh cs with
   |false=>rw[hb] at hx;cases hx
   |true =>
    rw[hb] at hx;have hx:some (t.rd cs)=some a:=hx;injection hx with hx;subst hx;have h3:=t.h3 cs hg;intro ρ H F w v hv;obtain⟨vs,rfl,hl,hr⟩:=Ka0 hv;refine .val (.agg _ _ (by rw[<- h3.length];exact hl) λi y v' hy hv'=>?_)
    obtain⟨x,hx,hle⟩:=h3.get i y hy;exact hle.c _ _ _ _ _ (hr i x v' hx hv')
  ·cases hx
end
end Go.Ev.L
namespace Go.Ev.Ce
open Go Go.Ev Go.Ev.L Go.Proofs
theorem hd1{x y:d7}(h:yc2 [x] [y]):CLe x y:=by cases h with | cons h _=>exact h
structure Prt where
 nm:ByteArray
 cl:LPq
 wt:List Int
def af5:List d7->Bool
 |[.v (.string _),x1,x2]=>Bool.and (tMq.ok [x1]) (Bool.and ((tLs tI).ok [x2]) (true))
 |_=>false
def tJ:Ty Prt where
 es:=3
 row x:=[.v (.string x.nm),eL tLq x.cl,eL tI x.wt]
 rd r:=⟨pg1 (toV (hdA r)),rL tLq (hdA (tlA r)),rL tI (hdA (tlA (tlA r)))⟩
 ok:=af5
 cks:=[.any,.sl 1,.sl 1]
 d:=⟨⟨#[]⟩,[],[]⟩
 h0 _:=rfl
 h1 x:=by
  show Prt.mk x.nm (rL tLq (eL tLq x.cl)) (rL tI (eL tI x.wt))=x;rw[show rL tLq (eL tLq x.cl)=x.cl from j8 tLq x.cl,show rL tI (eL tI x.wt)=x.wt from j8 tI x.wt]
 h2 x:=by
  show Bool.and (tMq.ok (tMq.row x.cl)) (Bool.and ((tLs tI).ok ((tLs tI).row x.wt)) (true))=true;rw[tMq.h2 x.cl,(tLs tI).h2 x.wt];rfl
 h3 r h:=by
  unfold af5 at h
  split at h
  ·rename_i _ x1 x2;simp only[Qjn] at h;obtain⟨h1,h2,_⟩:=h;have c1:=tMq.h3 _ h1;have c2:=(tLs tI).h3 _ h2;exact .cons (.refl _) (.cons (hd1 c1) (.cons (hd1 c2) (.nil)))
  ·cases h
 h4 _:=rfl
 h5 _:=rfl
def r1J:R1 Prt:=r1S tJ
structure Pce where
 su:List Bool
 to:List Bool
 cu:LPq
def Wf9:List d7->Bool
 |[x0,x1,x2]=>Bool.and ((tLs tB).ok [x0]) (Bool.and ((tLs tB).ok [x1]) (Bool.and (tMq.ok [x2]) (true)))
 |_=>false
def tO:Ty Pce where
 es:=3
 row x:=[eL tB x.su,eL tB x.to,eL tLq x.cu]
 rd r:=⟨rL tB (hdA r),rL tB (hdA (tlA r)),rL tLq (hdA (tlA (tlA r)))⟩
 ok:=Wf9
 cks:=[.sl 1,.sl 1,.sl 1]
 d:=⟨[],[],[]⟩
 h0 _:=rfl
 h1 x:=by
  show Pce.mk (rL tB (eL tB x.su)) (rL tB (eL tB x.to)) (rL tLq (eL tLq x.cu))=x;rw[show rL tB (eL tB x.su)=x.su from j8 tB x.su,show rL tB (eL tB x.to)=x.to from j8 tB x.to,show rL tLq (eL tLq x.cu)=x.cu from j8 tLq x.cu]
 h2 x:=by
  show Bool.and ((tLs tB).ok ((tLs tB).row x.su)) (Bool.and ((tLs tB).ok ((tLs tB).row x.to)) (Bool.and (tMq.ok (tMq.row x.cu)) (true)))=true;rw[(tLs tB).h2 x.su,(tLs tB).h2 x.to,tMq.h2 x.cu];rfl
 h3 r h:=by
  unfold Wf9 at h
  split at h
  ·rename_i x0 x1 x2;simp only[Qjn] at h;obtain⟨h0,h1,h2,_⟩:=h;have c0:=(tLs tB).h3 _ h0;have c1:=(tLs tB).h3 _ h1;have c2:=tMq.h3 _ h2;exact .cons (hd1 c0) (.cons (hd1 c1) (.cons (hd1 c2) (.nil)))
  ·cases h
 h4 _:=rfl
 h5 _:=rfl
def r1O:R1 Pce:=r1S tO
structure Cse where
 p0:List Int
 p1:List Int
 c0:List (List Int)
 c1:List (List Int)
 t0:List (List Int)
 t1:List (List Int)
 q0:Int
 q1:Int
 q2:Int
 q3:Int
 q4:Int
 q5:Int
def af6:List d7->Bool
 |[x0,x1,x2,x3,x4,x5,.v (.int .i64 _),.v (.int .i64 _),.v (.int .i64 _),.v (.int .i64 _),.v (.int .i64 _),.v (.int .i64 _)]=>Bool.and ((tLs tI).ok [x0]) (Bool.and ((tLs tI).ok [x1]) (Bool.and ((tLs (tLs tI)).ok [x2]) (Bool.and ((tLs (tLs tI)).ok [x3]) (Bool.and ((tLs (tLs tI)).ok [x4]) (Bool.and ((tLs (tLs tI)).ok [x5]) (true))))))
 |_=>false
def tF:Ty Cse where
 es:=12
 row x:=[eL tI x.p0,eL tI x.p1,eL (tLs tI) x.c0,eL (tLs tI) x.c1,eL (tLs tI) x.t0,eL (tLs tI) x.t1,i x.q0,i x.q1,i x.q2,i x.q3,i x.q4,i x.q5]
 rd r:=⟨rL tI (hdA r),rL tI (hdA (tlA r)),rL (tLs tI) (hdA (tlA (tlA r))),rL (tLs tI) (hdA (tlA (tlA (tlA r)))),rL (tLs tI) (hdA (tlA (tlA (tlA (tlA r))))),rL (tLs tI) (hdA (tlA (tlA (tlA (tlA (tlA r)))))),toI (hdA (tlA (tlA (tlA (tlA (tlA (tlA r))))))),toI (hdA (tlA (tlA (tlA (tlA (tlA (tlA (tlA r)))))))),toI (hdA (tlA (tlA (tlA (tlA (tlA (tlA (tlA (tlA r))))))))),toI (hdA (tlA (tlA (tlA (tlA (tlA (tlA (tlA (tlA (tlA r)))))))))),toI (hdA (tlA (tlA (tlA (tlA (tlA (tlA (tlA (tlA (tlA (tlA r))))))))))),toI (hdA (tlA (tlA (tlA (tlA (tlA (tlA (tlA (tlA (tlA (tlA (tlA r))))))))))))⟩
 ok:=af6
 cks:=[.sl 1,.sl 1,.sl 1,.sl 1,.sl 1,.sl 1,.int .i64,.int .i64,.int .i64,.int .i64,.int .i64,.int .i64]
 d:=⟨[],[],[],[],[],[],0,0,0,0,0,0⟩
 h0 _:=rfl
 h1 x:=by
  show Cse.mk (rL tI (eL tI x.p0)) (rL tI (eL tI x.p1)) (rL (tLs tI) (eL (tLs tI) x.c0)) (rL (tLs tI) (eL (tLs tI) x.c1)) (rL (tLs tI) (eL (tLs tI) x.t0)) (rL (tLs tI) (eL (tLs tI) x.t1)) x.q0 x.q1 x.q2 x.q3 x.q4 x.q5=x;rw[show rL tI (eL tI x.p0)=x.p0 from j8 tI x.p0,show rL tI (eL tI x.p1)=x.p1 from j8 tI x.p1,show rL (tLs tI) (eL (tLs tI) x.c0)=x.c0 from j8 (tLs tI) x.c0,show rL (tLs tI) (eL (tLs tI) x.c1)=x.c1 from j8 (tLs tI) x.c1,show rL (tLs tI) (eL (tLs tI) x.t0)=x.t0 from j8 (tLs tI) x.t0,show rL (tLs tI) (eL (tLs tI) x.t1)=x.t1 from j8 (tLs tI) x.t1]
 h2 x:=by
  show Bool.and ((tLs tI).ok ((tLs tI).row x.p0)) (Bool.and ((tLs tI).ok ((tLs tI).row x.p1)) (Bool.and ((tLs (tLs tI)).ok ((tLs (tLs tI)).row x.c0)) (Bool.and ((tLs (tLs tI)).ok ((tLs (tLs tI)).row x.c1)) (Bool.and ((tLs (tLs tI)).ok ((tLs (tLs tI)).row x.t0)) (Bool.and ((tLs (tLs tI)).ok ((tLs (tLs tI)).row x.t1)) (true))))))=true;rw[(tLs tI).h2 x.p0,(tLs tI).h2 x.p1,(tLs (tLs tI)).h2 x.c0,(tLs (tLs tI)).h2 x.c1,(tLs (tLs tI)).h2 x.t0,(tLs (tLs tI)).h2 x.t1];rfl
 h3 r h:=by
  unfold af6 at h
  split at h
  ·rename_i x0 x1 x2 x3 x4 x5 _ _ _ _ _ _;simp only[Qjn] at h;obtain⟨h0,h1,h2,h3,h4,h5,_⟩:=h;have c0:=(tLs tI).h3 _ h0;have c1:=(tLs tI).h3 _ h1;have c2:=(tLs (tLs tI)).h3 _ h2;have c3:=(tLs (tLs tI)).h3 _ h3;have c4:=(tLs (tLs tI)).h3 _ h4;have c5:=(tLs (tLs tI)).h3 _ h5;exact .cons (hd1 c0) (.cons (hd1 c1) (.cons (hd1 c2) (.cons (hd1 c3) (.cons (hd1 c4) (.cons (hd1 c5) (.cons (.refl _) (.cons (.refl _) (.cons (.refl _) (.cons (.refl _) (.cons (.refl _) (.cons (.refl _) (.nil))))))))))))
  ·cases h
 h4 _:=rfl
 h5 _:=rfl
def af7:List d7->Bool
 |[.v (.string _),x1,x2]=>Bool.and (Nd3 1 x1) (Bool.and (Nd3 1 x2) (true))
 |_=>false
def cJ:Cod Prt:=eg9 tJ af7
def pg2:List d7->Bool
 |[x0,x1,x2]=>Bool.and (Nd3 1 x0) (Bool.and (Nd3 1 x1) (Bool.and (Nd3 1 x2) (true)))
 |_=>false
def cO:Cod Pce:=eg9 tO pg2
def af8:List d7->Bool
 |[x0,x1,x2,x3,x4,x5,.v (.int .i64 _),.v (.int .i64 _),.v (.int .i64 _),.v (.int .i64 _),.v (.int .i64 _),.v (.int .i64 _)]=>Bool.and (Nd3 1 x0) (Bool.and (Nd3 1 x1) (Bool.and (Nd3 1 x2) (Bool.and (Nd3 1 x3) (Bool.and (Nd3 1 x4) (Bool.and (Nd3 1 x5) (true))))))
 |_=>false
def cF:Cod Cse:=eg9 tF af8
structure LL where
 u:List Int
 v:List Int
structure L2 where
 u:List Int
 v:List Int
def c2L:Cod L2 where
 enc z:=eL (tLs tI) [z.u,z.v]
 dec x:=match (na2 (tLs tI)).dec x with
  |some [u,v]=>some ⟨u,v⟩
  |_=>none
 grd x:=(na2 (tLs tI)).grd x
 ok x a hx hg:=by
  split at hx
  ·rename_i u v h;injection hx with hx;subst hx;exact (na2 (tLs tI)).ok x [u,v] h hg
  ·cases hx
set_option maxRecDepth 100000
def od3:List (Nat×Sum):=[]
theorem dd9:j9 prog G od3:=trivial
def Pa4(x:Int):ROq:=(sl (decide (x<1)) (some (b true,[])) (some (b (decide (x>3)),[])))
def hb9(x:Int):Bool:=V2 (one r1B) (Pa4 x)
def ib0(x:Int):Bool:=okO (one r1B) (Pa4 x)
def sc7:Sum:=ca1 cI (λx=>.guard (ib0 x) (.ret ((one r1B).enc (hb9 x),[])))
theorem od4:j6 prog G 37 sc7:=ab0 (bd b37 dd9) (one r1B) (o:=Pa4) λx=>B6 (by kernel_rfl)
structure pa9 where
 ic3:List Int
def fb5:List (Nat×Sum):=[(37,sc7)]
theorem Tb7:j9 prog G fb5:=⟨od4,trivial⟩
structure X6 where
 ic3:List Int
 is7:Int
structure C3 where
 is8:Int
def Xa3(p:X6)(s:C3):St:=⟨eL tI p.ic3::.fn 37 []::ra 5 (i p.is7::i s.is8::ra 10 []),[]⟩
def T5{α:Type}(k:C3->α)(e:Nat->α)(z:α)(p:X6)(s:C3):α:=let t1:=(hb9 (gL tI p.ic3 s.is8.toNat));(sl (decide (s.is8<p.is7)) (sl (inB s.is8 (List.length p.ic3)) (sl (ib0 (gL tI p.ic3 s.is8.toNat)) (sl t1 (e 1) (k ⟨W (s.is8+1)⟩)) z) z) (e 2))
def U8(p:X6)(s:C3):Stp C3:=T5 .next .exit .fail p s
def za5:Lo X6 C3:=⟨En fb5,0,lg3,[1,0,1,4,4],[0,1,7,8],.p,[⟨sLq tI::.s (.o (.fn 37))::ru2 5 (sIq::sIq::ru2 10 []),[],λa H=>(⟨aLq tI a 0,aIq a 7⟩,⟨aIq a 8⟩)⟩],U8,[(none,λp s=>⟨[i s.is8],[]⟩),(some 0,λp s=>upq (Xa3 p s) [(9,b (decide (s.is8<p.is7)))])],Xa3⟩
theorem Qb2:za5.Ok:=Lo.ok [] (by kernel_rfl) .nil rfl (.cons (λa H=>by kernel_rfl) .nil) λp s=>(.of @T5 (λF _ _ _ _ _=>by unfold T5;(repeat' apply k8 (f:=F))<;>rfl) (by kernel_rfl))
structure qa0 where
 alt:Nat
 is0:Int
def U2{α:Type}(kk:qa0->α)(x:pa9):α:=let t1:=(lp (U8 (⟨rt tI x.ic3,(↑(List.length x.ic3):Int)⟩:X6)) (⟨0⟩:C3));(sl ((cnE tI x.ic3)&&true) (sl (Nat.beq t1.1 1) (kk ⟨1,t1.2.is8⟩) (sl (Nat.beq t1.1 2) (kk ⟨1,-1⟩) (kk ⟨0,0⟩))) (kk ⟨0,0⟩))
def qa1(x:pa9):qa0:=U2 (λr=>r) x
def Ea4(x:pa9)(r:qa0):DT (d7×List d8):=(.ite (Nat.beq r.alt 1) (.ret (i r.is0,[])) .fail)
theorem gc6{α β:Type}(F:α->β)(kk:qa0->α)(x:pa9):F (U2 kk x)=U2 (λr=>F (kk r)) x:=by unfold U2;(repeat' apply k8 (f:=F))<;>rfl
def kb6:Sum:=Sa0 ⟨[sLq tI,.s (.o (.fn 37))],[],λa H=>(⟨aLq tI a 0⟩,())⟩ (λx=>Ea4 x (qa1 x))
theorem bc4:j6 prog G 69 kb6:=I1 (enc:=λx=>⟨[eL tI x.ic3,.fn 37 []],[]⟩) (λa H=>by kernel_rfl) (bd b69 Tb7) λx=>Ga2 (.s .p (.s (.s .p (.b (.u za5.ls))) .p)) [za5.pr] (by kernel_rfl) (.cons Qb2 .nil) (Qjh (b:=U2 (λr=>(Ea4 x r).run) x) (by kernel_rfl) (gc6 (λr=>(Ea4 x r).run) (λr=>r) x).symm)
structure ga6 where
 ic3:List Int
def Kb1:List (Nat×Sum):=[(69,kb6)]
theorem Gb3:j9 prog G Kb1:=⟨bc4,trivial⟩
structure ga7 where
 alt:Nat
 bs0:Bool
def M8{α:Type}(kk:ga7->α)(x:ga6):α:=let t1:=(qa1 ⟨rt tI x.ic3⟩);(sl ((cnE tI x.ic3)&&true) (sl (Nat.beq t1.alt 1) (kk ⟨1,decide (t1.is0>=0)⟩) (kk ⟨0,false⟩)) (kk ⟨0,false⟩))
def ga8(x:ga6):ga7:=M8 (λr=>r) x
def va1(x:ga6)(r:ga7):DT (d7×List d8):=(.ite (Nat.beq r.alt 1) (.ret (b r.bs0,[])) .fail)
theorem Qb3{α β:Type}(F:α->β)(kk:ga7->α)(x:ga6):F (M8 kk x)=M8 (λr=>F (kk r)) x:=by unfold M8;(repeat' apply k8 (f:=F))<;>rfl
def Xa4:Sum:=Sa0 ⟨[sLq tI,.s (.o (.fn 37))],[],λa H=>(⟨aLq tI a 0⟩,())⟩ (λx=>va1 x (ga8 x))
theorem Kb2:j6 prog G 38 Xa4:=I1 (enc:=λx=>⟨[eL tI x.ic3,.fn 37 []],[]⟩) (λa H=>by kernel_rfl) (bd b38 Gb3) λx=>B6 (Qjh (b:=M8 (λr=>(va1 x r).run) x) (by kernel_rfl) (Qb3 (λr=>(va1 x r).run) (λr=>r) x).symm)
def Cc8:List (Nat×Sum):=[(38,Xa4),(39,Wa2),(27,zb0)]
theorem yd8:j9 prog G Cc8:=⟨Kb2,ab3,Qb1,trivial⟩
structure Pa5 where
 te0:LPq
 hg9:Int
 K9:ByteArray
 l0:LPq
 u6:List Int
structure ba3 where
 Mc5:Int
def gc7(p:Pa5)(s:ba3):St:=⟨.unk::.ptr 0 0 0 0::ra 28 (eL tLq p.te0::i p.hg9::i s.Mc5::ra 17 []),[⟨0,3,[[.v (.string p.K9),eL tLq p.l0,eL tI p.u6]],true,false,0⟩]⟩
def Ca0{α:Type}(k:ba3->α)(e:Nat->α)(z:α)(p:Pa5)(s:ba3):α:=let y1:=(s.Mc5.toNat-0);let y0:=(gL tLq p.te0 s.Mc5.toNat);let t1:=(Ba4 (rt tP y0));let t2:=(R7 (rt tP y0) (lsL tLq y1 (λk=>(λk=>(tLq).row (gL tLq p.l0 k)) (0+k))));(sl (decide (s.Mc5<p.hg9)) (sl (inB s.Mc5 (List.length p.te0)) (sl (okE tP y0) (sl (Ba5 (rt tP y0)) (sl (!t1) (e 1) (sl (inB s.Mc5 ((List.length p.l0)+1)) (sl (okE tP y0) (sl (okL tLq y1 (λk=>(λk=>(tLq).row (gL tLq p.l0 k)) (0+k))) (sl (Ea3 (rt tP y0) (lsL tLq y1 (λk=>(λk=>(tLq).row (gL tLq p.l0 k)) (0+k)))) (sl (!t2) (e 1) (k ⟨W (s.Mc5+1)⟩)) z) z) z) z)) z) z) z) (e 2))
def va9(p:Pa5)(s:ba3):Stp ba3:=Ca0 .next .exit .fail p s
def Gb4:Lo Pa5 ba3:=⟨En Cc8,0,kg2,[1,1,1,1,0,1,4,4],[1,30,31,32],.p,[⟨sUq::sPq 0::ru2 28 (sLq tLq::sIq::sIq::ru2 17 []),[⟨0,3,true,some [[.o .val,.c 1 (nL tLq),.c 1 (nL tI)]]⟩],λa H=>(⟨aLq tLq a 30,aIq a 31,ca2 (slT (rwT (elT H 0) 0) 0),hLq tLq H 0 0 1,hLq tI H 0 0 2⟩,⟨aIq a 32⟩)⟩],va9,[(none,λp s=>⟨[i 13],[]⟩),(some 1,λp s=>upq (gc7 p s) [(33,b (decide (s.Mc5<p.hg9)))])],gc7⟩
theorem od5:Gb4.Ok:=Lo.ok [] (by kernel_rfl) .nil rfl (.cons (λa H=>by kernel_rfl) .nil) λp s=>(.of @Ca0 (λF _ _ _ _ _=>by unfold Ca0;(repeat' apply k8 (f:=F))<;>rfl) (by kernel_rfl))
def fb6(x:Prt):ROq:=let y0:=(↑(List.length x.cl):Int);let t1:=(ga8 ⟨rt tI x.wt⟩);let t2:=(lp (va9 (⟨rt tLq x.cl,y0,x.nm,rt tLq x.cl,rt tI x.wt⟩:Pa5)) (⟨0⟩:ba3));(sl (y0==0) (some (i 2,[])) (sl (decide (y0>16)) (some (i 2,[])) (sl ((↑(List.length x.wt):Int) != y0) (some (i 1,[])) (sl ((cnE tI x.wt)&&true) (sl (Nat.beq t1.alt 1) (sl t1.bs0 (some (i 1,[])) (sl ((cnE tLq x.cl)&&((cnE tLq x.cl)&&((cnE tI x.wt)&&true))) (sl (Nat.beq t2.1 1) (some (i 13,[])) (sl (Nat.beq t2.1 2) (some (i 0,[])) none)) none)) none) none))))
def Z5(x:Prt):Int:=V2 (one r1I) (fb6 x)
def V0(x:Prt):Bool:=okO (one r1I) (fb6 x)
def zb1:Sum:=ca1 cJ (λx=>.guard (V0 x) (.ret ((one r1I).enc (Z5 x),[])))
theorem Qb4:j6 prog G 12 zb1:=ab0 (bd b12 yd8) (one r1I) (o:=fb6) λx=>Ga2 (.s .p (.s .p (.s .p (.s .p (.s (.s .p (.b (.u Gb4.ls))) .p))))) [Gb4.pr] (by kernel_rfl) (.cons od5 .nil) (by kernel_rfl)
def qe5:List (Nat×Sum):=[]
theorem Wd1:j9 prog G qe5:=trivial
def Cb2(x:Prt):ROq:=let y0:=(↑(List.length x.cl):Int);let y2:=(List.replicate y0.toNat [b false]);let y1:=(inB y0 (room+1)&&inB y0 (room+1)&&Nat.ble y0.toNat y0.toNat&&Nat.ble (y0.toNat*1) room);(sl y1 (sl y1 (some ((.agg [(.tree 1 y0.toNat (λi=>g8 y2 (0+i))),(.tree 1 y0.toNat (λi=>g8 y2 (0+i))),.v (.slice none 0 0)]),[])) none) none)
def Ja8(x:Prt):Pce:=V2 (one r1O) (Cb2 x)
def pa3(x:Prt):Bool:=okO (one r1O) (Cb2 x)
def Cc9:Sum:=ca1 cJ (λx=>.guard (pa3 x) (.ret ((one r1O).enc (Ja8 x),[])))
theorem ed0:j6 prog G 15 Cc9:=ab0 (bd b15 Wd1) (one r1O) (o:=Cb2) λx=>B6 (by kernel_rfl)
def gc8:List (Nat×Sum):=[(73,ob7)]
theorem ed1:j9 prog G gc8:=⟨yb3,trivial⟩
structure Ca1 where
 xb4:LPq
 is7:Int
structure T6 where
 is8:Int
def Qb5(p:Ca1)(s:T6):St:=⟨ra 6 (eL tLq p.xb4::i p.is7::i s.is8::ra 9 []),[]⟩
def sa2{α:Type}(k:T6->α)(e:Nat->α)(z:α)(p:Ca1)(s:T6):α:=let y0:=(gL tLq p.xb4 s.is8.toNat);let t1:=(fa5 (rt tP y0));(sl (decide (s.is8<p.is7)) (sl (inB s.is8 (List.length p.xb4)) (sl (okE tP y0) (sl (Ka6 (rt tP y0)) (sl (t1 != 0) (e 1) (k ⟨W (s.is8+1)⟩)) z) z) z) (e 2))
def xa4(p:Ca1)(s:T6):Stp T6:=sa2 .next .exit .fail p s
def qb3:Lo Ca1 T6:=⟨En gc8,0,kg9,[1,0,1,4,4],[6,7,8],.p,[⟨ru2 6 (sLq tLq::sIq::sIq::ru2 9 []),[],λa H=>(⟨aLq tLq a 6,aIq a 7⟩,⟨aIq a 8⟩)⟩],xa4,[(none,λp s=>let t1:=(fa5 (rt tP (gL tLq p.xb4 s.is8.toNat)));⟨[i t1],[]⟩),(some 0,λp s=>upq (Qb5 p s) [(9,b (decide (s.is8<p.is7)))])],Qb5⟩
theorem Uc2:qb3.Ok:=Lo.ok [] (by kernel_rfl) .nil rfl (.cons (λa H=>by kernel_rfl) .nil) λp s=>(.of @sa2 (λF _ _ _ _ _=>by unfold sa2;(repeat' apply k8 (f:=F))<;>rfl) (by kernel_rfl))
def Pa6(x:LPq):ROq:=let t1:=(lp (xa4 (⟨rt tLq x,(↑(List.length x):Int)⟩:Ca1)) (⟨0⟩:T6));let t2:=(fa5 (rt tP (gL tLq (rt tLq x) t1.2.is8.toNat)));(sl ((cnE tLq x)&&true) (sl (Nat.beq t1.1 1) (some (i t2,[])) (sl (Nat.beq t1.1 2) (some (i 0,[])) none)) none)
def ra3(x:LPq):Int:=V2 (one r1I) (Pa6 x)
def ra4(x:LPq):Bool:=okO (one r1I) (Pa6 x)
def Gb5:Sum:=ca1 (na2 tLq) (λx=>.guard (ra4 x) (.ret ((one r1I).enc (ra3 x),[])))
theorem gc9:j6 prog G 45 Gb5:=ab0 (bd b45 ed1) (one r1I) (o:=Pa6) λx=>Ga2 (.s .p (.s (.s .p (.b (.u qb3.ls))) .p)) [qb3.pr] (by kernel_rfl) (.cons Uc2 .nil) (by kernel_rfl)
def yd9:List (Nat×Sum):=[(12,zb1),(45,Gb5)]
theorem od6:j9 prog G yd9:=⟨Qb4,gc9,trivial⟩
def Xa5(x:Prt)(y:Pce):ROq:=let y0:=(⟨x.nm,rt tLq x.cl,rt tI x.wt⟩:Prt);let t1:=(Z5 y0);let t2:=(ra3 (rt tLq y.cu));(sl ((okE tLq x.cl)&&((okE tI x.wt)&&true)) (sl (V0 y0) (sl (t1 != 0) (some (i t1,[])) (sl ((↑(List.length y.su):Int) != (↑(List.length x.cl):Int)) (some (i 4,[])) (sl ((↑(List.length y.to):Int) != (↑(List.length x.cl):Int)) (some (i 4,[])) (sl (decide ((↑(List.length y.cu):Int)>24)) (some (i 4,[])) (sl (okE tLq y.cu) (sl (ra4 (rt tLq y.cu)) (sl (t2 != 0) (some (i 4,[])) (some (i 0,[]))) none) none))))) none) none)
def Ha9(x:Prt)(y:Pce):Int:=V2 (one r1I) (Xa5 x y)
def Ia0(x:Prt)(y:Pce):Bool:=okO (one r1I) (Xa5 x y)
def qb4:Sum:=ta3 cJ cO (λx y=>.guard (Ia0 x y) (.ret ((one r1I).enc (Ha9 x y),[])))
theorem Gb6:j6 prog G 44 qb4:=ub3 (bd b44 od6) (one r1I) (o:=Xa5) λx y=>B6 (by kernel_rfl)
structure Pf1 where
 j5:PLq
 Xb7:List Pt
 is5:Int
 lb4:PLq
structure Pf2 where
 ph:Nat
 (is6 is7:Int)
structure Pf3 where
structure Pf4 where
 ph:Nat
 j5:PLq
 Xb7:List Pt
 is5:Int
 lb4:PLq
def ud1(l:PLq):Prop:=l.Pairwise LtP
theorem od7{x y z:Pln}(h1:LtP x y)(h2:LtP y z):LtP x z:=by unfold LtP at *;omega
theorem qe6(x:Pln):¬ LtP x x:=by unfold LtP;omega
theorem af9(x y:Pln):LtP x y\/x=y\/LtP y x:=by
 by_cases h1:LtP x y
 ·exact .inl h1
 ·by_cases h2:LtP y x
  ·exact .inr (.inr h2)
  ·refine .inr (.inl ?_);unfold LtP at h1 h2;have e1:x.n.x=y.n.x:=by omega
   have e2:x.n.y=y.n.y:=by omega
   have e3:x.n.z=y.n.z:=by omega
   have e4:x.b=y.b:=by omega
   cases x with | mk n b=>cases y with | mk m c=>cases n;cases m;simp_all
theorem ee1:∀{l r:PLq},ud1 l->ud1 r->(∀p,p∈l↔p∈r)->l=r
 |[],[],_,_,_=>rfl
 |[],b::r,_,_,h=>by have:=(h b).2 Qjc;cases this
 |a::l,[],_,_,h=>by have:=(h a).1 Qjc;cases this
 |a::l,b::r,hl,hr,h=>by
  obtain⟨hl1,hl2⟩:=Qjd.1 hl;obtain⟨hr1,hr2⟩:=Qjd.1 hr;have hab:a=b:=by
   rcases Qja.1 ((h a).1 Qjc) with e|h1
   ·exact e
   ·rcases Qja.1 ((h b).2 Qjc) with e|h2
    ·exact e.symm
    ·exact absurd (od7 (hr1 a h1) (hl1 b h2)) (qe6 b)
  subst hab;rw[ee1 hl2 hr2 λp=>?_]
  constructor
  ·intro hp
   rcases Qja.1 ((h p).1 (Qje _ hp)) with e|h1
   ·subst e;exact absurd (hl1 p hp) (qe6 p)
   ·exact h1
  ·intro hp
   rcases Qja.1 ((h p).2 (Qje _ hp)) with e|h1
   ·subst e;exact absurd (hr1 p hp) (qe6 p)
   ·exact h1
def Wd2:PLq->Pln->PLq
 |[],y=>[y]
 |a::l,y=>if Tb2 a y<0 then a::Wd2 l y else if eqP a y then a::l else y::a::l
theorem Nd4(y p:Pln):∀x,p∈Wd2 x y↔p=y\/p∈x
 |[]=>by simp[Wd2]
 |a::l=>by
  unfold Wd2;have ih:=Nd4 y p l;split
  ·simp only[Qja,ih];constructor
   ·rintro (h|h|h)
    ·exact .inr (.inl h)
    ·exact .inl h
    ·exact .inr (.inr h)
   ·rintro (h|h|h)
    ·exact .inr (.inl h)
    ·exact .inl h
    ·exact .inr (.inr h)
  ·split
   ·rename_i h;rw[Jc3] at h;subst h;simp only[Qja];constructor
    ·exact λh=>.inr h
    ·rintro (h|h)
     ·exact .inl h
     ·exact h
   ·simp only[Qja]
theorem Fe6(y:Pln):∀{x},ud1 x->ud1 (Wd2 x y)
 |[],_=>Qjw _ _
 |a::l,h=>by
  obtain⟨h1,h2⟩:=Qjd.1 h;unfold Wd2;split
  ·rename_i hc;rw[ne5] at hc;refine Qjd.2 ⟨λp hp=>?_,Fe6 y h2⟩
   rcases (Nd4 y p l).1 hp with e|hp
   ·subst e;exact hc
   ·exact h1 p hp
  ·rename_i hc;rw[ne5] at hc;split
   ·exact h
   ·rename_i hne;have hlt:LtP y a:=by
     rcases af9 y a with h|h|h
     ·exact h
     ·exact absurd ((Jc3 _ _).2 h.symm) hne
     ·exact absurd h hc
    refine Qjd.2 ⟨λp hp=>?_,h⟩
    rcases Qja.1 hp with e|hp
    ·subst e;exact hlt
    ·exact od7 hlt (h1 p hp)
theorem Pf5(l:PLq){n:Nat}(h:n=l.length):okS tP (bL tP l) 0 n=true:=by subst h;exact jc8 tP l
theorem Pf6(l:PLq){n:Nat}(h:n=l.length):slR tP (bL tP l) 0 n=l:=by subst h;exact jc7 tP l
theorem ee2{a c:PLq}(ha:a.length<=100000000)(hc:c.length<=100000000):Bb7 a c=some (b (apart a c),[]):=by
 have ha':a.length<=1000000000:=by omega
 have hc':c.length<=1000000000:=by omega
 unfold Bb7 apart;simp only[Mb7,j8,w7,Ld3 _ ha',Ld4 _ ha',Ld3 _ hc',Ld4 _ hc',g9];have hz:∀l:PLq,(chk l != 0)=!(chk l==0):=λ_=>rfl
 rw[hz,hz];cases h1:chk a==0 with
 |false=>rfl
 |true =>
  cases h2:chk c==0 with
  |false=>rfl
  |true =>
   obtain⟨q1,q2⟩:=Md0 h1 h2;have e1:app [] (bL tP a)=bL tP a:=rfl;have e1':app [] (bL tP c)=bL tP c:=rfl;have e2:app (bL tP a) (bL tP c)=bL tP (a++c):=Ka2 tP a c;have n1:0+len (bL tP a)=a.length:=by rw[M2];omega
   have n2:0+len (bL tP c)=c.length:=by rw[M2];omega
   have n3:a.length+len (bL tP c)=(a++c).length:=by rw[M2,List.length_append]
   have hl:(a++c).length<=1000000000:=by rw[List.length_append];omega
   have hn:([]:PLq).length<=1000000000:=by simp
   simp only[Bool.not_true,w6,Bool.and_true,Bool.true_and,Bool.false_or,Ze1,n1,n2,n3,e1,e1',e2,jc8,jc7,Pf5 _ rfl,Pf6 _ rfl,De5 _ hl,De6 _ hl,De5 _ ha',De6 _ ha',De5 _ hc',De6 _ hc',De5 _ hn,De6 _ hn,g9];rw[show Nat.ble (a.length*32) room=true from ab4 (by omega),show Nat.ble ((a++c).length*32) room=true from ab4 (by omega),show Nat.beq a.length (len (bL tP a))=true by rw[M2,Nat.beq_refl],Af0 _ q1 q2,Af1 _ q1 q2]
   rfl
theorem Bf1{a c:PLq}(ha:a.length<=100000000)(hc:c.length<=100000000):Wb5 a c=apart a c:=by unfold Wb5;rw[ee2 ha hc];rfl
theorem Bf2{a c:PLq}(ha:a.length<=100000000)(hc:c.length<=100000000):Wb6 a c=true:=by unfold Wb6;rw[ee2 ha hc];rfl
end Go.Ev.Ce
namespace Go.Ev.Ce
def rmZ(p:Pln)(x:Pt):Int:=p.b*x.pw-(p.n.x*x.px+p.n.y*x.py+p.n.z*x.pz)
structure Inr(r:List Pln)(x:Pt):Prop where
 w:0<x.pw
 h:∀p∈r,0<=rmZ p x
def La9(p:Pln):Pln:=⟨⟨-p.n.x,-p.n.y,-p.n.z⟩,-p.b⟩
theorem Nd5(p:Pln)(x:Pt):rmZ (La9 p) x=-rmZ p x:=by unfold rmZ La9;grind
structure Cn(r:List Pln)(x:Pt):Prop extends Inr r x where
 c:∃p q s,p∈r/\q∈r/\s∈r/\mw p q s≠0/\rmZ p x=0/\rmZ q x=0/\rmZ s x=0
def Bdd(r:List Pln):Prop:=∀d:V3,d≠⟨0,0,0⟩->∃p∈r,0<dot p.n d
def go(x:Pt)(q:Pln)(d:V3):Pt:=⟨x.px*dot q.n d+rmZ q x*d.x,x.py*dot q.n d+rmZ q x*d.y,x.pz*dot q.n d+rmZ q x*d.z,x.pw*dot q.n d⟩
theorem bf0(p q:Pln)(x:Pt)(d:V3):rmZ p (go x q d)=dot q.n d*rmZ p x-rmZ q x*dot p.n d:=by simp only[rmZ,go,dot];grind
theorem zb2{a b c:Int}(hc:0<c)(h:a*c<=b*c):a<=b:=Int.le_of_mul_le_mul_right h hc
theorem first(x:Pt)(d:V3):∀r:List Pln,(∀p∈r,0<=rmZ p x)->(∃p∈r,0<dot p.n d)->∃q∈r,0<dot q.n d/\∀p∈r,0<dot p.n d->rmZ q x*dot p.n d<=rmZ p x*dot q.n d
 |[],_,h=>by obtain⟨p,hp,_⟩:=h;cases hp
 |a::r,hx,h=>by
  by_cases hr:∃p∈r,0<dot p.n d
  ·obtain⟨q,hq,h1,h2⟩:=first x d r (λp hp=>hx p (Qje _ hp)) hr
   by_cases ha:0<dot a.n d
   ·by_cases hc:rmZ q x*dot a.n d<=rmZ a x*dot q.n d
    ·grind
    ·refine⟨a,Qjc,ha,λp hp h3=>?_⟩
     rcases Qja.1 hp with rfl|hp
     ·exact Int.le_refl _
     ·have h4:=h2 p hp h3;have h5:rmZ a x*dot q.n d<rmZ q x*dot a.n d:=by omega
      have h6:=Qjk h4 (Qjb ha);have h7:=Int.mul_lt_mul_of_pos_right h5 h3;have e1:rmZ q x*dot p.n d*dot a.n d=rmZ q x*dot a.n d*dot p.n d:=by grind
      have e2:rmZ a x*dot q.n d*dot p.n d=rmZ a x*dot p.n d*dot q.n d:=by grind
      have e3:rmZ p x*dot q.n d*dot a.n d=rmZ p x*dot a.n d*dot q.n d:=by grind
      refine zb2 h1 ?_;omega
   grind
  grind
theorem step{r:List Pln}{x:Pt}(hx:Inr r x)(d:V3)(h:∃p∈r,0<dot p.n d):∃q∈r,0<dot q.n d/\Inr r (go x q d):=by
 obtain⟨q,hq,h1,h2⟩:=first x d r hx.h h;refine⟨q,hq,h1,⟨Qjm hx.w h1,λp hp=>?_⟩⟩
 rw[bf0];have h3:=hx.h p hp;have h4:=hx.h q hq;by_cases h5:0<dot p.n d
 ·grind
 ·have h6:=Qjf (Qjb h1) h3;have h7:rmZ q x*dot p.n d<=0:=Int.mul_nonpos_of_nonneg_of_nonpos h4 (by omega)
  omega
theorem Bf3{h q:Pln}{x:Pt}{d:V3}(h1:0<=rmZ q x)(h2:0<=dot h.n d):rmZ h (go x q d)*x.pw<=rmZ h x*(go x q d).pw\/x.pw<=0:=by
 rcases Int.lt_or_le 0 x.pw with hw|hw
 ·left;rw[bf0]
  have:=Qjf h1 h2
  have h3:=Qjf this (Qjb hw);have e:rmZ h x*(go x q d).pw=dot q.n d*rmZ h x*x.pw:=by unfold go;grind
  grind
 ·exact .inr hw
def neg(d:V3):V3:=⟨-d.x,-d.y,-d.z⟩
theorem bf1(a d:V3):dot a (neg d)=-dot a d:=by unfold dot neg;grind
theorem fg0{d:V3}(h:d≠⟨0,0,0⟩):neg d≠⟨0,0,0⟩:=λh'=>h (by
 cases d;unfold neg at h';simp only[V3.mk.injEq] at h' ⊢;omega)
theorem turn(h:Pln){d:V3}(hd:d≠⟨0,0,0⟩):∃e,e≠(⟨0,0,0⟩:V3)/\0<=dot h.n e/\∀a,dot a d=0->dot a e=0:=by
 by_cases h1:0<=dot h.n d
 ·grind
 ·exact⟨neg d,fg0 hd,by rw[bf1];omega,λa h=>by rw[bf1,h];rfl⟩
theorem Ag3{n:V3}(hn:n≠⟨0,0,0⟩):∃d,d≠(⟨0,0,0⟩:V3)/\dot n d=0:=by
 by_cases h:n.x=0/\n.y=0
 ·exact⟨⟨1,0,0⟩,by simp,by unfold dot;simp[h.1]⟩
 ·refine⟨⟨n.y,-n.x,0⟩,λh'=>h ?_,by unfold dot;grind⟩
  simp_all
theorem V3.ext'{a b:V3}(h1:a.x=b.x)(h2:a.y=b.y)(h3:a.z=b.z):a=b:=by cases a;cases b;simp_all
theorem Bf4{m n d:V3}(hm:m≠⟨0,0,0⟩)(h1:dot m d=0)(h2:dot n d≠0):A5 m n≠⟨0,0,0⟩:=λh=>by
 unfold A5 at h;simp only[V3.mk.injEq] at h;obtain⟨c1,c2,c3⟩:=h;unfold dot at h1 h2;have e1:m.x*(n.x*d.x+n.y*d.y+n.z*d.z)=0:=by grind
 have e2:m.y*(n.x*d.x+n.y*d.y+n.z*d.z)=0:=by grind
 have e3:m.z*(n.x*d.x+n.y*d.y+n.z*d.z)=0:=by grind
 have k:∀{a:Int},a*(n.x*d.x+n.y*d.y+n.z*d.z)=0->a=0:=λh=>(Qjx.1 h).resolve_right h2
 exact hm (V3.ext' (k e1) (k e2) (k e3))
theorem Fe7(a b:V3):dot a (A5 a b)=0:=by unfold dot A5;grind
theorem Fe8(a b:V3):dot b (A5 a b)=0:=by unfold dot A5;grind
theorem Bf5{p q:Pln}{x:Pt}{d:V3}(h:rmZ p x=0)(h':dot p.n d=0):rmZ p (go x q d)=0:=by rw[bf0,h,h'];simp
theorem Bf6(q:Pln)(x:Pt)(d:V3):rmZ q (go x q d)=0:=by rw[bf0];grind
theorem pg3{q:Pln}{d:V3}(h:0<dot q.n d):q.n≠⟨0,0,0⟩:=λh'=>by rw[h'] at h;unfold dot at h;simp at h
theorem Xf0{a b c u v w:Int}(hu:0<u)(hv:0<v)(hw:0<w)(h1:a*v<=b*u)(h2:b*w<=c*v):a*w<=c*u:=by
 have h3:=Qjk h1 (Qjb hw);have h4:=Qjk h2 (Qjb hu);have e1:a*v*w=a*w*v:=by grind
 have e2:b*u*w=b*w*u:=by grind
 have e3:c*v*u=c*u*v:=by grind
 exact zb2 hv (by omega)
theorem fg1{r:List Pln}(hb:Bdd r)(h:Pln){x:Pt}(hx:Inr r x):∃v,Cn r v/\rmZ h v*x.pw<=rmZ h x*v.pw:=by
 obtain⟨d0,n0,p0,_⟩:=turn h (d:=⟨1,0,0⟩) (by simp)
 obtain⟨q1,m1,k1,i1⟩:=step hx d0 (hb d0 n0);have l1:=(Bf3 (h:=h) (x:=x) (hx.h q1 m1) p0).resolve_right (by have:=hx.w;omega)
 obtain⟨e1,ne1,he1⟩:=Ag3 (pg3 k1);obtain⟨d1,n1,p1,z1⟩:=turn h ne1;obtain⟨q2,m2,k2,i2⟩:=step i1 d1 (hb d1 n1);have l2:=(Bf3 (h:=h) (x:=go x q1 d0) (i1.h q2 m2) p1).resolve_right (by have:=i1.w;omega)
 have hc:=Bf4 (pg3 k1) (z1 _ he1) (n:=q2.n) (by omega)
 obtain⟨d2,n2,p2,z2⟩:=turn h hc;obtain⟨q3,m3,k3,i3⟩:=step i2 d2 (hb d2 n2);have l3:=(Bf3 (h:=h) (x:=go (go x q1 d0) q2 d1) (i2.h q3 m3) p2).resolve_right (by have:=i2.w;omega)
 have a1:rmZ q1 (go (go x q1 d0) q2 d1)=0:=Bf5 (Bf6 _ _ _) (z1 _ he1);refine⟨_,⟨i3,q3,q1,q2,m3,m1,m2,λh0=>?_,Bf6 _ _ _,Bf5 a1 (z2 _ (Fe7 _ _)),Bf5 (Bf6 _ _ _) (z2 _ (Fe8 _ _))⟩,?_⟩
 ·have:dot q3.n d2=0:=z2 _ h0
  omega
 ·exact Xf0 i3.w i2.w hx.w l3 (Xf0 i2.w i1.w hx.w l2 l1)
theorem zd0{r:List Pln}(hb:Bdd r){h:Pln}(hv:∀v,Cn r v->0<=rmZ h v){x:Pt}(hx:Inr r x):0<=rmZ h x:=by
 obtain⟨v,h1,h2⟩:=fg1 hb h hx;have h3:=Qjf (hv v h1) (Qjb hx.w);exact zb2 h1.w (by rw[Int.zero_mul];omega)
def mid(x y:Pt):Pt:=⟨x.px*y.pw+y.px*x.pw,x.py*y.pw+y.py*x.pw,x.pz*y.pw+y.pz*x.pw,2*(x.pw*y.pw)⟩
theorem Bf7(p:Pln)(x y:Pt):rmZ p (mid x y)=rmZ p x*y.pw+rmZ p y*x.pw:=by unfold rmZ mid;grind
theorem Inr.mid{r:List Pln}{x y:Pt}(hx:Inr r x)(hy:Inr r y):Inr r (mid x y):=⟨by unfold Ce.mid;exact Qjm (by decide) (Qjm hx.w hy.w),λp hp=>by
 rw[Bf7];exact Int.add_nonneg (Qjf (hx.h p hp) (Qjb hy.w)) (Qjf (hy.h p hp) (Qjb hx.w))⟩
def Pf7(r:List Pln):Prop:=∃x:Pt,0<x.pw/\∀p∈r,0<rmZ p x
theorem bf2{r:List Pln}:∀(l:List Pln),(∀p∈l,p∈r)->(∃x,Inr r x)->(∀p∈l,∃v,Inr r v/\0<rmZ p v)->∃x,Inr r x/\∀p∈l,0<rmZ p x
 |[],_,h,_=>by obtain⟨x,h⟩:=h;exact⟨x,h,λp hp=>by cases hp⟩
 |a::l,hl,h,hv=>by
  obtain⟨x,h1,h2⟩:=bf2 l (λp hp=>hl p (Qje _ hp)) h (λp hp=>hv p (Qje _ hp))
  obtain⟨y,h3,h4⟩:=hv a Qjc;refine⟨mid x y,h1.mid h3,λp hp=>?_⟩
  rw[Bf7]
  rcases Qja.1 hp with rfl|hp
  ·have:=Qjf (h1.h p (hl p Qjc)) (Qjb h3.w)
   have:=Qjm h4 h1.w
   omega
  ·have:=Qjm (h2 p hp) h3.w
   have:=Qjf (h3.h p (hl p (Qje _ hp))) (Qjb h1.w)
   omega
theorem Bf8{r:List Pln}(hb:Bdd r)(h0:r≠[]):Pf7 r↔∀p∈r,∃v,Cn r v/\0<rmZ p v:=by
 constructor
 ·intro ⟨x,hw,hx⟩ p hp;by_cases h:∃v,Cn r v/\0<rmZ p v
  ·exact h
  ·have hx':Inr r x:=⟨hw,λq hq=>Qjb (hx q hq)⟩
   have:=zd0 hb (h:=La9 p) (λv hv=>by
    rw[Nd5]
    have:¬ 0<rmZ p v:=λh'=>h ⟨v,hv,h'⟩
    omega) hx'
   rw[Nd5] at this
   have:=hx p hp
   omega
 ·intro h;obtain⟨p,hp⟩:=List.exists_mem_of_ne_nil r h0;obtain⟨v,hv,_⟩:=h p hp;obtain⟨x,h1,h2⟩:=bf2 r (λ_ h=>h) ⟨v,hv.toInr⟩ λp hp=>by
   obtain⟨v,hv,h⟩:=h p hp;exact⟨v,hv.toInr,h⟩
  exact⟨x,h1.w,h2⟩
structure Eqv(x v:Pt):Prop where
 e1:x.px*v.pw=v.px*x.pw
 e2:x.py*v.pw=v.py*x.pw
 e3:x.pz*v.pw=v.pz*x.pw
theorem Eqv.rm{x v:Pt}(h:Eqv x v)(p:Pln):rmZ p x*v.pw=rmZ p v*x.pw:=by
 obtain⟨e1,e2,e3⟩:=h;unfold rmZ
 grind
theorem Eqv.inr{r:List Pln}{x v:Pt}(h:Eqv x v)(hw:0<x.pw)(hv:Inr r v):Inr r x:=⟨hw,λp hp=>by
 have:=h.rm p
 have h2:=Qjf (hv.h p hp) (Qjb hw);exact zb2 hv.w (by rw[Int.zero_mul];omega)⟩
end Go.Ev.Ce
namespace Go.Ev.Ce
open Go Go.Ev Go.Ev.L Go.Proofs
theorem Pf8{p:Pln}{x:Pt}(hp:Bd p)(hx:Okx x):rm p x=rmZ p x:=by
 unfold rm rmZ;obtain⟨w1,w2,⟨a1,a2⟩,⟨a3,a4⟩,a5,a6⟩:=hx;have h0:=mb hp.b1 hp.b2 (show -600000000000<=x.pw by omega) w2
 have h1:=mb hp.x1 hp.x2 a1 a2;have h2:=mb hp.y1 hp.y2 a3 a4;have h3:=mb hp.z1 hp.z2 a5 a6;exact La6 (by omega) (by omega)
theorem bf3{r:PLq}(hb:Bds r){x:Pt}(hx:Okx x):inn r x=true↔Inr r x:=by
 unfold inn;rw[Qju];constructor
 ·intro h;refine⟨hx.w1,λp hp=>?_⟩
  have:=h p hp
  rw[Pf8 (hb p hp) hx] at this;simpa using this
 ·intro h p hp;rw[Pf8 (hb p hp) hx];simpa using h.h p hp
theorem Xf1{p q s:Pln}(h:(mpt p q s).2=true):mw p q s≠0/\∃k:Int,k≠0/\k*(mpt p q s).1.px=(mv p q s).x/\k*(mpt p q s).1.py=(mv p q s).y/\k*(mpt p q s).1.pz=(mv p q s).z/\k*(mpt p q s).1.pw=mw p q s:=by
 unfold mpt at h ⊢;by_cases h0:mw p q s=0
 ·rw[if_pos h0] at h;cases h
 refine⟨h0,?_⟩;have hg:=Ld1 (v:=mv p q s) h0;have dv:∀{x:Int},(gc (mv p q s) (mw p q s))∣x->gc (mv p q s) (mw p q s)*Int.tdiv x (gc (mv p q s) (mw p q s))=x:=λh=>Int.mul_tdiv_cancel' h
 have d1:gc (mv p q s) (mw p q s)∣(mv p q s).x:=by
  rw[<- Qjq];exact Qjj.2 (Qjs (Qjo _ _) (Qjo _ _))
 have d2:gc (mv p q s) (mw p q s)∣(mv p q s).y:=by
  rw[<- Qjq];exact Qjj.2 (Qjs (Qjo _ _) (Qjl _ _))
 have d3:gc (mv p q s) (mw p q s)∣(mv p q s).z:=by
  rw[<- Qjq];exact Qjj.2 (Qjs (Qjl _ _) (Qjo _ _))
 have d4:gc (mv p q s) (mw p q s)∣mw p q s:=by
  rw[<- Qjq];exact Qjj.2 (Qjs (Qjl _ _) (Qjl _ _))
 rw[if_neg h0];by_cases h1:mw p q s<0
 ·rw[if_pos h1];have e:∀{x:Int},(gc (mv p q s) (mw p q s))∣x->-(gc (mv p q s) (mw p q s))*Int.tdiv (-x) (gc (mv p q s) (mw p q s))=x:=λ{x} h=>by
   rw[Int.neg_mul,dv ((Int.dvd_neg).2 h),Int.neg_neg]
  exact⟨-(gc (mv p q s) (mw p q s)),by omega,e d1,e d2,e d3,e d4⟩
 ·rw[if_neg h1];exact⟨gc (mv p q s) (mw p q s),by omega,dv d1,dv d2,dv d3,dv d4⟩
theorem Bf9{p q s:Pln}(h:(mpt p q s).2=true):rmZ p (mpt p q s).1=0/\rmZ q (mpt p q s).1=0/\rmZ s (mpt p q s).1=0:=by
 obtain⟨_,k,hk,e1,e2,e3,e4⟩:=Xf1 h;generalize (mpt p q s).1=x at *
 have f:∀a:Pln,a.b*mw p q s-(a.n.x*(mv p q s).x+a.n.y*(mv p q s).y+a.n.z*(mv p q s).z)=0->rmZ a x=0:=λa ha=>by
  rw[<- e1,<- e2,<- e3,<- e4] at ha
  have:k*rmZ a x=0:=by rw[<- ha];unfold rmZ;grind
  exact (Qjx.1 this).resolve_left hk
 refine⟨f p ?_,f q ?_,f s ?_⟩<;>(simp only[mw,mv,dot,A5];grind)
theorem Pf9{p q s:Pln}(h:mw p q s≠0):(mpt p q s).2=true:=by
 unfold mpt;rw[if_neg h]
 split<;>rfl
theorem Cf0{p q s:Pln}{x:Pt}(h1:rmZ p x=0)(h2:rmZ q x=0)(h3:rmZ s x=0):mw p q s*x.px=(mv p q s).x*x.pw/\mw p q s*x.py=(mv p q s).y*x.pw/\mw p q s*x.pz=(mv p q s).z*x.pw:=by
 have i1:(mv p q s).x*x.pw-mw p q s*x.px=(A5 q.n s.n).x*rmZ p x+(A5 s.n p.n).x*rmZ q x+(A5 p.n q.n).x*rmZ s x:=by simp only[mw,mv,dot,A5,rmZ];grind
 have i2:(mv p q s).y*x.pw-mw p q s*x.py=(A5 q.n s.n).y*rmZ p x+(A5 s.n p.n).y*rmZ q x+(A5 p.n q.n).y*rmZ s x:=by simp only[mw,mv,dot,A5,rmZ];grind
 have i3:(mv p q s).z*x.pw-mw p q s*x.pz=(A5 q.n s.n).z*rmZ p x+(A5 s.n p.n).z*rmZ q x+(A5 p.n q.n).z*rmZ s x:=by simp only[mw,mv,dot,A5,rmZ];grind
 rw[h1,h2,h3] at i1 i2 i3;simp only[Int.mul_zero,Int.add_zero] at i1 i2 i3;omega
theorem fg2{p q s:Pln}{x v:Pt}(h:mw p q s≠0)(h1:rmZ p x=0)(h2:rmZ q x=0)(h3:rmZ s x=0)(k1:rmZ p v=0)(k2:rmZ q v=0)(k3:rmZ s v=0):Eqv x v:=by
 obtain⟨a1,a2,a3⟩:=Cf0 h1 h2 h3;obtain⟨c1,c2,c3⟩:=Cf0 k1 k2 k3;have f:∀{a c m:Int},mw p q s*a=m*x.pw->mw p q s*c=m*v.pw->a*v.pw=c*x.pw:=λ{a c m} ha hc=>by
  have:mw p q s*(a*v.pw-c*x.pw)=0:=by grind
  have:=(Qjx.1 this).resolve_left h
  omega
 exact⟨f a1 c1,f a2 c2,f a3 c3⟩
theorem lf5{r:PLq}{p q:Pln}{out:List Pt}{s:Pln}{x:Pt}(h:x∈out):x∈Wa7 r p q out s:=by
 unfold Wa7;split
 ·exact List.mem_append_left _ h
 ·exact h
theorem Nd6{r:PLq}{p q:Pln}{x:Pt}:∀{l:PLq} {out:List Pt},x∈out->x∈Fb7 r p q l out
 |[],_,h=>h
 |s::l,out,h=>Nd6 (l:=l) (out:=Wa7 r p q out s) (lf5 h)
theorem ed2{r:PLq}{p:Pln}{x:Pt}:∀{l:PLq} {out:List Pt},x∈out->x∈pb7 r p l out
 |[],_,h=>h
 |_::l,_,h=>ed2 (l:=l) (Nd6 h)
theorem Fe9{r:PLq}{x:Pt}:∀{l:PLq} {out:List Pt},x∈out->x∈cd9 r l out
 |[],_,h=>h
 |_::l,_,h=>Fe9 (l:=l) (ed2 h)
theorem lf6{r:PLq}{p q:Pln}{out:List Pt}{s:Pln}(h1:(mpt p q s).2=true)(h2:inn r (mpt p q s).1=true):(mpt p q s).1∈Wa7 r p q out s:=by
 unfold Wa7;rw[h1,h2];cases h:Bc9 out (mpt p q s).1 with
 |true=>simpa using (yf5 _ _).1 h
 |false=>simp
theorem Nd7{r:PLq}{p q s:Pln}(h1:(mpt p q s).2=true)(h2:inn r (mpt p q s).1=true):∀{l:PLq} {out:List Pt},s∈l->(mpt p q s).1∈Fb7 r p q l out
 |[],_,h=>by cases h
 |t::l,out,h=>by
  show _∈Fb7 r p q l (Wa7 r p q out t)
  rcases Qja.1 h with rfl|h
  ·exact Nd6 (lf6 h1 h2)
  ·exact Nd7 h1 h2 h
structure Hit(r:PLq)(Q:Pt->Prop)(p q s:Pln):Prop where
 h1:(mpt p q s).2=true
 h2:inn r (mpt p q s).1=true
 h3:Q (mpt p q s).1
theorem Ge0{r:PLq}{Q:Pt->Prop}{p q s:Pln}(hq:Hit r Q p q s)(hs:Hit r Q p s q)(hne:q≠s):∀{l:PLq} {out:List Pt},q∈l->s∈l->∃x∈pb7 r p l out,Q x
 |[],_,h,_=>by cases h
 |t::l,out,hql,hsl=>by
  show ∃x∈pb7 r p l (Fb7 r p t l out),Q x
  rcases Qja.1 hql with rfl|h1
  ·have h2:=(Qja.1 hsl).resolve_left λh=>hne h.symm
   exact⟨_,ed2 (Nd7 hq.h1 hq.h2 h2),hq.h3⟩
  ·rcases Qja.1 hsl with rfl|h2
   ·exact⟨_,ed2 (Nd7 hs.h1 hs.h2 h1),hs.h3⟩
   ·exact Ge0 hq hs hne (l:=l) h1 h2
theorem Ge1{r:PLq}{Q:Pt->Prop}{p q s:Pln}(H:∀a c d,(a=p\/a=q\/a=s)->(c=p\/c=q\/c=s)->(d=p\/d=q\/d=s)->a≠c->c≠d->a≠d->Hit r Q a c d)(h1:p≠q)(h2:q≠s)(h3:p≠s) :
  ∀{l:PLq} {out:List Pt},p∈l->q∈l->s∈l->∃x∈cd9 r l out,Q x
 |[],_,h,_,_=>by cases h
 |t::l,out,hp,hq,hs=>by
  have fin:∀{a c d:Pln} {out:List Pt},(a=p\/a=q\/a=s)->(c=p\/c=q\/c=s)->(d=p\/d=q\/d=s)->a≠c->c≠d->a≠d->c∈l->d∈l->∃x∈cd9 r l (pb7 r a l out),Q x:=λha hc hd n1 n2 n3 m1 m2=>by
   obtain⟨x,hx,hQ⟩:=Ge0 (H _ _ _ ha hc hd n1 n2 n3) (H _ _ _ ha hd hc n3 n2.symm n1) n2 (out:=_) m1 m2;exact⟨x,Fe9 hx,hQ⟩
  show ∃x∈cd9 r l (pb7 r t l out),Q x
  rcases Qja.1 hp with rfl|hp'
  ·exact fin (.inl rfl) (.inr (.inl rfl)) (.inr (.inr rfl)) h1 h2 h3 ((Qja.1 hq).resolve_left (Ne.symm h1)) ((Qja.1 hs).resolve_left (Ne.symm h3))
  ·rcases Qja.1 hq with rfl|hq'
   ·exact fin (.inr (.inl rfl)) (.inl rfl) (.inr (.inr rfl)) (Ne.symm h1) h3 h2 hp' ((Qja.1 hs).resolve_left (Ne.symm h2))
   ·rcases Qja.1 hs with rfl|hs'
    ·exact fin (.inr (.inr rfl)) (.inl rfl) (.inr (.inl rfl)) (Ne.symm h3) h1 (Ne.symm h2) hp' hq'
    ·exact Ge1 H h1 h2 h3 hp' hq' hs'
theorem pg4{p q s:Pln}(h:mw p q s≠0):p≠q/\q≠s/\p≠s:=by
 refine⟨λe=>h ?_,λe=>h ?_,λe=>h ?_⟩<;>(subst e;simp only[mw,dot,A5];grind)
theorem fg3{r:PLq}(hb:Bds r):∀x∈cor r,Cn r x:=Ze6 λp hp q hq s hs h hi=>by
 obtain⟨w1,w2,w3,w4,w5⟩:=Re3 (hb p hp) (hb q hq) (hb s hs) h;obtain⟨e1,e2,e3⟩:=Bf9 h;exact⟨(bf3 hb ⟨w1,w5,w2,w3,w4⟩).1 hi,p,q,s,hp,hq,hs,(Xf1 h).1,e1,e2,e3⟩
theorem fg4{r:PLq}(hb:Bds r){v:Pt}(hv:Cn r v):∃x∈cor r,Eqv x v:=by
 obtain⟨p,q,s,hp,hq,hs,hw,e1,e2,e3⟩:=hv.c;obtain⟨n1,n2,n3⟩:=pg4 hw;refine Ge1 (λa c d ha hc hd m1 m2 m3=>?_) n1 n2 n3 hp hq hs
 have hm:∀{a},(a=p\/a=q\/a=s)->a∈r/\rmZ a v=0:=λh=>by
  rcases h with rfl|rfl|rfl
  ·exact⟨hp,e1⟩
  ·exact⟨hq,e2⟩
  ·exact⟨hs,e3⟩
 have hw':mw a c d≠0:=by
  have k:mw a c d=mw p q s\/mw a c d=-mw p q s:=by
   rcases ha with rfl|rfl|rfl<;>rcases hc with rfl|rfl|rfl<;>rcases hd with rfl|rfl|rfl<;>first|exact absurd rfl m1|exact absurd rfl m2|exact absurd rfl m3|exact .inl rfl|(left;simp only[mw,dot,A5];grind;done)|(right;simp only[mw,dot,A5];grind;done)
  rcases k with k|k<;>omega
 have h:=Pf9 hw';obtain⟨w1,w2,w3,w4,w5⟩:=Re3 (hb a (hm ha).1) (hb c (hm hc).1) (hb d (hm hd).1) h;obtain⟨f1,f2,f3⟩:=Bf9 h;have he:=fg2 hw' f1 f2 f3 (hm ha).2 (hm hc).2 (hm hd).2;exact⟨h,(bf3 hb ⟨w1,w5,w2,w3,w4⟩).2 (he.inr w1 hv.toInr),he⟩
theorem qe7(c:PLq):Bdd (c++ws):=λd hd=>by
 have k:∀{n:V3} {m:Int},(⟨n,m⟩:Pln)∈ws->0<dot n d->∃p∈c++ws,0<dot p.n d:=λh h'=>⟨_,List.mem_append_right _ h,h'⟩
 by_cases h1:0<d.x
 ·exact k (n:=⟨1,0,0⟩) (m:=24) (by simp[ws]) (by unfold dot;simp;omega)
 by_cases h2:d.x<0
 ·exact k (n:=⟨-1,0,0⟩) (m:=24) (by simp[ws]) (by unfold dot;simp;omega)
 by_cases h3:0<d.y
 ·exact k (n:=⟨0,1,0⟩) (m:=24) (by simp[ws]) (by unfold dot;simp;omega)
 by_cases h4:d.y<0
 ·exact k (n:=⟨0,-1,0⟩) (m:=24) (by simp[ws]) (by unfold dot;simp;omega)
 by_cases h5:0<d.z
 ·exact k (n:=⟨0,0,1⟩) (m:=24) (by simp[ws]) (by unfold dot;simp;omega)
 by_cases h6:d.z<0
 ·exact k (n:=⟨0,0,-1⟩) (m:=24) (by simp[ws]) (by unfold dot;simp;omega)
 exact absurd (V3.ext' (by show d.x=0;omega) (by show d.y=0;omega) (by show d.z=0;omega)) hd
theorem bf4{r:PLq}(hb:Bds r){p:Pln}(hp:Bd p):pos (cor r) p=true↔∃v,Cn r v/\0<rmZ p v:=by
 unfold pos;rw[Qjv];constructor
 ·rintro⟨x,hx,h⟩;rw[Pf8 hp (pe4 hb x hx)] at h;exact⟨x,fg3 hb x hx,by simpa using h⟩
 ·rintro⟨v,hv,h⟩;obtain⟨x,hx,he⟩:=fg4 hb hv;refine⟨x,hx,?_⟩;rw[Pf8 hp (pe4 hb x hx)];have h1:=he.rm p;have h2:=Qjm h (pe4 hb x hx).w1
  have:0<rmZ p x:=Int.lt_of_mul_lt_mul_right (by rw[Int.zero_mul];omega:0*v.pw<rmZ p x*v.pw) (Qjb hv.w)
  simpa using this
theorem Jc4{r:PLq}(hb:Bds r)(hd:Bdd r)(h0:r≠[]):xd9 r=true↔Pf7 r:=by
 rw[Bf8 hd h0];unfold xd9;rw[Qju];exact⟨λh p hp=>(bf4 hb (hb p hp)).1 (h p hp),λh p hp=>(bf4 hb (hb p hp)).2 (h p hp)⟩
end Go.Ev.Ce
namespace Go.Ev.Ce
def dv(z v:Pt):V3:=⟨v.px*z.pw-z.px*v.pw,v.py*z.pw-z.py*v.pw,v.pz*z.pw-z.pz*v.pw⟩
end Go.Ev.Ce
namespace Go.Ev.Ce
open Go Go.Ev Go.Ev.L Go.Proofs
theorem bf5(p:Pln):∀(a:Pln) (l:PLq),p∈a::ddF a l↔p∈a::l
 |a,[]=>by simp[ddF]
 |a,x::l=>by
  have ih:=bf5 p x l;unfold ddF;split
  ·rename_i h;rw[Jc3] at h;subst h;rw[ih];simp
  ·simp only[Qja] at ih ⊢;rw[ih]
theorem Cf1(p:Pln):∀l:PLq,p∈dd l↔p∈l
 |[]=>Iff.rfl
 |x::l=>bf5 p x l
theorem bf6:∀(a:Pln) (l:PLq),(a::l).Pairwise (λx y=>(!ltOf Tb2 y x)=true)->ud1 (a::ddF a l)
 |a,[],_=>Qjw _ _
 |a,x::l,h=>by
  obtain⟨h1,h2⟩:=Qjd.1 h;have ih:=bf6 x l h2;have hle:=h1 x Qjc;rw[wb0] at hle;have hle:¬ LtP x a:=by simpa using hle
  unfold ddF;split
  ·rename_i he;rw[Jc3] at he;subst he;exact ih
  ·rename_i hne;have hlt:LtP a x:=by
    rcases af9 a x with h|h|h
    ·exact h
    ·exact absurd ((Jc3 _ _).2 h.symm) hne
    ·exact absurd h hle
   refine Qjd.2 ⟨λp hp=>?_,ih⟩
   rcases Qja.1 hp with e|hp'
   ·subst e;exact hlt
   ·exact od7 hlt ((Qjd.1 ih).1 p hp')
theorem fg5(l:PLq):ud1 (dd (kb3 l)):=by
 have h:=pe9 l;cases hs:kb3 l with
 |nil=>exact .nil
 |cons a l'=>rw[hs] at h;exact bf6 a l' h
def ee3(X:List Pt)(out:PLq)(p:Pln):PLq:=if keep X p then Wd2 out p else out
theorem ee4(X:List Pt)(p:Pln):∀(c out:PLq),p∈c.foldl (ee3 X) out↔p∈out\/p∈c.filter (keep X)
 |[],out=>by simp
 |a::c,out=>by
  rw[List.foldl_cons,ee4 X p c,List.filter_cons];unfold ee3;split
  ·rw[Nd4,Qja];constructor
   ·rintro ((h|h)|h)
    ·exact .inr (.inl h)
    ·exact .inl h
    ·exact .inr (.inr h)
   ·rintro (h|h|h)
    ·exact .inl (.inr h)
    ·exact .inl (.inl h)
    ·exact .inr h
  ·exact Iff.rfl
theorem ee5(X:List Pt):∀(c out:PLq),ud1 out->ud1 (c.foldl (ee3 X) out)
 |[],_,h=>h
 |a::c,out,h=>by
  rw[List.foldl_cons];refine ee5 X c _ ?_;unfold ee3;split
  ·exact Fe6 a h
  ·exact h
theorem Cf2(X:List Pt)(c:PLq):c.foldl (ee3 X) []=dd (kb3 (c.filter (keep X))) :=
 ee1 (ee5 X c [] .nil) (fg5 _) λp=>by
  rw[ee4,Cf1,(Md3 _).mem_iff];simp
theorem Cf3{c:PLq}(hf:ful c=true)(p:Pln):p∈lean c↔p∈c/\keep (pts c) p=true:=by
 unfold lean;rw[if_pos hf,Cf1,(Md3 _).mem_iff,List.mem_filter]
theorem Nd8(c:PLq):(lean c).length<=c.length:=by
 unfold lean;split
 ·have h1 : (dd (kb3 (c.filter (keep (pts c))))).length ≤ (kb3 (c.filter (keep (pts c)))).length := by
   cases kb3 (c.filter (keep (pts c))) with
   |nil=>exact Nat.le_refl _
   |cons a l=>have:=af1 a l;simp only[dd,List.length_cons];omega
  rw[Ic7] at h1
  have:=List.length_filter_le (keep (pts c)) c
  omega
 ·exact Nat.zero_le _
def Ag4(p:Pln)(v:V3):Int:=if okp p&&inV v then (if dot p.n v-p.b<0 then -1 else if dot p.n v-p.b>0 then 1 else 0) else 0
structure Thr(a b c:V3)(p:Pln):Prop where
 ok:okp p=true
 k:∃g:Int,0<g/\g*p.n.x=(A5 (sub b a) (sub c a)).x/\g*p.n.y=(A5 (sub b a) (sub c a)).y/\g*p.n.z=(A5 (sub b a) (sub c a)).z
 o:p.b=dot p.n a
theorem Cf4{p:Pln}(h:Bd p):wb2 p=La9 p:=by
 unfold wb2 md2 La9
 simp only
 have:=h.x1;have:=h.x2;have:=h.y1;have:=h.y2;have:=h.z1;have:=h.z2;have:=h.b1;have:=h.b2
 rw[La6 (by omega) (by omega),La6 (by omega) (by omega),La6 (by omega) (by omega),La6 (by omega) (by omega)]
 simp only[Int.zero_sub]
theorem Uc3{σ:Type}{step:σ->Stp σ}{mk:Nat->σ}(n:Nat)(c:Nat->Bool)(u fin:Nat)(hn:n<=1000000000)(h:∀j,j<n->step (mk j)=sl (c j) (.exit u) (.next (mk (j+1))))(hf:step (mk n)=.exit fin) :
  ∃j,lp step (mk 0)=(if (List.range n).any c then u else fin,mk j):=by
 have key:=Fa0 (step:=step) (mk:=λj (_:Unit)=>mk j) n (λj _=>j<=n/\∀i,i<j->c i=false) (λt s=>t=(if (List.range n).any c then u else fin)/\∃j,s=mk j) hn
  (λj _ hj hi=>by
   rw[h j hj];refine Nx.sl (λhc=>.ex ⟨?_,j,rfl⟩) (λhc=>.nx ⟨(),rfl,by omega,λi hi'=>?_⟩)
   ·rw[if_pos (Qjv.2 ⟨j,Qjr.2 hj,hc⟩)]
   ·by_cases e:i=j
    ·rw[e];exact hc
    ·exact hi.2 i (by omega))
  (λj _ hj hi=>by
   have e:j=n:=by omega
   subst e;refine⟨fin,hf,?_,j,rfl⟩;rw[if_neg λhh=>?_]
   obtain⟨i,hi1,hi2⟩:=Qjv.1 hh;rw[hi.2 i (Qjr.1 hi1)] at hi2;cases hi2) 0 () ⟨by omega,by omega⟩
 obtain⟨t,s,h1,rfl,j,rfl⟩:=key;exact⟨j,h1⟩
def hold(p:Pln)(l:List V3):Bool:=!l.any λv=>decide (Ag4 p v>0)
def pg5(l:List V3)(a c:Nat)(out:PLq)(k:Nat):PLq :=
  if (Re9 (gL tV l a) (gL tV l c) (gL tV l k)).2 then
    (if hold (La9 (Re9 (gL tV l a) (gL tV l c) (gL tV l k)).1) l then Wd2 (if hold (Re9 (gL tV l a) (gL tV l c) (gL tV l k)).1 l then Wd2 out (Re9 (gL tV l a) (gL tV l c) (gL tV l k)).1 else out) (La9 (Re9 (gL tV l a) (gL tV l c) (gL tV l k)).1)
     else (if hold (Re9 (gL tV l a) (gL tV l c) (gL tV l k)).1 l then Wd2 out (Re9 (gL tV l a) (gL tV l c) (gL tV l k)).1 else out))
  else out
def F2(l:List V3)(a:Nat)(out:PLq)(c:Nat):PLq:=(List.range c).foldl (pg5 l a c) out
def F1(l:List V3)(out:PLq)(a:Nat):PLq:=(List.range a).foldl (F2 l a) out
def F0(l:List V3):PLq:=(List.range l.length).foldl (F1 l) []
structure Bg1(l:List V3):Prop where
 h:∃a c k v,a∈l/\c∈l/\k∈l/\v∈l/\dot (A5 (sub c a) (sub k a)) (sub v a)≠0
structure Fct(l:List V3)(p:Pln):Prop where
 ok:okp p=true
 hd:hold p l=true
structure qe8(c:PLq):Prop where
 l:c.length<=47
 v:∀p∈c,okp p=true
 f:Pf7 (c++ws)
theorem qe8.chk{c:PLq}(h:qe8 c):(chk c==0)=true:=by
 rw[beq_iff_eq,Pb4];exact⟨by have:=h.l;omega,h.v⟩
theorem qe8.bds{c:PLq}(h:qe8 c):Bds (c++ws):=(Wb7 h.chk).1
theorem qe8.ful{c:PLq}(h:qe8 c):ful c=true:=by
 unfold Ce.ful;rw[h.chk,(Jc4 h.bds (qe7 c) (by simp[ws])).2 h.f]
 rfl
theorem qe8.pts{c:PLq}(h:qe8 c):pts c=cor (c++ws):=by unfold Ce.pts;rw[if_pos h.chk]
structure Ins(r:PLq)(x:Pt):Prop where
 w:0<x.pw
 h:∀p∈r,0<rmZ p x
theorem Ins.inr{r:PLq}{x:Pt}(h:Ins r x):Inr r x:=⟨h.w,λp hp=>Qjb (h.h p hp)⟩
theorem Nd9{r:PLq}:Pf7 r↔∃x,Ins r x:=⟨λ⟨x,h1,h2⟩=>⟨x,h1,h2⟩,λ⟨x,h⟩=>⟨x,h.w,h.h⟩⟩
theorem Ins.mono{r r':PLq}{x:Pt}(h:Ins r x)(hs:∀p∈r',p∈r):Ins r' x:=⟨h.w,λp hp=>h.h p (hs p hp)⟩
theorem Inr.mono{r r':PLq}{x:Pt}(h:Inr r x)(hs:∀p∈r',p∈r):Inr r' x:=⟨h.w,λp hp=>h.h p (hs p hp)⟩
theorem Ins.app{r r':PLq}{x:Pt}(h:Ins r x)(h':Ins r' x):Ins (r++r') x:=⟨h.w,λp hp=>(Qjg.1 hp).elim (h.h p) (h'.h p)⟩
theorem Inr.app{r r':PLq}{x:Pt}(h:Inr r x)(h':Inr r' x):Inr (r++r') x:=⟨h.w,λp hp=>(Qjg.1 hp).elim (h.h p) (h'.h p)⟩
theorem far{f g:Pln->Int}:∀l:PLq,(∀p∈l,0<f p)->∃N:Int,0<=N/\∀M,N<=M->∀p∈l,0<M*f p+g p
 |[],_=>⟨0,Int.le_refl _,λ_ _ p hp=>by cases hp⟩
 |a::l,h=>by
  obtain⟨N,h0,h1⟩:=far l λp hp=>h p (Qje _ hp)
  have ha:=h a Qjc;refine⟨max N ((g a).natAbs+1),by omega,λM hM p hp=>?_⟩
  rcases Qja.1 hp with rfl|hp
  ·have:M*1<=M*f p:=Int.mul_le_mul_of_nonneg_left (by omega) (by omega)
   omega
  ·exact h1 M (by omega) p hp
theorem fg6:∀p∈ws,okp p=true:=Qju.1 (by decide)
theorem jd2{c:PLq}(h:(chk c==0)=true):∀p∈c++ws,okp p=true:=λp hp=>by
 rw[beq_iff_eq,Pb4] at h
 rcases Qjg.1 hp with hp|hp
 ·exact h.2 p hp
 ·exact fg6 p hp
theorem ed3{c:PLq}:ful c=true↔(chk c==0)=true/\∃x,Ins (c++ws) x:=by
 unfold ful;rw[Qjn];constructor
 ·rintro⟨h1,h2⟩;exact⟨h1,Nd9.1 ((Jc4 (Wb7 h1).1 (qe7 c) (by simp[ws])).1 h2)⟩
 ·rintro⟨h1,h2⟩;exact⟨h1,(Jc4 (Wb7 h1).1 (qe7 c) (by simp[ws])).2 (Nd9.2 h2)⟩
theorem Lb2{a c:PLq}(ha:(chk a==0)=true)(hc:(chk c==0)=true):apart a c=true↔∀z,Ins (a++ws) z->Ins (c++ws) z->False:=by
 unfold apart;rw[ha,hc];have hb:=(Md0 ha hc).1;have h:=Jc4 (r:=a++c++ws) hb (qe7 (a++c)) (by simp[ws])
 have key:xd9 (a++c++ws)=true↔∃z,Ins (a++ws) z/\Ins (c++ws) z:=by
  rw[h,Nd9];constructor
  ·rintro⟨z,hz⟩;exact⟨z,hz.mono λp hp=>by simp only[Qjg] at hp ⊢;rcases hp with h | h<;>simp[h],hz.mono λp hp=>by simp only[Qjg] at hp ⊢;rcases hp with h | h<;>simp[h]⟩
  ·rintro⟨z,h1,h2⟩;exact⟨z,(h1.app h2).mono λp hp=>by simp only[Qjg] at hp ⊢;rcases hp with (h | h) | h<;>simp[h]⟩
 constructor
 ·intro h z h1 h2;rw[key.2 ⟨z,h1,h2⟩] at h;cases h
 ·intro h;cases hb:xd9 (a++c++ws) with
  |false=>rfl
  |true =>
   obtain⟨z,h1,h2⟩:=key.1 hb;exact (h z h1 h2).elim
theorem Cf5{c:PLq}{p:Pln}(h:p∈lean c):p∈c:=by
 cases hf:ful c with
 |true=>exact ((Cf3 hf p).1 h).1
 |false=>unfold lean at h;rw[hf] at h;cases h
def na1(x fs:PLq):Nat->PLq
 |0=>x
 |j+1=>lean (na1 x fs j++[gL tP fs j])
def Tb8(x fs:PLq)(j:Nat):PLq:=lean (na1 x fs j++[La9 (gL tP fs j)])
def jb1(x fs:PLq)(j:Nat):LPq:=((List.range j).map (Tb8 x fs)).filter λc=>decide (0<c.length)
def Sa6(x fs:PLq):Bool:=(List.range fs.length).all λj=>decide ((na1 x fs j).length<48)
def lb7(q x:PLq):LPq:=if apart x q then [x] else jb1 x (lean q) (lean q).length
def tb2(q x:PLq):Bool:=apart x q||Sa6 x (lean q)
def ma1(ps:LPq)(q:PLq):Option LPq :=
 if ful q then (if ps.all (tb2 q)&&decide ((ps.flatMap (lb7 q)).length<=200) then some (ps.flatMap (lb7 q)) else none) else some ps
def Uc4(c:PLq)(s:LPq):Option LPq :=
 s.foldl (λst q=>st.bind λps=>ma1 ps q) (some (if ful c then [lean c] else []))
theorem Cf6{x fs:PLq}{n:Nat}{y:PLq}:y∈jb1 x fs n↔∃j,j<n/\y=Tb8 x fs j/\y≠[]:=by
 unfold jb1;rw[List.mem_filter,List.mem_map];constructor
 ·rintro⟨⟨j,hj,rfl⟩,h⟩;exact⟨j,Qjr.1 hj,rfl,λe=>by rw[e] at h;simp at h⟩
 ·rintro⟨j,hj,rfl,h⟩;exact⟨⟨j,Qjr.2 hj,rfl⟩,by simpa using List.length_pos_iff.2 h⟩
section
variable{x fs:PLq}(hx:(chk x==0)=true)(hf:∀p∈fs,okp p=true){z0:Pt}(h1:Ins (x++ws) z0)(h2:Ins (fs++ws) z0)(h48:Sa6 x fs=true)
include hx hf h1 h2 h48
end
structure Pcs(c:PLq)(S ps:LPq):Prop where
 ful:∀y∈ps,ful y=true
 sub:∀y∈ps,∀z,Inr (y++ws) z->Inr (c++ws) z
 off:∀y∈ps,∀s∈S,Ce.ful s=true->∀z,Ins (y++ws) z->Inr (s++ws) z->False
 dis:ps.Pairwise λa b=>∀z,Ins (a++ws) z->Ins (b++ws) z->False
 cov:∀z,Inr (c++ws) z->(∃y∈ps,Inr (y++ws) z)\/∃s∈S,Ce.ful s=true/\Inr (s++ws) z
theorem zd1(s:LPq):s.foldl (λst q=>st.bind λps=>ma1 ps q) none=none:=by
 induction s with
 |nil=>rfl
 |cons q s ih=>exact ih
end Go.Ev.Ce
