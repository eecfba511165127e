/- Own work: a part of the proof. -/
import Derived.Test.YtlccibobknidjaaGreatEvEB
import Derived.Test.YtlccibobknidjaaGreatEvSp2
import Derived.Test.YtlccibobknidjaaGreatEvD4
import Derived.ChangeStays
import Derived.ChangeSame
import Derived.OpenShut
import Derived.RowKit
set_option linter.unusedVariables false
set_option linter.unusedSimpArgs false
set_option linter.unnecessarySimpa false
set_option linter.unusedSectionVars false
section
namespace Go.Ev.Ce
open Go Go.Ev Go.Ev.L Go.Proofs
set_option maxRecDepth 100000
noncomputable def Td2:List (Nat×Sum):=[(16,wb6),(109,Ub9),(110,Qc2)]
theorem Kd0:i6 prog G Td2:=⟨Hb7,ac0,ld2,trivial⟩
noncomputable def Eb4 (x:List Pln) (y:V3):Option (b7×List b8):=let t1:=(Oa9 (rt tP x));let t2:=(Ta5 y);let t3:=(ob3 (rt tP x) (⟨y.x,y.y,y.z,1⟩:Pt));(sl (okE tP x) (sl (Pa0 (rt tP x)) (sl (t1==0) (sl (Ta6 y) (sl t2 (sl (okE tP x) (sl (ob4 (rt tP x) (⟨y.x,y.y,y.z,1⟩:Pt)) (some ((b t3),[])) none) none) (some ((b false),[]))) none) (some ((b false),[]))) none) none)
noncomputable def bc0 (x:List Pln) (y:V3):Bool:=L4 (one r1B) (Eb4 x y)
noncomputable def bc1 (x:List Pln) (y:V3):Bool:=okO (one r1B) (Eb4 x y)
noncomputable def nd2:Sum:=pa2 (X5 tP) (S4 tV) (fun x y=>.guard (bc1 x y) (.ret ((one r1B).enc (bc0 x y),[])))
theorem Td3:g9 prog G 29 nd2:=ib8 (bd b29 Kd0) (one r1B) (o:=Eb4) fun x y=>s6 (by kernel_rfl)
noncomputable def Xc6:List (Nat×Sum):=[(180,Ab1)]
theorem Kd1:i6 prog G Xc6:=⟨Vb1,trivial⟩
structure db6 where
 c7:List Pln
 f9:Int
 b9:Int
 g7:Int
 d9:Int
structure oa3 where
 is5:Int
noncomputable def wd7 (p:db6) (s:oa3):St:=⟨((eL tP p.c7)::(.unk::(.unk::((.ptr 0 0 0 0)::(.unk::((i s.is5)::(ra 43 []))))))),[⟨0,4,[[(i p.f9),(i p.b9),(i p.g7),(i p.d9)]],true,false,0⟩]⟩
noncomputable def La6 {α:Type} (k:oa3→α) (e:Nat→α) (z:α) (p:db6) (s:oa3):α:=let t1:=(Z7 (gL tP p.c7 s.is5.toNat) (⟨(⟨p.f9,p.b9,p.g7⟩:V3),p.d9⟩:Pln));(sl (decide (s.is5 < (↑(List.length p.c7):Int))) (sl (inB s.is5 (List.length p.c7)) (sl (Za3 (gL tP p.c7 s.is5.toNat) (⟨(⟨p.f9,p.b9,p.g7⟩:V3),p.d9⟩:Pln)) (sl (decide (t1 < 0)) (k ⟨(W (s.is5+1))⟩) (e 1)) z) z) (e 2))
noncomputable def Ga8 (p:db6) (s:oa3):Stp oa3:=La6 .next .exit .fail p s
noncomputable def Wb6:Lo db6 oa3:=⟨En Xc6,0,He9,[1,1,0,4,4],[0,3,5],.p,[⟨((.s (.c 4 (nL tP)))::((.s (.o .unk))::((.s (.o .unk))::((.s (.o (.ptr 0 0 0 0)))::((.s (.o .unk))::((.s (.o (.int .i64)))::(ru2 43 []))))))),[⟨0,4,true,(some [[(.o (.int .i64)),(.o (.int .i64)),(.o (.int .i64)),(.o (.int .i64))]])⟩],fun a H=>(⟨(rL tP (slT a 0)),(toI (slT (rwT (elT H 0) 0) 0)),(toI (slT (rwT (elT H 0) 0) 1)),(toI (slT (rwT (elT H 0) 0) 2)),(toI (slT (rwT (elT H 0) 0) 3))⟩,⟨(toI (slT a 5))⟩)⟩],Ga8,[(some 0,fun p s=>let t1:=(Z7 (gL tP p.c7 s.is5.toNat) (⟨(⟨p.f9,p.b9,p.g7⟩:V3),p.d9⟩:Pln));⟨((eL tP p.c7)::(.unk::(.unk::((.ptr 0 0 0 0)::(.unk::((i s.is5)::(.unk::((i s.is5)::((eL tP p.c7)::((i (↑(List.length p.c7):Int))::((b (decide (s.is5 < (↑(List.length p.c7):Int))))::((b true)::((eL tP p.c7)::((i s.is5)::((.tptr [(i (gL tP p.c7 s.is5.toNat).n.x),(i (gL tP p.c7 s.is5.toNat).n.y),(i (gL tP p.c7 s.is5.toNat).n.z),(i (gL tP p.c7 s.is5.toNat).b)])::((.agg [(i (gL tP p.c7 s.is5.toNat).n.x),(i (gL tP p.c7 s.is5.toNat).n.y),(i (gL tP p.c7 s.is5.toNat).n.z),(i (gL tP p.c7 s.is5.toNat).b)])::((.agg [(i p.f9),(i p.b9),(i p.g7),(i p.d9)])::((i t1)::((b (decide (t1 < 0)))::((b (decide (t1 < 0)))::(ra 29 []))))))))))))))))))))),[⟨0,4,[[(i p.f9),(i p.b9),(i p.g7),(i p.d9)]],true,false,0⟩]⟩),(some 0,fun p s=>⟨((eL tP p.c7)::(.unk::(.unk::((.ptr 0 0 0 0)::(.unk::((i s.is5)::(.unk::((i s.is5)::((eL tP p.c7)::((i (↑(List.length p.c7):Int))::((b (decide (s.is5 < (↑(List.length p.c7):Int))))::((b false)::(u::(u::(u::(u::(u::(u::(u::((b false)::(ra 29 []))))))))))))))))))))),[⟨0,4,[[(i p.f9),(i p.b9),(i p.g7),(i p.d9)]],true,false,0⟩]⟩)],wd7⟩
theorem wd8:Wb6.Ok:=Lo.ok [] (by kernel_rfl) .nil rfl (.cons (fun a H=>by kernel_rfl) .nil) fun p s=>(.of @La6 (fun F _ _ _ _ _=>by unfold La6;(repeat' apply k9 (f:=F))<;>rfl) (by kernel_rfl))
noncomputable def Eb5 (x:List Pln) (y:Pln):Option (b7×List b8):=let t1:=(lp (Ga8 (⟨(rt tP x),y.n.x,y.n.y,y.n.z,y.b⟩:db6)) (⟨0⟩:oa3));let a0:=(o0 (fun k=>(fun k=>(tP).row (gL tP (rt tP x) k)) (0+k)) (List.range (t1.2.is5.toNat - 0)));let a1:=(o0 (fun k=>(fun k=>(tP).row (gL tP (rt tP x) k)) (t1.2.is5.toNat+k)) (List.range ((List.length (rt tP x)) - t1.2.is5.toNat)));let a2:=(inB t1.2.is5 ((List.length (rt tP x))+1));let a3:=(Nat.beq (0+(len a0)) (len (app [] a0))&&Nat.ble (((0+(len a0))+1)*32) room);let a4:=(((0+(len a0))+1)+(len a1));let a5:=(gL tP (rt tP x) t1.2.is5.toNat);let a6:=(Nat.beq 1 1&&Nat.ble ((1+(len a1))*32) room);let a7:=(Nat.beq 0 0&&Nat.ble ((0+(len a0))*32) room);(sl ((cnE tP x)&&true) (sl (Nat.beq t1.1 1) (sl (decide (t1.2.is5 < (↑(List.length (rt tP x)):Int))) (sl (inB t1.2.is5 (List.length (rt tP x))) (sl ((a5.n.x==y.n.x)&&((a5.n.y==y.n.y)&&((a5.n.z==y.n.z)&&((a5.b==y.b)&&true)))) (some ((eL tP (rt tP x)),[])) (sl a2 (sl (Nat.beq (len a0) 0) (sl a2 (sl (Nat.beq (len a1) 0) (some ((.sl 0 0 1 0),[⟨50,4,[[(i y.n.x),(i y.n.y),(i y.n.z),(i y.b)]],true,false,0⟩])) (sl a6 (some ((.sl 0 0 (1+(len a1)) 0),[⟨50,4,(app [[(i y.n.x),(i y.n.y),(i y.n.z),(i y.b)]] a1),true,false,0⟩])) none)) none) (sl a7 (sl a3 (sl a2 (sl (Nat.beq (len a1) 0) (some ((.sl 0 0 ((0+(len a0))+1) 0),[⟨50,4,(app (app [] a0) [[(i y.n.x),(i y.n.y),(i y.n.z),(i y.b)]]),true,false,0⟩])) (sl (Nat.beq ((0+(len a0))+1) (len (app (app [] a0) [[(i y.n.x),(i y.n.y),(i y.n.z),(i y.b)]]))&&Nat.ble (a4*32) room) (some ((.sl 0 0 a4 0),[⟨50,4,(app (app (app [] a0) [[(i y.n.x),(i y.n.y),(i y.n.z),(i y.b)]]) a1),true,false,0⟩])) none)) none) none) none)) none)) none) (sl a2 (sl (Nat.beq (len a0) 0) (sl a2 (sl (Nat.beq (len a1) 0) (some ((.sl 0 0 1 0),[⟨50,4,[[(i y.n.x),(i y.n.y),(i y.n.z),(i y.b)]],true,false,0⟩])) (sl a6 (some ((.sl 0 0 (1+(len a1)) 0),[⟨50,4,(app [[(i y.n.x),(i y.n.y),(i y.n.z),(i y.b)]] a1),true,false,0⟩])) none)) none) (sl a7 (sl a3 (sl a2 (sl (Nat.beq (len a1) 0) (some ((.sl 0 0 ((0+(len a0))+1) 0),[⟨50,4,(app (app [] a0) [[(i y.n.x),(i y.n.y),(i y.n.z),(i y.b)]]),true,false,0⟩])) (sl (Nat.beq ((0+(len a0))+1) (len (app (app [] a0) [[(i y.n.x),(i y.n.y),(i y.n.z),(i y.b)]]))&&Nat.ble (a4*32) room) (some ((.sl 0 0 a4 0),[⟨50,4,(app (app (app [] a0) [[(i y.n.x),(i y.n.y),(i y.n.z),(i y.b)]]) a1),true,false,0⟩])) none)) none) none) none)) none)) (sl (Nat.beq t1.1 2) (sl (decide (t1.2.is5 < (↑(List.length (rt tP x)):Int))) (sl (inB t1.2.is5 (List.length (rt tP x))) (sl ((a5.n.x==y.n.x)&&((a5.n.y==y.n.y)&&((a5.n.z==y.n.z)&&((a5.b==y.b)&&true)))) (some ((eL tP (rt tP x)),[])) (sl a2 (sl (Nat.beq (len a0) 0) (sl a2 (sl (Nat.beq (len a1) 0) (some ((.sl 0 0 1 0),[⟨50,4,[[(i y.n.x),(i y.n.y),(i y.n.z),(i y.b)]],true,false,0⟩])) (sl a6 (some ((.sl 0 0 (1+(len a1)) 0),[⟨50,4,(app [[(i y.n.x),(i y.n.y),(i y.n.z),(i y.b)]] a1),true,false,0⟩])) none)) none) (sl a7 (sl a3 (sl a2 (sl (Nat.beq (len a1) 0) (some ((.sl 0 0 ((0+(len a0))+1) 0),[⟨50,4,(app (app [] a0) [[(i y.n.x),(i y.n.y),(i y.n.z),(i y.b)]]),true,false,0⟩])) (sl (Nat.beq ((0+(len a0))+1) (len (app (app [] a0) [[(i y.n.x),(i y.n.y),(i y.n.z),(i y.b)]]))&&Nat.ble (a4*32) room) (some ((.sl 0 0 a4 0),[⟨50,4,(app (app (app [] a0) [[(i y.n.x),(i y.n.y),(i y.n.z),(i y.b)]]) a1),true,false,0⟩])) none)) none) none) none)) none)) none) (sl a2 (sl (Nat.beq (len a0) 0) (sl a2 (sl (Nat.beq (len a1) 0) (some ((.sl 0 0 1 0),[⟨50,4,[[(i y.n.x),(i y.n.y),(i y.n.z),(i y.b)]],true,false,0⟩])) (sl a6 (some ((.sl 0 0 (1+(len a1)) 0),[⟨50,4,(app [[(i y.n.x),(i y.n.y),(i y.n.z),(i y.b)]] a1),true,false,0⟩])) none)) none) (sl a7 (sl a3 (sl a2 (sl (Nat.beq (len a1) 0) (some ((.sl 0 0 ((0+(len a0))+1) 0),[⟨50,4,(app (app [] a0) [[(i y.n.x),(i y.n.y),(i y.n.z),(i y.b)]]),true,false,0⟩])) (sl (Nat.beq ((0+(len a0))+1) (len (app (app [] a0) [[(i y.n.x),(i y.n.y),(i y.n.z),(i y.b)]]))&&Nat.ble (a4*32) room) (some ((.sl 0 0 a4 0),[⟨50,4,(app (app (app [] a0) [[(i y.n.x),(i y.n.y),(i y.n.z),(i y.b)]]) a1),true,false,0⟩])) none)) none) none) none)) none)) none)) none)
noncomputable def lb9 (x:List Pln) (y:Pln):List Pln:=L4 (one (r1L tP)) (Eb5 x y)
noncomputable def mb0 (x:List Pln) (y:Pln):Bool:=okO (one (r1L tP)) (Eb5 x y)
noncomputable def nd3:Sum:=pa2 (X5 tP) (S4 tP) (fun x y=>.guard (mb0 x y) (.ret ((one (r1L tP)).enc (lb9 x y),[])))
theorem Td4:g9 prog G 106 nd3:=ib8 (bd hf4 Kd1) (one (r1L tP)) (o:=Eb5) fun x y=>ua4 (.s .p (.s .p (.s (.b (.u Wb6.ls)) .p))) [Wb6.pr] (by kernel_rfl) (.cons wd8 .nil) (by kernel_rfl)
structure te6 where
 Ec6:List Pln
 df2:List Pt
structure te7 where
 is6:Int
end Go.Ev.Ce
end
namespace Go.Ev.L
open Go Go.Ev
noncomputable def Re9:Cod Unit where
 enc _:=.v (.slice none 0 0)
 dec x:=match x with
  | .v (.slice none 0 0)=>some ()
  | _=>none
 grd _:=true
 ok x a hx _:=by
  split at hx
  ·exact .refl _
  ·cases hx
noncomputable def cE0:Cod (Addr×Nat) where
 enc z:=.v (.slice (some z.1) 0 z.2)
 dec x:=match x with
  | .v (.slice (some a) 0 c)=>some (a,c)
  | _=>none
 grd _:=true
 ok x a hx _:=by
  split at hx
  ·cases hx;exact .refl _
  ·cases hx
section
variable {α:Type} {t:Ty α} {P:Program} {G:Nat→List Value} {f:FuncId}
theorem wd9 {β:Type} {c:Cod β} {k k':β→DT (b7×List b8)} (h:g9 P G f (S3 c k)) (hk:∀ a r,(k' a).run=some r→(k a).run=some r):g9 P G f (S3 c k'):=h.le fun args blks r hr=>by
 unfold S3 at hr ⊢
 split at hr
 ·obtain⟨a,h1,hr⟩:=M6 hr
  obtain⟨g,hr⟩:=DT.run_guard_some hr
  simp only[h1,onO,g]
  exact hk a r hr
 ·cases hr
theorem Se0 {k:List α→DT (b7×List b8)} (hA:g9 P G f (S3 (je5 t) fun z=>k (z.1::z.2))) (hN:g9 P G f (S3 Re9 fun _=>k [])) (hE:g9 P G f (S3 cE0 fun _=>k [])):g9 P G f (S3 (X5 t) k):=by
 intro args blks r out he W ρ F w args' hH hlen hargs hG
 unfold S3 at he
 split at he
 ·rename_i x
  obtain⟨a,h1,he⟩:=M6 he
  obtain⟨g1,hk⟩:=DT.run_guard_some he
  have nilCase:∀ v',args'[0]?=some v'→v'=.slice none 0 0→a=[]→mb7 P f∧Calls P f args'.toArray w fun e w'=>∃ r',e=.returned r'∧N8 W ρ [] F w r out r' w':=fun v' hv e ha=>by
   subst ha
   refine hN [.v (.slice none 0 0)] [] r out ?_ W ρ F w args' hH hlen (fun i x' y' hx hy=>?_) hG
   ·exact hk
   ·match i with
    | 0=>cases hx;rw[hv] at hy;cases hy;rw[e];exact .val (.cell (.v _))
    | i+1=>cases hx
  have emptyCase:∀ v' ad c,args'[0]?=some v'→v'=.slice (some ad) 0 c→a=[]→mb7 P f∧Calls P f args'.toArray w fun e w'=>∃ r',e=.returned r'∧N8 W ρ [] F w r out r' w':=fun v' ad c hv e ha=>by
   subst ha
   refine hE [.v (.slice (some ad) 0 c)] [] r out ?_ W ρ F w args' hH hlen (fun i x' y' hx hy=>?_) hG
   ·exact hk
   ·match i with
    | 0=>cases hx;rw[hv] at hy;cases hy;rw[e];exact .val (.cell (.v _))
    | i+1=>cases hx
  obtain⟨v',hv⟩:∃ v',args'[0]?=some v':=by
   cases args' with
   | nil=>simp at hlen
   | cons v' r'=>exact⟨v',rfl⟩
  cases x with
  | tree e n get =>
   have hb:Nat.beq e t.es=true∧a=lsL t n get:=by
    have h1:(Bool.rec none (some (lsL t n get)) (Nat.beq e t.es):Option (List α))=some a:=h1
    cases hb:Nat.beq e t.es with
    | false=>rw[hb] at h1;cases h1
    | true =>
     rw[hb] at h1
     have h1:some (lsL t n get)=some a:=h1
     injection h1 with h1
     exact⟨rfl,h1.symm⟩
   cases n with
   | zero =>
    have ha:a=[]:=hb.2
    have hm:=wa2 (hargs 0 _ v' rfl hv)
    cases hm with
    | tree _ _ _ ad cap cs hs hcap hes hF hw hr=>exact emptyCase _ ad cap hv rfl ha
    | nil=>exact nilCase _ hv rfl ha
   | succ m =>
    have ha:a=hC t get::tC t m get:=hb.2.trans (Bd5 t m get)
    subst ha
    refine hA [.tree e (m+1) get] [] r out ?_ W ρ F w args' hH hlen hargs hG
    have hc:(je5 t).dec (.tree e (m+1) get)=some (hC t get,tC t m get):=by
     show (Bool.rec none (some (hC t get,tC t m get)) (Nat.beq e t.es):Option (α×List α))=_
     rw[hb.1]
    have hg:(je5 t).grd (.tree e (m+1) get)=true:=g1
    simp only[S3,hc,onO,hg]
    exact hk
  | v q =>
   have hq:=ea3 (hargs 0 _ v' rfl hv)
   unfold X5 at h1
   simp only at h1
   split at h1
   ·rename_i heq;cases heq
   ·rename_i heq
    injection heq with heq
    injection h1 with h1
    exact nilCase v' hv (hq.trans heq) h1.symm
   ·rename_i ad c heq
    injection heq with heq
    injection h1 with h1
    exact emptyCase v' _ _ hv (hq.trans heq) h1.symm
   ·cases h1
  | _=>cases h1
 ·cases he
end
end Go.Ev.L
section
namespace Go.Ev.Ce
open Go Go.Ev Go.Ev.L Go.Proofs
set_option maxRecDepth 100000
noncomputable def rb7:List (Nat×Sum):=[]
theorem cc9:i6 prog G rb7:=trivial
@[reducible] noncomputable def xb3:Sum:=i8 (En rb7) Je8
theorem kc3:g9 prog G 231 xb3:=bd mf4 cc9
noncomputable def rb8:List (Nat×Sum):=[]
theorem dc0:i6 prog G rb8:=trivial
@[reducible] noncomputable def xb4:Sum:=i8 (En rb8) Je7
theorem kc4:g9 prog G 230 xb4:=bd mf3 dc0
noncomputable def Eb6:List (Nat×Sum):=[(230,xb4),(231,xb3)]
theorem tc9:i6 prog G Eb6:=⟨kc4,kc3,trivial⟩
@[reducible] noncomputable def Nb0:Sum:=i8 (En Eb6) Ie7
theorem Ac7:g9 prog G 178 Nb0:=bd kf4 tc9
structure C6 where
noncomputable def ca4:List (Nat×Sum):=[]
theorem Ea9:i6 prog G ca4:=trivial
structure r9 where
structure m9 where
noncomputable def Ba0 (p:r9) (s:m9):St:=⟨((.v (.slice none 0 0))::((i 0)::((i 0)::((.fn 104 [])::(ra 4 ((i 1)::(ra 44 []))))))),[]⟩
noncomputable def I5 {α:Type} (k:m9→α) (e:Nat→α) (z:α) (p:r9) (s:m9):α:=(e 1)
noncomputable def K2 (p:r9) (s:m9):Stp m9:=I5 .next .exit .fail p s
noncomputable def L2:Lo r9 m9:=⟨En ca4,0,Je6,[1,4,4],[0,1,2,3,8],.p,[⟨((.s (.o .nil))::((.s (.o (.lit .i64 0)))::((.s (.o (.lit .i64 0)))::((.s (.o (.fn 104)))::(ru2 4 ((.s (.o (.lit .i64 1)))::(ru2 44 []))))))),[],fun a H=>(⟨⟩,⟨⟩)⟩],K2,[(some 0,fun p s=>⟨((.v (.slice none 0 0))::((i 0)::((i 0)::((.fn 104 [])::(ra 4 ((i 1)::(ra 3 ((i 1)::((i 0)::((b false)::(ra 38 []))))))))))),[]⟩)],Ba0⟩
theorem Ba1:L2.Ok:=Lo.ok [] (by kernel_rfl) .nil rfl (.cons (fun a H=>by kernel_rfl) .nil) fun p s=>(.of @I5 (fun F _ _ _ _ _=>by unfold I5;(repeat' apply k9 (f:=F))<;>rfl) (by kernel_rfl))
structure C7 where
 alt:Nat
noncomputable def p9 {α:Type} (kk:C7→α) (x:C6):α:=let t1:=(lp (K2 (⟨⟩:r9)) (⟨⟩:m9));(sl (Nat.beq t1.1 1) (kk ⟨1⟩) (kk ⟨0⟩))
noncomputable def C8 (x:C6):C7:=p9 (fun r=>r) x
noncomputable def M1 (x:C6) (r:C7):DT (b7×List b8):=(.ite (Nat.beq r.alt 1) (.ret ((.tup []),[])) .fail)
theorem Ia3 {α β:Type} (F:α→β) (kk:C7→α) (x:C6):F (p9 kk x)=p9 (fun r=>F (kk r)) x:=by unfold p9;(repeat' apply k9 (f:=F))<;>rfl
noncomputable def ea7:Sum:=Qa9 ⟨[(.s (.o .nil)),(.s (.o (.lit .i64 0))),(.s (.o (.lit .i64 0))),(.s (.o (.fn 104)))],[],fun a H=>(⟨⟩,())⟩ (fun x=>M1 x (C8 x))
theorem Ga9:g9 prog G 222 ea7:=K4 (enc:=fun x=>⟨[(.v (.slice none 0 0)),(i 0),(i 0),(.fn 104 [])],[]⟩) (fun a H=>by kernel_rfl) (bd mf2 Ea9) fun x=>ua4 (.s .p (.b (.u L2.ls))) [L2.pr] (by kernel_rfl) (.cons Ba1 .nil) (Eq.trans (b:=p9 (fun r=>(M1 x r).run) x) (by kernel_rfl) (Ia3 (fun r=>(M1 x r).run) (fun r=>r) x).symm)
structure M2 where
noncomputable def qa5:List (Nat×Sum):=[(222,ea7)]
theorem Va1:i6 prog G qa5:=⟨Ga9,trivial⟩
structure B6 where
structure p8 where
noncomputable def Pa8 (p:B6) (s:p8):St:=⟨((.v (.slice none 0 0))::((i 0)::((i 0)::((i 0)::((.fn 104 [])::(ra 5 ((b true)::((b true)::(ra 136 []))))))))),[]⟩
noncomputable def F5 {α:Type} (k:p8→α) (e:Nat→α) (z:α) (p:B6) (s:p8):α:=let t1:=(C8 ⟨⟩);(sl (Nat.beq t1.alt 1) (e 1) z)
noncomputable def G8 (p:B6) (s:p8):Stp p8:=F5 .next .exit .fail p s
noncomputable def U0:Lo B6 p8:=⟨En qa5,0,Ie6,[1,1,4,4],[0,1,2,3,4,10,11],.p,[⟨((.s (.o .nil))::((.s (.o (.lit .i64 0)))::((.s (.o (.lit .i64 0)))::((.s (.o (.lit .i64 0)))::((.s (.o (.fn 104)))::(ru2 5 ((.s (.o (.blit true)))::((.s (.o (.blit true)))::(ru2 136 []))))))))),[],fun a H=>(⟨⟩,⟨⟩)⟩],G8,[(none,fun p s=>⟨[(.tup [])],[]⟩)],Pa8⟩
theorem Pa9:U0.Ok:=Lo.ok [] (by kernel_rfl) .nil rfl (.cons (fun a H=>by kernel_rfl) .nil) fun p s=>(.of @F5 (fun F _ _ _ _ _=>by unfold F5;(repeat' apply k9 (f:=F))<;>rfl) (by kernel_rfl))
structure M3 where
 alt:Nat
noncomputable def y6 {α:Type} (kk:M3→α) (x:M2):α:=let t1:=(lp (G8 (⟨⟩:B6)) (⟨⟩:p8));(sl (Nat.beq t1.1 1) (kk ⟨1⟩) (kk ⟨0⟩))
noncomputable def M4 (x:M2):M3:=y6 (fun r=>r) x
noncomputable def V1 (x:M2) (r:M3):DT (b7×List b8):=(.ite (Nat.beq r.alt 1) (.ret ((.tup []),[])) .fail)
theorem Ya3 {α β:Type} (F:α→β) (kk:M3→α) (x:M2):F (y6 kk x)=y6 (fun r=>F (kk r)) x:=by unfold y6;(repeat' apply k9 (f:=F))<;>rfl
noncomputable def ta9:Sum:=Qa9 ⟨[(.s (.o .nil)),(.s (.o (.lit .i64 0))),(.s (.o (.lit .i64 0))),(.s (.o (.lit .i64 0))),(.s (.o (.fn 104)))],[],fun a H=>(⟨⟩,())⟩ (fun x=>V1 x (M4 x))
theorem Va6:g9 prog G 177 ta9:=K4 (enc:=fun x=>⟨[(.v (.slice none 0 0)),(i 0),(i 0),(i 0),(.fn 104 [])],[]⟩) (fun a H=>by kernel_rfl) (bd kf3 Va1) fun x=>ua4 (.s .p (.s .p (.b (.u U0.ls)))) [U0.pr] (by kernel_rfl) (.cons Pa9 .nil) (Eq.trans (b:=y6 (fun r=>(V1 x r).run) x) (by kernel_rfl) (Ya3 (fun r=>(V1 x r).run) (fun r=>r) x).symm)
structure aa2 where
noncomputable def ub9:List (Nat×Sum):=[(177,ta9),(178,Nb0)]
theorem rb9:i6 prog G ub9:=⟨Va6,Ac7,trivial⟩
structure aa3 where
 alt:Nat
noncomputable def H8 {α:Type} (kk:aa3→α) (x:aa2):α:=let t1:=(M4 ⟨⟩);(sl (Nat.beq t1.alt 1) (kk ⟨1⟩) (kk ⟨0⟩))
noncomputable def aa4 (x:aa2):aa3:=H8 (fun r=>r) x
noncomputable def la7 (x:aa2) (r:aa3):DT (b7×List b8):=(.ite (Nat.beq r.alt 1) (.ret ((.tup []),[])) .fail)
theorem Bb3 {α β:Type} (F:α→β) (kk:aa3→α) (x:aa2):F (H8 kk x)=H8 (fun r=>F (kk r)) x:=by unfold H8;(repeat' apply k9 (f:=F))<;>rfl
noncomputable def La7:Sum:=Qa9 ⟨[(.s (.o .nil)),(.s (.o (.fn 104)))],[],fun a H=>(⟨⟩,())⟩ (fun x=>la7 x (aa4 x))
theorem vb0:g9 prog G 103 La7:=K4 (enc:=fun x=>⟨[(.v (.slice none 0 0)),(.fn 104 [])],[]⟩) (fun a H=>by kernel_rfl) (bd hf0 rb9) fun x=>s6 (Eq.trans (b:=H8 (fun r=>(la7 x r).run) x) (by kernel_rfl) (Bb3 (fun r=>(la7 x r).run) (fun r=>r) x).symm)
structure X2 where
 g8:List Pt
noncomputable def Fa0:List (Nat×Sum):=[]
theorem kb6:i6 prog G Fa0:=trivial
structure J5 where
 g8:List Pt
structure w6 where
noncomputable def hb6 (p:J5) (s:w6):St:=⟨((.v (.slice none 0 0))::((.fn 101 [(.ptr 0 0 0 0)])::(ra 5 ((i 0)::((i 0)::(ra 10 [])))))),[⟨0,1,[[(eL tX p.g8)]],true,false,0⟩]⟩
noncomputable def ba8 {α:Type} (k:w6→α) (e:Nat→α) (z:α) (p:J5) (s:w6):α:=(e 1)
noncomputable def ea2 (p:J5) (s:w6):Stp w6:=ba8 .next .exit .fail p s
noncomputable def ha0:Lo J5 w6:=⟨En Fa0,1,Ed4,[1,0,1,4,4],[0,1,7,8],.p,[⟨((.s (.o .nil))::((.fn 101 [(.o (.ptr 0 0 0 0))])::(ru2 5 ((.s (.o (.lit .i64 0)))::((.s (.o (.lit .i64 0)))::(ru2 10 [])))))),[⟨0,1,true,(some [[(.c 4 (nL tX))]])⟩],fun a H=>(⟨(rL tX (slT (rwT (elT H 0) 0) 0))⟩,⟨⟩)⟩],ea2,[(some 0,fun p s=>⟨((.v (.slice none 0 0))::((.fn 101 [(.ptr 0 0 0 0)])::(ra 5 ((i 0)::((i 0)::((b false)::(ra 9 []))))))),[⟨0,1,[[(eL tX p.g8)]],true,false,0⟩]⟩)],hb6⟩
theorem hb7:ha0.Ok:=Lo.ok [] (by kernel_rfl) .nil rfl (.cons (fun a H=>by kernel_rfl) .nil) fun p s=>(.of @ba8 (fun F _ _ _ _ _=>by unfold ba8;(repeat' apply k9 (f:=F))<;>rfl) (by kernel_rfl))
structure X3 where
 alt:Nat
 g8:List Pt
noncomputable def E8 {α:Type} (kk:X3→α) (x:X2):α:=let t1:=(lp (ea2 (⟨(rt tX x.g8)⟩:J5)) (⟨⟩:w6));(sl ((cnE tX x.g8)&&true) (sl (Nat.beq t1.1 1) (kk ⟨1,(rt tX x.g8)⟩) (kk ⟨0,[]⟩)) (kk ⟨0,[]⟩))
noncomputable def la8 (x:X2):X3:=E8 (fun r=>r) x
noncomputable def ja7 (x:X2) (r:X3):DT (b7×List b8):=(.ite (Nat.beq r.alt 1) (.ret ((i (-1)),[⟨0,1,[[(eL tX r.g8)]],true,false,0⟩])) .fail)
theorem vb1 {α β:Type} (F:α→β) (kk:X3→α) (x:X2):F (E8 kk x)=E8 (fun r=>F (kk r)) x:=by unfold E8;(repeat' apply k9 (f:=F))<;>rfl
noncomputable def Ha7:Sum:=Qa9 ⟨[(.s (.o .nil)),(.fn 101 [(.o (.ptr 0 0 0 0))])],[⟨0,1,true,(some [[(.c 4 (nL tX))]])⟩],fun a H=>(⟨(rL tX (slT (rwT (elT H 0) 0) 0))⟩,())⟩ (fun x=>ja7 x (la8 x))
theorem sb0:g9 prog G 163 Ha7:=K4 (enc:=fun x=>⟨[(.v (.slice none 0 0)),(.fn 101 [(.ptr 0 0 0 0)])],[⟨0,1,[[(eL tX x.g8)]],true,false,0⟩]⟩) (fun a H=>by kernel_rfl) (bd Be0 kb6) fun x=>ua4 (.s .p (.s (.s .p (.b (.u ha0.ls))) .p)) [ha0.pr] (by kernel_rfl) (.cons hb7 .nil) (Eq.trans (b:=E8 (fun r=>(ja7 x r).run) x) (by kernel_rfl) (vb1 (fun r=>(ja7 x r).run) (fun r=>r) x).symm)
structure U1 where
 g8:List Pt
noncomputable def kb7:List (Nat×Sum):=[(163,Ha7)]
theorem hb8:i6 prog G kb7:=⟨sb0,trivial⟩
structure U2 where
 alt:Nat
 g8:List Pt
noncomputable def C9 {α:Type} (kk:U2→α) (x:U1):α:=let t1:=(la8 ⟨(rt tX x.g8)⟩);(sl ((cnE tX x.g8)&&true) (sl (Nat.beq t1.alt 1) (kk ⟨1,t1.g8⟩) (kk ⟨0,[]⟩)) (kk ⟨0,[]⟩))
noncomputable def U3 (x:U1):U2:=C9 (fun r=>r) x
noncomputable def ha3 (x:U1) (r:U2):DT (b7×List b8):=(.ite (Nat.beq r.alt 1) (.ret ((.v (.slice none 0 0)),[⟨0,1,[[(eL tX r.g8)]],true,false,0⟩])) .fail)
theorem sb1 {α β:Type} (F:α→β) (kk:U2→α) (x:U1):F (C9 kk x)=C9 (fun r=>F (kk r)) x:=by unfold C9;(repeat' apply k9 (f:=F))<;>rfl
noncomputable def Fa1:Sum:=Qa9 ⟨[(.s (.o .nil)),(.fn 101 [(.o (.ptr 0 0 0 0))])],[⟨0,1,true,(some [[(.c 4 (nL tX))]])⟩],fun a H=>(⟨(rL tX (slT (rwT (elT H 0) 0) 0))⟩,())⟩ (fun x=>ha3 x (U3 x))
theorem kb8:g9 prog G 99 Fa1:=K4 (enc:=fun x=>⟨[(.v (.slice none 0 0)),(.fn 101 [(.ptr 0 0 0 0)])],[⟨0,1,[[(eL tX x.g8)]],true,false,0⟩]⟩) (fun a H=>by kernel_rfl) (bd b99 hb8) fun x=>ua4 .p [] (by kernel_rfl) .nil (Eq.trans (b:=C9 (fun r=>(ha3 x r).run) x) (by kernel_rfl) (sb1 (fun r=>(ha3 x r).run) (fun r=>r) x).symm)
structure ca5 where
noncomputable def Bb4:List (Nat×Sum):=[]
theorem vb2:i6 prog G Bb4:=trivial
structure ca6 where
noncomputable def Q5 {α:Type} (kk:ca6→α) (x:ca5):α:=(kk ⟨⟩)
noncomputable def Eb7 (x:ca5):ca6:=Q5 (fun r=>r) x
noncomputable def qa4 (x:ca5) (r:ca6):DT (b7×List b8):=.ret ((.v (.slice none 0 0)),[])
theorem Eb8 {α β:Type} (F:α→β) (kk:ca6→α) (x:ca5):F (Q5 kk x)=Q5 (fun r=>F (kk r)) x:=by unfold Q5;(repeat' apply k9 (f:=F))<;>rfl
noncomputable def Pa6:Sum:=Qa9 ⟨[(.s (.o .nil))],[],fun a H=>(⟨⟩,())⟩ (fun x=>qa4 x (Eb7 x))
theorem Bb5:g9 prog G 105 Pa6:=K4 (enc:=fun x=>⟨[(.v (.slice none 0 0))],[]⟩) (fun a H=>by kernel_rfl) (bd Ze7 vb2) fun x=>ua4 .p [] (by kernel_rfl) .nil (Eq.trans (b:=Q5 (fun r=>(qa4 x r).run) x) (by kernel_rfl) (Eb8 (fun r=>(qa4 x r).run) (fun r=>r) x).symm)
noncomputable def Kb9:List (Nat×Sum):=[]
theorem Eb9:i6 prog G Kb9:=trivial
structure ka8 where
noncomputable def X9 {α:Type} (kk:ka8→α) (x:Unit):α:=(kk ⟨⟩)
noncomputable def Nb9 (x:Unit):ka8:=X9 (fun r=>r) x
noncomputable def va9 (r:ka8):DT (b7×List b8):=.ret ((.v (.slice none 0 0)),[])
theorem Ob0 {α β:Type} (F:α→β) (kk:ka8→α) (x:Unit):F (X9 kk x)=X9 (fun r=>F (kk r)) x:=by unfold X9;(repeat' apply k9 (f:=F))<;>rfl
noncomputable def Va9:Sum:=S3 Re9 (fun x=>va9 (Nb9 x))
theorem Lb0:g9 prog G 100 Va9:=Gb8 (bd Pe0 Eb9) fun x=>s6 (Eq.trans (b:=X9 (fun r=>(va9 r).run) x) (by kernel_rfl) (Ob0 (fun r=>(va9 r).run) (fun r=>r) x).symm)
noncomputable def fd7:List (Nat×Sum):=[(20,ua7),(18,pa5),(100,Va9),(99,Fa1),(103,La7),(105,Pa6)]
theorem Xc7:i6 prog G fd7:=⟨va3,sa8,Lb0,kb8,vb0,Bb5,trivial⟩
noncomputable def Va2 (x:Unit):Option (b7×List b8):=let t1:=(ba2 []);let t2:=(R9 []);let t4:=(U3 ⟨(rt tX t2)⟩);let t5:=(aa4 ⟨⟩);(sl (ba3 []) (sl (!t1) (some ((.v (.slice none 0 0)),[])) (sl (S1 []) (sl ((cnE tX t2)&&true) (sl (Nat.beq t4.alt 1) (sl (Nat.beq t5.alt 1) (some ((.v (.slice none 0 0)),[])) none) none) none) none)) none)
noncomputable def Lb1 (x:Unit):List Pln:=L4 (one (r1L tP)) (Va2 x)
noncomputable def Lb2 (x:Unit):Bool:=okO (one (r1L tP)) (Va2 x)
noncomputable def xd0:Sum:=S3 Re9 (fun x=>.guard (Lb2 x) (.ret ((one (r1L tP)).enc (Lb1 x),[])))
theorem fd8:g9 prog G 25 xd0:=Aa9 (bd b25 Xc7) (one (r1L tP)) (o:=Va2) fun x=>s6 (by kernel_rfl)
noncomputable def Lb3:List (Nat×Sum):=[]
theorem Fb0:i6 prog G Lb3:=trivial
structure ka9 where
noncomputable def Y0 {α:Type} (kk:ka9→α) (x:Addr×Nat):α:=(kk ⟨⟩)
noncomputable def Ob1 (x:Addr×Nat):ka9:=Y0 (fun r=>r) x
noncomputable def wa0 (r:ka9):DT (b7×List b8):=.ret ((.sl 0 0 0 0),[⟨50,4,[],true,false,0⟩])
theorem Ob2 {α β:Type} (F:α→β) (kk:ka9→α) (x:Addr×Nat):F (Y0 kk x)=Y0 (fun r=>F (kk r)) x:=by unfold Y0;(repeat' apply k9 (f:=F))<;>rfl
noncomputable def Wa0:Sum:=S3 cE0 (fun x=>wa0 (Ob1 x))
theorem Lb4:g9 prog G 100 Wa0:=Gb8 (bd Pe0 Fb0) fun x=>s6 (Eq.trans (b:=Y0 (fun r=>(wa0 r).run) x) (by kernel_rfl) (Ob2 (fun r=>(wa0 r).run) (fun r=>r) x).symm)
noncomputable def fd9:List (Nat×Sum):=[(20,ua7),(18,pa5),(100,Wa0),(99,la5),(103,ta8),(105,va8)]
theorem Xc8:i6 prog G fd9:=⟨va3,sa8,Lb4,Ea5,La5,Pa5,trivial⟩
noncomputable def Va3 (x:Addr×Nat):Option (b7×List b8):=let t1:=(ba2 []);let t2:=(R9 []);let t4:=(E6 ⟨0,[],(rt tX t2)⟩);let t5:=(T9 ⟨t4.ns0,(app (bL tP (La4 (slR tP t4.eh0 0 t4.ns0))) (e7 t4.eh0 t4.ns0))⟩);(sl (ba3 []) (sl (!t1) (some ((.v (.slice none 0 0)),[])) (sl (S1 []) (sl ((cnE tX t2)&&true) (sl (Nat.beq t4.alt 1) (sl (Bool.and (Nat.ble t4.ns0 room) (Bool.and (Nat.ble t4.ns0 (len t4.eh0)) (okS tP t4.eh0 0 t4.ns0))) (sl (Nat.beq t5.alt 1) (some ((.sl 0 0 t5.ns0 0),[⟨50,4,t5.eh0,true,false,0⟩])) none) none) none) none) none)) none)
noncomputable def uc0 (x:Addr×Nat):List Pln:=L4 (one (r1L tP)) (Va3 x)
noncomputable def uc1 (x:Addr×Nat):Bool:=okO (one (r1L tP)) (Va3 x)
noncomputable def xd1:Sum:=S3 cE0 (fun x=>.guard (uc1 x) (.ret ((one (r1L tP)).enc (uc0 x),[])))
theorem gd0:g9 prog G 25 xd1:=Aa9 (bd b25 Xc8) (one (r1L tP)) (o:=Va3) fun x=>s6 (by kernel_rfl)
end Go.Ev.Ce
end
section
namespace Go.Ev.Ce
open Go Go.Ev Go.Ev.L Go.Proofs
set_option maxRecDepth 100000
noncomputable def fc2:List (Nat×Sum):=[(98,ma3),(97,Zb9)]
theorem Xc9:i6 prog G fc2:=⟨ta0,jc4,trivial⟩
structure ba9 where
 is1:Int
structure u9 where
 ph:Nat
 is7:Int
 e8:List Int
 b9:Int
 ns6:Nat
 eh1:List (List b7)
noncomputable def Ac8 (p:ba9) (s:u9):St:=⟨(.unk::((i p.is1)::(ra 3 ((.ptr 0 0 0 0)::((.v (.slice none 0 0))::((i s.is7)::(ra 19 []))))))),[⟨0,2,[[(eL tI s.e8),(i s.b9)]],true,false,0⟩]⟩
noncomputable def Ac9 (p:ba9) (s:u9):St:=⟨(.unk::((i p.is1)::(ra 3 ((.ptr 0 0 0 0)::((.sl 1 0 s.ns6 0)::((i s.is7)::(ra 19 []))))))),[⟨0,2,[[(eL tI s.e8),(i s.b9)]],true,false,0⟩,⟨36,3,s.eh1,true,false,0⟩]⟩
noncomputable def Ic6 (p:ba9) (s:u9):St:=(sel (Nat.beq s.ph 1) (Ac9 p s) (Ac8 p s))
noncomputable def ua0 {α:Type} (k:u9→α) (e:Nat→α) (z:α) (p:ba9) (s:u9):α:=let t1:=(l4 ⟨4,(rt tI s.e8),s.b9⟩);let t2:=(Ga5 ⟨(toI (hdA (e7 (f7 [[(i 8)],[(i 8)],[(i 3)],[(i 24)]] (0+t1.is0.toNat)) 0))),(rt tI (rt tI s.e8)),t1.b9⟩);(sl (decide (s.is7 < p.is1)) (sl ((cnE tI s.e8)&&true) (sl (Nat.beq t1.alt 1) (sl (inB t1.is0 4) (sl (((Nat.blt (0+t1.is0.toNat) (len [[(i 8)],[(i 8)],[(i 3)],[(i 24)]]))&&(Nat.ble (0+1) (len (f7 [[(i 8)],[(i 8)],[(i 3)],[(i 24)]] (0+t1.is0.toNat)))))&&(K7 [(CK.int .i64)] (e7 (f7 [[(i 8)],[(i 8)],[(i 3)],[(i 24)]] (0+t1.is0.toNat)) 0))) (sl ((cnE tI (rt tI s.e8))&&true) (sl (Nat.beq t2.alt 1) (k ⟨1,(W (s.is7+1)),t2.e8,t2.b9,1,[[(i t2.oa6),(i t2.oa7),(i t2.oa8)]]⟩) z) z) z) z) z) z) (e 1))
noncomputable def Y6 {α:Type} (k:u9→α) (e:Nat→α) (z:α) (p:ba9) (s:u9):α:=let t1:=(l4 ⟨4,(rt tI s.e8),s.b9⟩);let t2:=(Ga5 ⟨(toI (hdA (e7 (f7 [[(i 8)],[(i 8)],[(i 3)],[(i 24)]] (0+t1.is0.toNat)) 0))),(rt tI (rt tI s.e8)),t1.b9⟩);(sl (decide (s.is7 < p.is1)) (sl ((cnE tI s.e8)&&true) (sl (Nat.beq t1.alt 1) (sl (inB t1.is0 4) (sl (((Nat.blt (0+t1.is0.toNat) (len [[(i 8)],[(i 8)],[(i 3)],[(i 24)]]))&&(Nat.ble (0+1) (len (f7 [[(i 8)],[(i 8)],[(i 3)],[(i 24)]] (0+t1.is0.toNat)))))&&(K7 [(CK.int .i64)] (e7 (f7 [[(i 8)],[(i 8)],[(i 3)],[(i 24)]] (0+t1.is0.toNat)) 0))) (sl ((cnE tI (rt tI s.e8))&&true) (sl (Nat.beq t2.alt 1) (sl (Nat.beq s.ns6 (len s.eh1)&&Nat.ble ((s.ns6+1)*24) room) (k ⟨1,(W (s.is7+1)),t2.e8,t2.b9,(s.ns6+1),(app s.eh1 [[(i t2.oa6),(i t2.oa7),(i t2.oa8)]])⟩) z) z) z) z) z) z) z) (e 2))
noncomputable def Na1 (p:ba9) (s:u9):Stp u9:=(sel (Nat.beq s.ph 1) (Y6 .next .exit .fail p s) (ua0 .next .exit .fail p s))
noncomputable def sb2:Lo ba9 u9:=⟨En fc2,0,We0,[1,1,1,0,1,4,4],[1,5,6,7],.p,[⟨((.s (.o .unk))::((.s (.o (.int .i64)))::(ru2 3 ((.s (.o (.ptr 0 0 0 0)))::((.s (.o .nil))::((.s (.o (.int .i64)))::(ru2 19 []))))))),[⟨0,2,true,(some [[(.c 1 (nL tI)),(.o (.int .i64))]])⟩],fun a H=>(⟨(toI (slT a 1))⟩,⟨0,(toI (slT a 7)),(rL tI (slT (rwT (elT H 0) 0) 0)),(toI (slT (rwT (elT H 0) 0) 1)),0,[]⟩)⟩,⟨((.s (.o .unk))::((.s (.o (.int .i64)))::(ru2 3 ((.s (.o (.ptr 0 0 0 0)))::((.s (.o (.sl 1 0 (some 0) none)))::((.s (.o (.int .i64)))::(ru2 19 []))))))),[⟨0,2,true,(some [[(.c 1 (nL tI)),(.o (.int .i64))]])⟩,⟨36,3,true,none⟩],fun a H=>(⟨(toI (slT a 1))⟩,⟨1,(toI (slT a 7)),(rL tI (slT (rwT (elT H 0) 0) 0)),(toI (slT (rwT (elT H 0) 0) 1)),(slN (slT a 6)),(elT H 1)⟩)⟩],Na1,[(some 0,fun p s=>⟨(.unk::((i p.is1)::(ra 3 ((.ptr 0 0 0 0)::((.v (.slice none 0 0))::((i s.is7)::(ra 3 ((i s.is7)::((i p.is1)::((b (decide (s.is7 < p.is1)))::(ra 13 []))))))))))),[⟨0,2,[[(eL tI s.e8),(i s.b9)]],true,false,0⟩]⟩),(some 0,fun p s=>⟨(.unk::((i p.is1)::(ra 3 ((.ptr 0 0 0 0)::((.sl 1 0 s.ns6 0)::((i s.is7)::(ra 3 ((i s.is7)::((i p.is1)::((b (decide (s.is7 < p.is1)))::(ra 13 []))))))))))),[⟨0,2,[[(eL tI s.e8),(i s.b9)]],true,false,0⟩,⟨36,3,s.eh1,true,false,0⟩]⟩)],Ic6⟩
theorem Ic7:sb2.Ok:=Lo.ok [] (by kernel_rfl) .nil rfl (.cons (fun a H=>by kernel_rfl) (.cons (fun a H=>by kernel_rfl) .nil)) fun p s=>(.sel (Nat.beq s.ph 1) (.of @Y6 (fun F _ _ _ _ _=>by unfold Y6;(repeat' apply k9 (f:=F))<;>rfl) (by kernel_rfl)) (.of @ua0 (fun F _ _ _ _ _=>by unfold ua0;(repeat' apply k9 (f:=F))<;>rfl) (by kernel_rfl)))
noncomputable def Va4 (x:List Int) (y:Int):Option (b7×List b8):=let t1:=(lp (Na1 (⟨y⟩:ba9)) (⟨0,0,(rt tI x),0,0,[]⟩:u9));(sl ((cnE tI x)&&true) (sl (Nat.beq t1.1 1) (some ((.v (.slice none 0 0)),[])) (sl (Nat.beq t1.1 2) (some ((.sl 0 0 t1.2.ns6 0),[⟨36,3,t1.2.eh1,true,false,0⟩])) none)) none)
noncomputable def kb9 (x:List Int) (y:Int):List V3:=L4 (one (r1L tV)) (Va4 x y)
noncomputable def Lb5 (x:List Int) (y:Int):Bool:=okO (one (r1L tV)) (Va4 x y)
noncomputable def uc2:Sum:=pa2 (X5 tI) cI (fun x y=>.guard (Lb5 x y) (.ret ((one (r1L tV)).enc (kb9 x y),[])))
theorem gd1:g9 prog G 24 uc2:=ib8 (bd b24 Xc9) (one (r1L tV)) (o:=Va4) fun x y=>ua4 (.s .p (.s .p (.s .p (.s (.s .p (.b (.u sb2.ls))) .p)))) [sb2.pr] (by kernel_rfl) (.cons Ic7 .nil) (by kernel_rfl)
noncomputable def Wb7:List (Nat×Sum):=[(21,ic3),(19,qc0),(37,Hb5),(106,nd3)]
theorem xd2:i6 prog G Wb7:=⟨Cc7,bd2,Sb9,Td4,trivial⟩
structure ha4 where
 c7:List Pln
 K3:List Pt
 is5:Int
 sb7:List Pln
structure M5 where
 ph:Nat
 is6:Int
 is7:Int
noncomputable def Yc0 (p:ha4) (s:M5):St:=⟨((eL tP p.c7)::(.unk::(.unk::((eL tX p.K3)::((.v (.slice none 0 0))::((i p.is5)::((i s.is6)::((i s.is7)::(ra 38 []))))))))),[]⟩
noncomputable def Yc1 (p:ha4) (s:M5):St:=⟨((eL tP p.c7)::(.unk::(.unk::((eL tX p.K3)::((eL tP p.sb7)::((i p.is5)::((i s.is6)::((i s.is7)::(ra 38 []))))))))),[]⟩
noncomputable def gd2 (p:ha4) (s:M5):St:=(sel (Nat.beq s.ph 1) (Yc1 p s) (Yc0 p s))
noncomputable def ja8 {α:Type} (k:M5→α) (e:Nat→α) (z:α) (p:ha4) (s:M5):α:=let t1:=(Na5 (gL tP p.c7 p.is5.toNat) (gL tX p.K3 s.is7.toNat));(sl (decide (s.is7 < (↑(List.length p.K3):Int))) (sl (inB p.is5 (List.length p.c7)) (sl (inB s.is7 (List.length p.K3)) (sl (t1==0) (k ⟨0,(W (s.is6+1)),(W (s.is7+1))⟩) (k ⟨0,s.is6,(W (s.is7+1))⟩)) z) z) (e 1))
noncomputable def ja9 {α:Type} (k:M5→α) (e:Nat→α) (z:α) (p:ha4) (s:M5):α:=let t1:=(Na5 (gL tP p.c7 p.is5.toNat) (gL tX p.K3 s.is7.toNat));(sl (decide (s.is7 < (↑(List.length p.K3):Int))) (sl (inB p.is5 (List.length p.c7)) (sl (inB s.is7 (List.length p.K3)) (sl (t1==0) (k ⟨1,(W (s.is6+1)),(W (s.is7+1))⟩) (k ⟨1,s.is6,(W (s.is7+1))⟩)) z) z) (e 2))
noncomputable def La8 (p:ha4) (s:M5):Stp M5:=(sel (Nat.beq s.ph 1) (ja9 .next .exit .fail p s) (ja8 .next .exit .fail p s))
noncomputable def Lb6:Lo ha4 M5:=⟨En Wb7,0,Oe8,[1,1,1,1,0,1,4,4,1,0,4,1,0,1,4,4],[0,3,4,5,6,7],.p,[⟨((.s (.c 4 (nL tP)))::((.s (.o .unk))::((.s (.o .unk))::((.s (.c 4 (nL tX)))::((.s (.o .nil))::((.s (.o (.int .i64)))::((.s (.o (.int .i64)))::((.s (.o (.int .i64)))::(ru2 38 []))))))))),[],fun a H=>(⟨(rL tP (slT a 0)),(rL tX (slT a 3)),(toI (slT a 5)),[]⟩,⟨0,(toI (slT a 6)),(toI (slT a 7))⟩)⟩,⟨((.s (.c 4 (nL tP)))::((.s (.o .unk))::((.s (.o .unk))::((.s (.c 4 (nL tX)))::((.s (.c 4 (nL tP)))::((.s (.o (.int .i64)))::((.s (.o (.int .i64)))::((.s (.o (.int .i64)))::(ru2 38 []))))))))),[],fun a H=>(⟨(rL tP (slT a 0)),(rL tX (slT a 3)),(toI (slT a 5)),(rL tP (slT a 4))⟩,⟨1,(toI (slT a 6)),(toI (slT a 7))⟩)⟩],La8,[(some 2,fun p s=>⟨((eL tP p.c7)::(.unk::(.unk::((eL tX p.K3)::((.v (.slice none 0 0))::((i p.is5)::((i s.is6)::((i s.is7)::(ra 11 ((i s.is7)::((eL tX p.K3)::((i (↑(List.length p.K3):Int))::((b (decide (s.is7 < (↑(List.length p.K3):Int))))::(ra 23 [])))))))))))))),[]⟩),(some 2,fun p s=>⟨((eL tP p.c7)::(.unk::(.unk::((eL tX p.K3)::((eL tP p.sb7)::((i p.is5)::((i s.is6)::((i s.is7)::(ra 11 ((i s.is7)::((eL tX p.K3)::((i (↑(List.length p.K3):Int))::((b (decide (s.is7 < (↑(List.length p.K3):Int))))::(ra 23 [])))))))))))))),[]⟩)],gd2⟩
theorem gd3:Lb6.Ok:=Lo.ok [] (by kernel_rfl) .nil rfl (.cons (fun a H=>by kernel_rfl) (.cons (fun a H=>by kernel_rfl) .nil)) fun p s=>(.sel (Nat.beq s.ph 1) (.of @ja9 (fun F _ _ _ _ _=>by unfold ja9;(repeat' apply k9 (f:=F))<;>rfl) (by kernel_rfl)) (.of @ja8 (fun F _ _ _ _ _=>by unfold ja8;(repeat' apply k9 (f:=F))<;>rfl) (by kernel_rfl)))
structure oa4 where
structure F6 where
 ph:Nat
 c7:List Pln
 K3:List Pt
 is5:Int
 sb7:List Pln
noncomputable def Yc2 (p:oa4) (s:F6):St:=⟨((eL tP s.c7)::(.unk::(.unk::((eL tX s.K3)::((.v (.slice none 0 0))::((i s.is5)::(ra 40 []))))))),[]⟩
noncomputable def Yc3 (p:oa4) (s:F6):St:=⟨((eL tP s.c7)::(.unk::(.unk::((eL tX s.K3)::((eL tP s.sb7)::((i s.is5)::(ra 40 []))))))),[]⟩
noncomputable def gd4 (p:oa4) (s:F6):St:=(sel (Nat.beq s.ph 1) (Yc3 p s) (Yc2 p s))
noncomputable def ka0 {α:Type} (k:F6→α) (e:Nat→α) (z:α) (p:oa4) (s:F6):α:=let t1:=(lp (La8 (⟨(rt tP s.c7),(rt tX s.K3),s.is5,[]⟩:ha4)) (⟨0,0,0⟩:M5));let t2:=(lb9 [] (gL tP (rt tP s.c7) s.is5.toNat));let t3:=(lb9 (rt tP []) (gL tP (rt tP s.c7) s.is5.toNat));(sl (decide (s.is5 < (↑(List.length s.c7):Int))) (sl ((cnE tP s.c7)&&((cnE tX s.K3)&&true)) (sl (Nat.beq t1.1 1) (sl (decide (t1.2.is6≥3)) (sl (inB s.is5 (List.length (rt tP s.c7))) (sl (mb0 [] (gL tP (rt tP s.c7) s.is5.toNat)) (k ⟨1,(rt tP s.c7),(rt tX s.K3),(W (s.is5+1)),t2⟩) z) z) (k ⟨0,(rt tP s.c7),(rt tX s.K3),(W (s.is5+1)),[]⟩)) (sl (Nat.beq t1.1 2) (sl (decide (t1.2.is6≥3)) (sl (inB s.is5 (List.length (rt tP s.c7))) (sl (okE tP []) (sl (mb0 (rt tP []) (gL tP (rt tP s.c7) s.is5.toNat)) (k ⟨1,(rt tP s.c7),(rt tX s.K3),(W (s.is5+1)),t3⟩) z) z) z) (k ⟨1,(rt tP s.c7),(rt tX s.K3),(W (s.is5+1)),[]⟩)) z)) z) (e 1))
noncomputable def ka1 {α:Type} (k:F6→α) (e:Nat→α) (z:α) (p:oa4) (s:F6):α:=let t1:=(lp (La8 (⟨(rt tP s.c7),(rt tX s.K3),s.is5,(rt tP s.sb7)⟩:ha4)) (⟨1,0,0⟩:M5));let t2:=(lb9 [] (gL tP (rt tP s.c7) s.is5.toNat));let t3:=(lb9 (rt tP (rt tP s.sb7)) (gL tP (rt tP s.c7) s.is5.toNat));(sl (decide (s.is5 < (↑(List.length s.c7):Int))) (sl ((cnE tP s.c7)&&((cnE tX s.K3)&&((cnE tP s.sb7)&&true))) (sl (Nat.beq t1.1 1) (sl (decide (t1.2.is6≥3)) (sl (inB s.is5 (List.length (rt tP s.c7))) (sl (mb0 [] (gL tP (rt tP s.c7) s.is5.toNat)) (k ⟨1,(rt tP s.c7),(rt tX s.K3),(W (s.is5+1)),t2⟩) z) z) (k ⟨0,(rt tP s.c7),(rt tX s.K3),(W (s.is5+1)),[]⟩)) (sl (Nat.beq t1.1 2) (sl (decide (t1.2.is6≥3)) (sl (inB s.is5 (List.length (rt tP s.c7))) (sl (okE tP (rt tP s.sb7)) (sl (mb0 (rt tP (rt tP s.sb7)) (gL tP (rt tP s.c7) s.is5.toNat)) (k ⟨1,(rt tP s.c7),(rt tX s.K3),(W (s.is5+1)),t3⟩) z) z) z) (k ⟨1,(rt tP s.c7),(rt tX s.K3),(W (s.is5+1)),(rt tP s.sb7)⟩)) z)) z) (e 2))
noncomputable def Za6 (p:oa4) (s:F6):Stp F6:=(sel (Nat.beq s.ph 1) (ka1 .next .exit .fail p s) (ka0 .next .exit .fail p s))
noncomputable def Lb7:Lo oa4 F6:=⟨En Wb7,0,Oe8,[1,1,1,1,0,1,4,4],[0,3,4,5],(.s .p (.s (.b (.s .p (.s (.s .p (.b (.u Lb6.ls))) .p))) .p)),[⟨((.s (.c 4 (nL tP)))::((.s (.o .unk))::((.s (.o .unk))::((.s (.c 4 (nL tX)))::((.s (.o .nil))::((.s (.o (.int .i64)))::(ru2 40 []))))))),[],fun a H=>(⟨⟩,⟨0,(rL tP (slT a 0)),(rL tX (slT a 3)),(toI (slT a 5)),[]⟩)⟩,⟨((.s (.c 4 (nL tP)))::((.s (.o .unk))::((.s (.o .unk))::((.s (.c 4 (nL tX)))::((.s (.c 4 (nL tP)))::((.s (.o (.int .i64)))::(ru2 40 []))))))),[],fun a H=>(⟨⟩,⟨1,(rL tP (slT a 0)),(rL tX (slT a 3)),(toI (slT a 5)),(rL tP (slT a 4))⟩)⟩],Za6,[(some 0,fun p s=>⟨((eL tP s.c7)::(.unk::(.unk::((eL tX s.K3)::((.v (.slice none 0 0))::((i s.is5)::(ra 7 ((i s.is5)::((eL tP s.c7)::((i (↑(List.length s.c7):Int))::((b (decide (s.is5 < (↑(List.length s.c7):Int))))::(ra 29 [])))))))))))),[]⟩),(some 0,fun p s=>⟨((eL tP s.c7)::(.unk::(.unk::((eL tX s.K3)::((eL tP s.sb7)::((i s.is5)::(ra 7 ((i s.is5)::((eL tP s.c7)::((i (↑(List.length s.c7):Int))::((b (decide (s.is5 < (↑(List.length s.c7):Int))))::(ra 29 [])))))))))))),[]⟩)],gd4⟩
theorem gd5:Lb7.Ok:=Lo.ok [Lb6.pr] (by kernel_rfl) (.cons gd3 .nil) rfl (.cons (fun a H=>by kernel_rfl) (.cons (fun a H=>by kernel_rfl) .nil)) fun p s=>(.sel (Nat.beq s.ph 1) (.of @ka1 (fun F _ _ _ _ _=>by unfold ka1;(repeat' apply k9 (f:=F))<;>rfl) (by kernel_rfl)) (.of @ka0 (fun F _ _ _ _ _=>by unfold ka0;(repeat' apply k9 (f:=F))<;>rfl) (by kernel_rfl)))
noncomputable def sb3 (x:List Pln):Option (b7×List b8):=let t1:=(Wa8 (rt tP x));let t2:=(jb0 (rt tP x));let t3:=(lp (Za6 (⟨⟩:oa4)) (⟨0,(rt tP x),(rt tX t2),0,[]⟩:F6));(sl (okE tP x) (sl (Na7 (rt tP x)) (sl (!t1) (some ((.v (.slice none 0 0)),[])) (sl (okE tP x) (sl (jb1 (rt tP x)) (sl ((cnE tP x)&&((cnE tX t2)&&true)) (sl (Nat.beq t3.1 1) (some ((.v (.slice none 0 0)),[])) (sl (Nat.beq t3.1 2) (some ((eL tP t3.2.sb7),[])) none)) none) none) none)) none) none)
noncomputable def kc5 (x:List Pln):List Pln:=L4 (one (r1L tP)) (sb3 x)
noncomputable def kc6 (x:List Pln):Bool:=okO (one (r1L tP)) (sb3 x)
noncomputable def Yc4:Sum:=S3 (X5 tP) (fun x=>.guard (kc6 x) (.ret ((one (r1L tP)).enc (kc5 x),[])))
theorem Kd2:g9 prog G 27 Yc4:=Aa9 (bd b27 xd2) (one (r1L tP)) (o:=sb3) fun x=>ua4 (.s .p (.s .p (.s .p (.s .p (.s (.s .p (.b (.u Lb7.ls))) .p))))) [Lb7.pr] (by kernel_rfl) (.cons gd5 .nil) (by kernel_rfl)
end Go.Ev.Ce
end
namespace Go.Ev.Ce
open Go Go.Ev Go.Ev.L Go.Proofs
theorem Fe7 (p q:Pln):pa8 p q=some (i (la0 p q),[]):=by
 have key:∃ t s,lp (H5 ⟨p.n.x,p.n.y,p.n.z,p.b,q.n.x,q.n.y,q.n.z,q.b⟩) ⟨0⟩=(t,s)∧((t=1∧la0 p q=-1)∨(t=2∧la0 p q=1)∨(t=3∧la0 p q=0)):=by
  refine va6 (step:=H5 ⟨p.n.x,p.n.y,p.n.z,p.b,q.n.x,q.n.y,q.n.z,q.b⟩) (mk:=fun j (_:Unit)=>(⟨(j:Int)⟩:O9)) 4
   (fun j _=>(1≤j→p.n.x=q.n.x)∧(2≤j→p.n.y=q.n.y)∧(3≤j→p.n.z=q.n.z)∧(4≤j→p.b=q.b))
   (fun t s=>(t=1∧la0 p q=-1)∨(t=2∧la0 p q=1)∨(t=3∧la0 p q=0)) (by omega) (fun j x hj hI=>?_) (fun j x hj hI=>?_) 0 () ⟨by omega,by omega,by omega,by omega⟩
  ·have hn:=p6 hj (show 4≤4611686018427387904 by omega)
   simp only[H5,T8,Int.toNat_natCast,hn]
   have hlt:(j:Int) < 4:=by omega
   have hin:=f0 hj
   have g:∀ x1 x2 x3 x4:Int,((Nat.ble ((0+(j*1))+1) 4)&&(K7 [(CK.int .i64)] (e7 [(i x1),(i x2),(i x3),(i x4)] (0+(j*1)))))=true:=by
    intro x1 x2 x3 x4
    match j,hj with
    | 0,_=>rfl
    | 1,_=>rfl
    | 2,_=>rfl
    | 3,_=>rfl
   rw[btD hlt]
   simp only[hin,g,q9]
   obtain⟨i1,i2,i3,i4⟩:=hI
   match j,hj with
   | 0,_ =>
    show Nx (sl (decide (p.n.x < q.n.x)) _ (sl (decide (p.n.x > q.n.x)) _ _)) _ _
    refine Nx.sl (fun h=>.ex ?_) fun h=>Nx.sl (fun h'=>.ex ?_) fun h'=>.nx ⟨(),rfl,?_⟩<;>simp only[decide_eq_true_eq,decide_eq_false_iff_not] at h
    ·left;exact⟨rfl,by simp[la0,rb6,h]⟩
    ·right;left;simp only[decide_eq_true_eq] at h';exact⟨rfl,by simp[la0,rb6,h,h']⟩
    ·simp only[decide_eq_false_iff_not] at h';exact⟨by omega,by omega,by omega,by omega⟩
   | 1,_ =>
    have j1:=i1 (by omega)
    show Nx (sl (decide (p.n.y < q.n.y)) _ (sl (decide (p.n.y > q.n.y)) _ _)) _ _
    refine Nx.sl (fun h=>.ex ?_) fun h=>Nx.sl (fun h'=>.ex ?_) fun h'=>.nx ⟨(),rfl,?_⟩<;>simp only[decide_eq_true_eq,decide_eq_false_iff_not] at h
    ·left;exact⟨rfl,by simp[la0,rb6,h,j1]⟩
    ·right;left;simp only[decide_eq_true_eq] at h';exact⟨rfl,by simp[la0,rb6,h,h',j1]⟩
    ·simp only[decide_eq_false_iff_not] at h';exact⟨fun _=>j1,by omega,by omega,by omega⟩
   | 2,_ =>
    have j1:=i1 (by omega);have j2:=i2 (by omega)
    show Nx (sl (decide (p.n.z < q.n.z)) _ (sl (decide (p.n.z > q.n.z)) _ _)) _ _
    refine Nx.sl (fun h=>.ex ?_) fun h=>Nx.sl (fun h'=>.ex ?_) fun h'=>.nx ⟨(),rfl,?_⟩<;>simp only[decide_eq_true_eq,decide_eq_false_iff_not] at h
    ·left;exact⟨rfl,by simp[la0,rb6,h,j1,j2]⟩
    ·right;left;simp only[decide_eq_true_eq] at h';exact⟨rfl,by simp[la0,rb6,h,h',j1,j2]⟩
    ·simp only[decide_eq_false_iff_not] at h';exact⟨fun _=>j1,fun _=>j2,by omega,by omega⟩
   | 3,_ =>
    have j1:=i1 (by omega);have j2:=i2 (by omega);have j3:=i3 (by omega)
    show Nx (sl (decide (p.b < q.b)) _ (sl (decide (p.b > q.b)) _ _)) _ _
    refine Nx.sl (fun h=>.ex ?_) fun h=>Nx.sl (fun h'=>.ex ?_) fun h'=>.nx ⟨(),rfl,?_⟩<;>simp only[decide_eq_true_eq,decide_eq_false_iff_not] at h
    ·left;exact⟨rfl,by simp[la0,rb6,h,j1,j2,j3]⟩
    ·right;left;simp only[decide_eq_true_eq] at h';exact⟨rfl,by simp[la0,rb6,h,h',j1,j2,j3]⟩
    ·simp only[decide_eq_false_iff_not] at h';exact⟨fun _=>j1,fun _=>j2,fun _=>j3,by omega⟩
  ·simp only[H5,T8]
   rw[bfD (by omega)]
   obtain⟨i1,i2,i3,i4⟩:=hI
   have j1:=i1 (by omega);have j2:=i2 (by omega);have j3:=i3 (by omega);have j4:=i4 (by omega)
   exact⟨_,rfl,.inr (.inr ⟨rfl,by simp[la0,rb6,j1,j2,j3,j4]⟩)⟩
 obtain⟨t,s,h1,h2⟩:=key
 unfold pa8
 simp only
 rw[h1]
 rcases h2 with⟨rfl,e⟩ | ⟨rfl,e⟩ | ⟨rfl,e⟩<;>rw[e]<;>rfl
theorem Se1 (p q:Pln):Z7 p q=la0 p q:=by unfold Z7;rw[Fe7];rfl
def atP (x:List Pln) (y:Pln):Nat:=x.findIdx fun p=>!decide (la0 p y < 0)
noncomputable def ins (x:List Pln) (y:Pln):List Pln:=if (atP x y < x.length∧eqP (gL tP x (atP x y)) y=true) then x else Nb6 x y (atP x y)
theorem Yc5 (x:List Pln) (y:Pln) (hx:x.length≤1000000):Rd (one (r1L tP)) (Eb5 x y) (fun r=>r=ins x y):=by
 have h:=ib9 (step:=Ga8 ⟨x,y.n.x,y.n.y,y.n.z,y.b⟩) (mk:=fun j=>(⟨(j:Int)⟩:oa3)) (c:=fun p=>!decide (la0 p y < 0)) (u:=1) (fin:=2) tP x (by omega)
  (fun j hj=>by
   simp only[Ga8,La6,Int.toNat_natCast,qe9,Se1,p6 hj (show x.length≤4611686018427387904 by omega)]
   rw[btD (n9 hj),bt (f0 hj),q9]
   show sl (decide (la0 (gL tP x j) y < 0)) _ _=_
   cases decide (la0 (gL tP x j) y < 0)<;>rfl)
  (by simp only[Ga8,La6];rw[bfD (Q3 (Nat.lt_irrefl _))]) 0 (Nat.zero_le _)
 rw[List.drop_zero] at h
 have key:∃ t,lp (Ga8 ⟨x,y.n.x,y.n.y,y.n.z,y.b⟩) ⟨0⟩=(t,⟨((atP x y:Nat):Int)⟩)∧(t=1∨t=2):=by
  rw[show (⟨0⟩:oa3)=⟨((0:Nat):Int)⟩ from rfl,h]
  split
  ·exact⟨1,by rw[Nat.zero_add];rfl,.inl rfl⟩
  ·rename_i hn
   refine⟨2,?_,.inr rfl⟩
   have:atP x y=x.length:=by
    unfold atP
    rw[List.findIdx_eq_length]
    intro p hp
    cases hb:(!decide (la0 p y < 0)) with
    | false=>rfl
    | true=>exact absurd (List.any_eq_true.2 ⟨p,hp,hb⟩) hn
   rw[this]
 obtain⟨t,h1,h2⟩:=key
 have h3:atP x y≤x.length:=List.findIdx_le_length
 have hdef:ins x y=if (atP x y < x.length∧eqP (gL tP x (atP x y)) y=true) then x else Nb6 x y (atP x y):=rfl
 generalize atP x y=n at *
 have hlo:inB (n:Int) (x.length+1)=true:=f0 (by omega)
 have hd:(bL tP (x.take n)).length=n:=by rw[← l9,P5,List.length_take];omega
 have hlen:(Nb6 x y n).length=x.length+1:=by unfold Nb6;simp only[List.length_append,List.length_cons,List.length_take,List.length_drop];omega
 have lt:len (bL tP (x.take n))=n:=by rw[l9];exact hd
 have ld:len (bL tP (x.drop n))=x.length - n:=by rw[P5,List.length_drop]
 have b1:(Nat.beq 1 1&&Nat.ble ((1+(x.length - n))*32) room)=true:=by rw[fa1 (by omega)];rfl
 have b2:(Nat.beq 0 0&&Nat.ble ((0+n)*32) room)=true:=by rw[fa1 (by omega)];rfl
 have e0:app [] (bL tP (x.take n))=bL tP (x.take n):=rfl
 have b3:(Nat.beq (0+n) n&&Nat.ble (((0+n)+1)*32) room)=true:=by rw[fa1 (by omega),Nat.zero_add,Nat.beq_refl];rfl
 have l3:len (bL tP (x.take n++[y]))=n+1:=by rw[P5,List.length_append,List.length_take];simp only[List.length_singleton];omega
 have b4:(Nat.beq ((0+n)+1) (n+1)&&Nat.ble ((((0+n)+1)+(x.length - n))*32) room)=true:=by rw[fa1 (by omega),Nat.zero_add,Nat.beq_refl];rfl
 have z0:∀ {k:Nat},Nat.beq k 0=true→k=0:=fun {k} h=>Nat.eq_of_beq_eq_true h
 have fin:ins x y=Nb6 x y n→∀ m r,m=x.length+1→r=bL tP (Nb6 x y n)→Rd (one (r1L tP)) (some (.sl 0 0 m 0,[⟨50,4,r,true,false,0⟩])) (fun r=>r=ins x y) :=
  fun hq m r hm hr=>Ab9 (by rw[hlen];exact hm) hr hq.symm
 have tail : ins x y = Nb6 x y n → Rd (one (r1L tP)) (sl (Nat.beq n 0) (sl (Nat.beq (x.length - n) 0) (some ((.sl 0 0 1 0), [⟨50, 4, [[(i y.n.x), (i y.n.y), (i y.n.z), (i y.b)]], true, false, 0⟩]))
   (some ((.sl 0 0 (1+(x.length - n)) 0),[⟨50,4,(app [[(i y.n.x),(i y.n.y),(i y.n.z),(i y.b)]] (bL tP (x.drop n))),true,false,0⟩])))
   (sl (Nat.beq (x.length - n) 0) (some ((.sl 0 0 ((0+n)+1) 0),[⟨50,4,bL tP (x.take n++[y]),true,false,0⟩]))
    (some ((.sl 0 0 (((0+n)+1)+(x.length - n)) 0),[⟨50,4,(app (bL tP (x.take n++[y])) (bL tP (x.drop n))),true,false,0⟩])))) (fun r=>r=ins x y):=fun hq=>by
  refine Rd.sl (fun q1=>Rd.sl (fun q2=>?_) (fun q2=>?_)) (fun q1=>Rd.sl (fun q2=>?_) (fun q2=>?_))
  ·have:=z0 q1;have:=z0 q2
   refine fin hq _ _ (by omega) ?_
   have:x=[]:=List.eq_nil_of_length_eq_zero (by omega)
   subst this
   rw[show n=0 by omega];rfl
  ·have:=z0 q1;subst this
   exact fin hq _ _ (by omega) rfl
  ·have:=z0 q2
   refine fin hq _ _ (by omega) ?_
   unfold Nb6
   rw[show x.drop n=[] from List.drop_eq_nil_of_le (by omega)]
  ·refine fin hq _ _ (by omega) ?_
   rw[Na3]
   unfold Nb6
   rw[List.append_assoc];rfl
 unfold Eb5
 simp only[m0,m8]
 rw[h1]
 simp only[Int.toNat_natCast,Wc1 x n h3,Wc2,lt,ld,b1,b2,e0,b3,Vb7,l3,b4,hlo,q9]
 have main : Rd (one (r1L tP)) (sl (decide ((n : Int) < (x.length : Int))) (sl (inB (n : Int) x.length) (sl (((gL tP x n).n.x == y.n.x) && (((gL tP x n).n.y == y.n.y) && (((gL tP x n).n.z == y.n.z) && (((gL tP x n).b == y.b) && true)))) (some (eL tP x, []))
   (sl (Nat.beq n 0) (sl (Nat.beq (x.length - n) 0) (some ((.sl 0 0 1 0),[⟨50,4,[[(i y.n.x),(i y.n.y),(i y.n.z),(i y.b)]],true,false,0⟩]))
   (some ((.sl 0 0 (1+(x.length - n)) 0),[⟨50,4,(app [[(i y.n.x),(i y.n.y),(i y.n.z),(i y.b)]] (bL tP (x.drop n))),true,false,0⟩])))
   (sl (Nat.beq (x.length - n) 0) (some ((.sl 0 0 ((0+n)+1) 0),[⟨50,4,bL tP (x.take n++[y]),true,false,0⟩]))
    (some ((.sl 0 0 (((0+n)+1)+(x.length - n)) 0),[⟨50,4,(app (bL tP (x.take n++[y])) (bL tP (x.drop n))),true,false,0⟩]))))) none)
   (sl (Nat.beq n 0) (sl (Nat.beq (x.length - n) 0) (some ((.sl 0 0 1 0),[⟨50,4,[[(i y.n.x),(i y.n.y),(i y.n.z),(i y.b)]],true,false,0⟩]))
   (some ((.sl 0 0 (1+(x.length - n)) 0),[⟨50,4,(app [[(i y.n.x),(i y.n.y),(i y.n.z),(i y.b)]] (bL tP (x.drop n))),true,false,0⟩])))
   (sl (Nat.beq (x.length - n) 0) (some ((.sl 0 0 ((0+n)+1) 0),[⟨50,4,bL tP (x.take n++[y]),true,false,0⟩]))
    (some ((.sl 0 0 (((0+n)+1)+(x.length - n)) 0),[⟨50,4,(app (bL tP (x.take n++[y])) (bL tP (x.drop n))),true,false,0⟩]))))) (fun r=>r=ins x y):=by
  by_cases hn:n < x.length
  ·rw[btD (n9 hn),bt (f0 hn)]
   exact Rd.sl (fun q=>⟨_,x,rfl,md0 tP x,by rw[hdef,if_pos ⟨hn,q⟩]⟩) fun q=>tail (by
    rw[hdef,if_neg fun h=>?_]
    have h:=h.2
    rw[show eqP (gL tP x n) y=false from q] at h
    cases h)
  ·rw[bfD (Q3 hn)]
   exact tail (by rw[hdef,if_neg fun h=>hn h.1])
 rcases h2 with rfl | rfl
 ·exact main
 ·exact main
def Ec2 (l:List Pln):Prop:=l.Pairwise LtP
theorem Bc0 {x y z:Pln} (h1:LtP x y) (h2:LtP y z):LtP x z:=by unfold LtP at *;omega
theorem xd3 (x:Pln):¬ LtP x x:=by unfold LtP;omega
theorem Yd8 (x y:Pln):LtP x y∨x=y∨LtP y x:=by
 by_cases h1:LtP x y
 ·exact .inl h1
 ·by_cases h2:LtP y x
  ·exact .inr (.inr h2)
  ·refine .inr (.inl ?_)
   unfold LtP at h1 h2
   have e1:x.n.x=y.n.x:=by omega
   have e2:x.n.y=y.n.y:=by omega
   have e3:x.n.z=y.n.z:=by omega
   have e4:x.b=y.b:=by omega
   cases x with | mk n b=>cases y with | mk m c=>cases n;cases m;simp_all
theorem nd4:∀ {l r:List Pln},Ec2 l→Ec2 r→(∀ p,p∈l↔p∈r)→l=r
 | [],[],_,_,_=>rfl
 | [],b::r,_,_,h=>by have:=(h b).2 List.mem_cons_self;cases this
 | a::l,[],_,_,h=>by have:=(h a).1 List.mem_cons_self;cases this
 | a::l,b::r,hl,hr,h=>by
  obtain⟨hl1,hl2⟩:=List.pairwise_cons.1 hl
  obtain⟨hr1,hr2⟩:=List.pairwise_cons.1 hr
  have hab:a=b:=by
   rcases List.mem_cons.1 ((h a).1 List.mem_cons_self) with e | h1
   ·exact e
   ·rcases List.mem_cons.1 ((h b).2 List.mem_cons_self) with e | h2
    ·exact e.symm
    ·exact absurd (Bc0 (hr1 a h1) (hl1 b h2)) (xd3 b)
  subst hab
  rw[nd4 hl2 hr2 fun p=>?_]
  constructor
  ·intro hp
   rcases List.mem_cons.1 ((h p).1 (List.mem_cons_of_mem _ hp)) with e | h1
   ·subst e;exact absurd (hl1 p hp) (xd3 p)
   ·exact h1
  ·intro hp
   rcases List.mem_cons.1 ((h p).2 (List.mem_cons_of_mem _ hp)) with e | h1
   ·subst e;exact absurd (hr1 p hp) (xd3 p)
   ·exact h1
def kc7:List Pln→Pln→List Pln
 | [],y=>[y]
 | a::l,y=>if la0 a y < 0 then a::kc7 l y else if eqP a y then a::l else y::a::l
theorem te8 (y:Pln):∀ x,ins x y=kc7 x y
 | []=>rfl
 | a::l=>by
  have ih:=te8 y l
  unfold kc7
  by_cases h:la0 a y < 0
  ·rw[if_pos h,← ih]
   have e:atP (a::l) y=atP l y+1:=by unfold atP;rw[List.findIdx_cons];simp[h]
   unfold ins
   rw[e]
   have e2:gL tP (a::l) (atP l y+1)=gL tP l (atP l y):=rfl
   rw[e2]
   simp only[List.length_cons,Nat.add_lt_add_iff_right]
   split
   ·rfl
   ·rfl
  ·rw[if_neg h]
   have e:atP (a::l) y=0:=by unfold atP;rw[List.findIdx_cons];simp[h]
   unfold ins
   rw[e]
   have e2:gL tP (a::l) 0=a:=rfl
   rw[e2]
   simp only[List.length_cons,Nat.zero_lt_succ,true_and]
   split
   ·rfl
   ·rfl
theorem uc3 (y p:Pln):∀ x,p∈kc7 x y↔p=y∨p∈x
 | []=>by simp[kc7]
 | a::l=>by
  unfold kc7
  have ih:=uc3 y p l
  split
  ·simp only[List.mem_cons,ih]
   constructor
   ·rintro (h | h | h)
    ·exact .inr (.inl h)
    ·exact .inl h
    ·exact .inr (.inr h)
   ·rintro (h | h | h)
    ·exact .inr (.inl h)
    ·exact .inl h
    ·exact .inr (.inr h)
  ·split
   ·rename_i h
    rw[xb2] at h
    subst h
    simp only[List.mem_cons]
    constructor
    ·exact fun h=>.inr h
    ·rintro (h | h)
     ·exact .inl h
     ·exact h
   ·simp only[List.mem_cons]
theorem Kd3 (y:Pln):∀ {x},Ec2 x→Ec2 (kc7 x y)
 | [],_=>List.pairwise_singleton _ _
 | a::l,h=>by
  obtain⟨h1,h2⟩:=List.pairwise_cons.1 h
  unfold kc7
  split
  ·rename_i hc
   rw[wd1] at hc
   refine List.pairwise_cons.2 ⟨fun p hp=>?_,Kd3 y h2⟩
   rcases (uc3 y p l).1 hp with e | hp
   ·subst e;exact hc
   ·exact h1 p hp
  ·rename_i hc
   rw[wd1] at hc
   split
   ·exact h
   ·rename_i hne
    have hlt:LtP y a:=by
     rcases Yd8 y a with h | h | h
     ·exact h
     ·exact absurd ((xb2 _ _).2 h.symm) hne
     ·exact absurd h hc
    refine List.pairwise_cons.2 ⟨fun p hp=>?_,h⟩
    rcases List.mem_cons.1 hp with e | hp
    ·subst e;exact hlt
    ·exact Bc0 hlt (h1 p hp)
end Go.Ev.Ce
namespace Go.Ev.Ce
open Go Go.Ev Go.Ev.L Go.Proofs
theorem xd4 {σ:Type} {step:σ→Stp σ} {s:σ} {t:Nat} (h:step s=.exit t):lp step s=(t,s):=by rw[je1];exact Oc0 h
theorem nd5:La4 []=[]:=List.eq_nil_of_length_eq_zero (ac9 [])
theorem Kd4:lean []=[]:=by
 unfold lean
 rw[wd6,if_pos rfl,List.filter_nil,nd5]
 rfl
theorem mf6 (X:List Pt):U3 ⟨X⟩=⟨1,X⟩:=by
 unfold U3 C9 la8 E8
 simp only[m0,m8]
 rw[xd4 (step:=ea2 ⟨X⟩) (s:=⟨⟩) (t:=1) rfl]
 rfl
theorem cf7:aa4 ⟨⟩=⟨1⟩:=by
 have h1:C8 ⟨⟩=⟨1⟩:=by
  unfold C8 p9
  simp only
  rw[xd4 (step:=K2 ⟨⟩) (s:=⟨⟩) (t:=1) rfl]
  rfl
 have h2:M4 ⟨⟩=⟨1⟩:=by
  unfold M4 y6
  simp only
  rw[xd4 (step:=G8 ⟨⟩) (s:=⟨⟩) (t:=1) (by
   unfold G8 F5
   simp only[h1]
   rfl)]
  rfl
 unfold aa4 H8
 simp only[h2]
 rfl
theorem Kd5 (x:Unit):Va2 x=some (.v (.slice none 0 0),[]):=by
 have hn:([]:List Pln).length≤1000000000:=by simp
 unfold Va2
 simp only[m0,m8,Ub6 hn,Ub7 hn,pb8 hn,pb9 hn,wd6,mf6,cf7]
 rfl
theorem Kd6 (x:Addr×Nat):Rd (one (r1L tP)) (Va3 x) (fun r=>r=[]):=by
 have hn:([]:List Pln).length≤1000000000:=by simp
 have hX:=sc5 []
 obtain⟨m,r,e1,e2,e3,e4⟩:=nd0 [] (pts []) hn (by omega)
 have hr:r=[]:=List.eq_nil_of_length_eq_zero (by simpa using e4)
 subst hr
 have hm:m=0:=by simpa using e2
 subst hm
 obtain⟨m2,r2,k1,k2,k3⟩:=Xc5 [] 0 (by simp) hn
 have e1:E6 ⟨0,[],pts []⟩=_:=e1
 unfold Va3
 simp only[m0,m8,Ub6 hn,Ub7 hn,pb8 hn,pb9 hn,wd6,e1]
 have hs:app (bL tP (La4 (slR tP (bL tP []) 0 0))) (e7 (bL tP []) 0)=bL tP []:=by
  rw[show slR tP (bL tP []) 0 0=[] from rfl,nd5];rfl
 rw[hs,k1]
 have hfin:r2.take m2=[]:=by rw[k3];rfl
 exact Sd8 (P:=fun r=>r=[]) k2 rfl hfin
noncomputable def Lb8 (l:List Pln):List Pln:=lean l
noncomputable def Lb9 (l:List Pln):Bool:=decide (l.length≤1000000)
noncomputable def uc4:Sum:=S3 (X5 tP) fun l=>.guard (Lb9 l) (.ret ((one (r1L tP)).enc (Lb8 l),[]))
theorem gd6:g9 prog G 25 uc4:=by
 refine Se0 (wd9 tc5 fun a r hr=>?_) (wd9 fd8 fun a r hr=>?_) (wd9 gd0 fun a r hr=>?_)
 ·obtain⟨p,c⟩:=a
  obtain⟨hg,hr⟩:=DT.run_guard_some hr
  have hl:c.length≤1000000:=by
   have:=of_decide_eq_true hg
   simp only[List.length_cons] at this
   omega
  rw[te2 p c hl,te3 p c hl]
  exact hr
 ·obtain⟨hg,hr⟩:=DT.run_guard_some hr
  have e:Lb1 a=lean []:=by unfold Lb1;rw[Kd5,Kd4];exact ya9 _ rfl
  have e2:Lb2 a=true:=by unfold Lb2;rw[Kd5];exact Ka3 (r:=[]) _ rfl
  rw[e,e2]
  exact hr
 ·obtain⟨hg,hr⟩:=DT.run_guard_some hr
  have e:uc0 a=lean []:=by rw[Kd4];exact (Kd6 a).p
  rw[e,show uc1 a=true from (Kd6 a).g]
  exact hr
end Go.Ev.Ce
namespace Go.Ev.Ce
open Go Go.Ev Go.Ev.L Go.Proofs
theorem Yd9 {c:List Pln} (hc:c.length≤1000000000) (v:V3):Eb4 c v=some (b (has c v),[]):=by
 unfold Eb4 has
 simp only[m0,K8,Tc0 c hc,Tc1 c hc,qe5,Yd0,af3 c _ hc,af4 c _ hc]
 cases chk c==0 with
 | false=>rfl
 | true=>cases inV v<;>rfl
theorem Se2 {c:List Pln} (hc:c.length≤1000000000) (v:V3):bc0 c v=has c v:=by unfold bc0;rw[Yd9 hc];rfl
theorem Se3 {c:List Pln} (hc:c.length≤1000000000) (v:V3):bc1 c v=true:=by unfold bc1;rw[Yd9 hc];rfl
end Go.Ev.Ce
namespace Go.Ev.Ce
def rmZ (p:Pln) (x:Pt):Int:=p.b*x.pw - (p.n.x*x.px+p.n.y*x.py+p.n.z*x.pz)
structure Inr (r:List Pln) (x:Pt):Prop where
 w:0 < x.pw
 h:∀ p∈r,0≤rmZ p x
def Bc1 (p:Pln):Pln:=⟨⟨-p.n.x,-p.n.y,-p.n.z⟩,-p.b⟩
theorem sb4 (p:Pln) (x:Pt):rmZ (Bc1 p) x=-rmZ p x:=by unfold rmZ Bc1;grind
structure Cn (r:List Pln) (x:Pt):Prop extends Inr r x where
 c:∃ p q s,p∈r∧q∈r∧s∈r∧mw p q s≠0∧rmZ p x=0∧rmZ q x=0∧rmZ s x=0
def Bdd (r:List Pln):Prop:=∀ d:V3,d≠⟨0,0,0⟩→∃ p∈r,0 < dot p.n d
def go (x:Pt) (q:Pln) (d:V3):Pt:=⟨x.px*dot q.n d+rmZ q x*d.x,x.py*dot q.n d+rmZ q x*d.y,x.pz*dot q.n d+rmZ q x*d.z,x.pw*dot q.n d⟩
theorem Kd7 (p q:Pln) (x:Pt) (d:V3):rmZ p (go x q d)=dot q.n d*rmZ p x - rmZ q x*dot p.n d:=by simp only[rmZ,go,dot];grind
theorem Za7 {a b c:Int} (hc:0 < c) (h:a*c≤b*c):a≤b:=Int.le_of_mul_le_mul_right h hc
theorem first (x:Pt) (d:V3):∀ r:List Pln,(∀ p∈r,0≤rmZ p x)→(∃ p∈r,0 < dot p.n d)→∃ q∈r,0 < dot q.n d∧∀ p∈r,0 < dot p.n d→rmZ q x*dot p.n d≤rmZ p x*dot q.n d
 | [],_,h=>by obtain⟨p,hp,_⟩:=h;cases hp
 | a::r,hx,h=>by
  by_cases hr:∃ p∈r,0 < dot p.n d
  ·obtain⟨q,hq,h1,h2⟩:=first x d r (fun p hp=>hx p (List.mem_cons_of_mem _ hp)) hr
   by_cases ha:0 < dot a.n d
   ·by_cases hc:rmZ q x*dot a.n d≤rmZ a x*dot q.n d
    ·refine⟨q,List.mem_cons_of_mem _ hq,h1,fun p hp h3=>?_⟩
     rcases List.mem_cons.1 hp with rfl | hp
     ·exact hc
     ·exact h2 p hp h3
    ·refine⟨a,List.mem_cons_self,ha,fun p hp h3=>?_⟩
     rcases List.mem_cons.1 hp with rfl | hp
     ·exact Int.le_refl _
     ·have h4:=h2 p hp h3
      have h5:rmZ a x*dot q.n d < rmZ q x*dot a.n d:=by omega
      have h6:=Int.mul_le_mul_of_nonneg_right h4 (Int.le_of_lt ha)
      have h7:=Int.mul_lt_mul_of_pos_right h5 h3
      have e1:rmZ q x*dot p.n d*dot a.n d=rmZ q x*dot a.n d*dot p.n d:=by grind
      have e2:rmZ a x*dot q.n d*dot p.n d=rmZ a x*dot p.n d*dot q.n d:=by grind
      have e3:rmZ p x*dot q.n d*dot a.n d=rmZ p x*dot a.n d*dot q.n d:=by grind
      refine Za7 h1 ?_
      omega
   ·refine⟨q,List.mem_cons_of_mem _ hq,h1,fun p hp h3=>?_⟩
    rcases List.mem_cons.1 hp with rfl | hp
    ·exact absurd h3 ha
    ·exact h2 p hp h3
  ·have ha : 0 < dot a.n d := by
    obtain⟨p,hp,h3⟩:=h
    rcases List.mem_cons.1 hp with rfl | hp
    ·exact h3
    ·exact absurd ⟨p,hp,h3⟩ hr
   refine⟨a,List.mem_cons_self,ha,fun p hp h3=>?_⟩
   rcases List.mem_cons.1 hp with rfl | hp
   ·exact Int.le_refl _
   ·exact absurd ⟨p,hp,h3⟩ hr
theorem step {r:List Pln} {x:Pt} (hx:Inr r x) (d:V3) (h:∃ p∈r,0 < dot p.n d):∃ q∈r,0 < dot q.n d∧Inr r (go x q d):=by
 obtain⟨q,hq,h1,h2⟩:=first x d r hx.h h
 refine⟨q,hq,h1,⟨Int.mul_pos hx.w h1,fun p hp=>?_⟩⟩
 rw[Kd7]
 have h3:=hx.h p hp
 have h4:=hx.h q hq
 by_cases h5:0 < dot p.n d
 ·have:=h2 p hp h5
  have e:rmZ p x*dot q.n d=dot q.n d*rmZ p x:=Int.mul_comm _ _
  omega
 ·have h6:=Int.mul_nonneg (Int.le_of_lt h1) h3
  have h7:rmZ q x*dot p.n d≤0:=Int.mul_nonpos_of_nonneg_of_nonpos h4 (by omega)
  omega
theorem te9 {h q:Pln} {x:Pt} {d:V3} (h1:0≤rmZ q x) (h2:0≤dot h.n d):rmZ h (go x q d)*x.pw≤rmZ h x*(go x q d).pw∨x.pw≤0:=by
 rcases Int.lt_or_le 0 x.pw with hw | hw
 ·left
  rw[Kd7]
  have:=Int.mul_nonneg h1 h2
  have h3:=Int.mul_nonneg this (Int.le_of_lt hw)
  have e:rmZ h x*(go x q d).pw=dot q.n d*rmZ h x*x.pw:=by unfold go;grind
  have e2:(dot q.n d*rmZ h x - rmZ q x*dot h.n d)*x.pw=dot q.n d*rmZ h x*x.pw - rmZ q x*dot h.n d*x.pw:=by grind
  omega
 ·exact .inr hw
def neg (d:V3):V3:=⟨-d.x,-d.y,-d.z⟩
theorem Zd0 (a d:V3):dot a (neg d)=-dot a d:=by unfold dot neg;grind
theorem Se4 {d:V3} (h:d≠⟨0,0,0⟩):neg d≠⟨0,0,0⟩:=fun h'=>h (by
 cases d;unfold neg at h';simp only[V3.mk.injEq] at h' ⊢;omega)
theorem turn (h:Pln) {d:V3} (hd:d≠⟨0,0,0⟩):∃ e,e≠(⟨0,0,0⟩:V3)∧0≤dot h.n e∧∀ a,dot a d=0→dot a e=0:=by
 by_cases h1:0≤dot h.n d
 ·exact⟨d,hd,h1,fun _ h=>h⟩
 ·exact⟨neg d,Se4 hd,by rw[Zd0];omega,fun a h=>by rw[Zd0,h];rfl⟩
theorem Se5 {n:V3} (hn:n≠⟨0,0,0⟩):∃ d,d≠(⟨0,0,0⟩:V3)∧dot n d=0:=by
 by_cases h:n.x=0∧n.y=0
 ·exact⟨⟨1,0,0⟩,by simp,by unfold dot;simp[h.1]⟩
 ·refine⟨⟨n.y,-n.x,0⟩,fun h'=>h ?_,by unfold dot;grind⟩
  simp only[V3.mk.injEq] at h'
  omega
theorem V3.ext' {a b:V3} (h1:a.x=b.x) (h2:a.y=b.y) (h3:a.z=b.z):a=b:=by cases a;cases b;simp_all
theorem Kd8 {m n d:V3} (hm:m≠⟨0,0,0⟩) (h1:dot m d=0) (h2:dot n d≠0):q7 m n≠⟨0,0,0⟩:=fun h=>by
 unfold q7 at h
 simp only[V3.mk.injEq] at h
 obtain⟨c1,c2,c3⟩:=h
 unfold dot at h1 h2
 have e1:m.x*(n.x*d.x+n.y*d.y+n.z*d.z)=0:=by grind
 have e2:m.y*(n.x*d.x+n.y*d.y+n.z*d.z)=0:=by grind
 have e3:m.z*(n.x*d.x+n.y*d.y+n.z*d.z)=0:=by grind
 have k:∀ {a:Int},a*(n.x*d.x+n.y*d.y+n.z*d.z)=0→a=0:=fun h=>(Int.mul_eq_zero.1 h).resolve_right h2
 exact hm (V3.ext' (k e1) (k e2) (k e3))
theorem Ec3 (a b:V3):dot a (q7 a b)=0:=by unfold dot q7;grind
theorem Ec4 (a b:V3):dot b (q7 a b)=0:=by unfold dot q7;grind
theorem ue0 {p q:Pln} {x:Pt} {d:V3} (h:rmZ p x=0) (h':dot p.n d=0):rmZ p (go x q d)=0:=by rw[Kd7,h,h'];simp
theorem ue1 (q:Pln) (x:Pt) (d:V3):rmZ q (go x q d)=0:=by rw[Kd7];grind
theorem cf8 {q:Pln} {d:V3} (h:0 < dot q.n d):q.n≠⟨0,0,0⟩:=fun h'=>by rw[h'] at h;unfold dot at h;simp at h
theorem Le3 {a b c u v w:Int} (hu:0 < u) (hv:0 < v) (hw:0 < w) (h1:a*v≤b*u) (h2:b*w≤c*v):a*w≤c*u:=by
 have h3:=Int.mul_le_mul_of_nonneg_right h1 (Int.le_of_lt hw)
 have h4:=Int.mul_le_mul_of_nonneg_right h2 (Int.le_of_lt hu)
 have e1:a*v*w=a*w*v:=by grind
 have e2:b*u*w=b*w*u:=by grind
 have e3:c*v*u=c*u*v:=by grind
 exact Za7 hv (by omega)
theorem ue2 {r:List Pln} (hb:Bdd r) (h:Pln) {x:Pt} (hx:Inr r x):∃ v,Cn r v∧rmZ h v*x.pw≤rmZ h x*v.pw:=by
 obtain⟨d0,n0,p0,_⟩:=turn h (d:=⟨1,0,0⟩) (by simp)
 obtain⟨q1,m1,k1,i1⟩:=step hx d0 (hb d0 n0)
 have l1:=(te9 (h:=h) (x:=x) (hx.h q1 m1) p0).resolve_right (by have:=hx.w;omega)
 obtain⟨e1,ne1,he1⟩:=Se5 (cf8 k1)
 obtain⟨d1,n1,p1,z1⟩:=turn h ne1
 obtain⟨q2,m2,k2,i2⟩:=step i1 d1 (hb d1 n1)
 have l2:=(te9 (h:=h) (x:=go x q1 d0) (i1.h q2 m2) p1).resolve_right (by have:=i1.w;omega)
 have hc:=Kd8 (cf8 k1) (z1 _ he1) (n:=q2.n) (by omega)
 obtain⟨d2,n2,p2,z2⟩:=turn h hc
 obtain⟨q3,m3,k3,i3⟩:=step i2 d2 (hb d2 n2)
 have l3:=(te9 (h:=h) (x:=go (go x q1 d0) q2 d1) (i2.h q3 m3) p2).resolve_right (by have:=i2.w;omega)
 have a1:rmZ q1 (go (go x q1 d0) q2 d1)=0:=ue0 (ue1 _ _ _) (z1 _ he1)
 refine⟨_,⟨i3,q3,q1,q2,m3,m1,m2,fun h0=>?_,ue1 _ _ _,ue0 a1 (z2 _ (Ec3 _ _)),ue0 (ue1 _ _ _) (z2 _ (Ec4 _ _))⟩,?_⟩
 ·have:dot q3.n d2=0:=z2 _ h0
  omega
 ·exact Le3 i3.w i2.w hx.w l3 (Le3 i2.w i1.w hx.w l2 l1)
theorem hb9 {r:List Pln} (hb:Bdd r) {h:Pln} (hv:∀ v,Cn r v→0≤rmZ h v) {x:Pt} (hx:Inr r x):0≤rmZ h x:=by
 obtain⟨v,h1,h2⟩:=ue2 hb h hx
 have h3:=Int.mul_nonneg (hv v h1) (Int.le_of_lt hx.w)
 exact Za7 h1.w (by rw[Int.zero_mul];omega)
def mid (x y:Pt):Pt:=⟨x.px*y.pw+y.px*x.pw,x.py*y.pw+y.py*x.pw,x.pz*y.pw+y.pz*x.pw,2*(x.pw*y.pw)⟩
theorem ue3 (p:Pln) (x y:Pt):rmZ p (mid x y)=rmZ p x*y.pw+rmZ p y*x.pw:=by unfold rmZ mid;grind
theorem Inr.mid {r:List Pln} {x y:Pt} (hx:Inr r x) (hy:Inr r y):Inr r (mid x y):=⟨by unfold Ce.mid;exact Int.mul_pos (by decide) (Int.mul_pos hx.w hy.w),fun p hp=>by
 rw[ue3]
 exact Int.add_nonneg (Int.mul_nonneg (hx.h p hp) (Int.le_of_lt hy.w)) (Int.mul_nonneg (hy.h p hp) (Int.le_of_lt hx.w))⟩
def ge4 (r:List Pln):Prop:=∃ x:Pt,0 < x.pw∧∀ p∈r,0 < rmZ p x
theorem Zd1 {r:List Pln}:∀ (l:List Pln),(∀ p∈l,p∈r)→(∃ x,Inr r x)→(∀ p∈l,∃ v,Inr r v∧0 < rmZ p v)→∃ x,Inr r x∧∀ p∈l,0 < rmZ p x
 | [],_,h,_=>by obtain⟨x,h⟩:=h;exact⟨x,h,fun p hp=>by cases hp⟩
 | a::l,hl,h,hv=>by
  obtain⟨x,h1,h2⟩:=Zd1 l (fun p hp=>hl p (List.mem_cons_of_mem _ hp)) h (fun p hp=>hv p (List.mem_cons_of_mem _ hp))
  obtain⟨y,h3,h4⟩:=hv a List.mem_cons_self
  refine⟨mid x y,h1.mid h3,fun p hp=>?_⟩
  rw[ue3]
  rcases List.mem_cons.1 hp with rfl | hp
  ·have:=Int.mul_nonneg (h1.h p (hl p List.mem_cons_self)) (Int.le_of_lt h3.w)
   have:=Int.mul_pos h4 h1.w
   omega
  ·have:=Int.mul_pos (h2 p hp) h3.w
   have:=Int.mul_nonneg (h3.h p (hl p (List.mem_cons_of_mem _ hp))) (Int.le_of_lt h1.w)
   omega
theorem ue4 {r:List Pln} (hb:Bdd r) (h0:r≠[]):ge4 r↔∀ p∈r,∃ v,Cn r v∧0 < rmZ p v:=by
 constructor
 ·intro ⟨x,hw,hx⟩ p hp
  by_cases h:∃ v,Cn r v∧0 < rmZ p v
  ·exact h
  ·have hx':Inr r x:=⟨hw,fun q hq=>Int.le_of_lt (hx q hq)⟩
   have:=hb9 hb (h:=Bc1 p) (fun v hv=>by
    rw[sb4]
    have:¬ 0 < rmZ p v:=fun h'=>h ⟨v,hv,h'⟩
    omega) hx'
   rw[sb4] at this
   have:=hx p hp
   omega
 ·intro h
  obtain⟨p,hp⟩:=List.exists_mem_of_ne_nil r h0
  obtain⟨v,hv,_⟩:=h p hp
  obtain⟨x,h1,h2⟩:=Zd1 r (fun _ h=>h) ⟨v,hv.toInr⟩ fun p hp=>by
   obtain⟨v,hv,h⟩:=h p hp
   exact⟨v,hv.toInr,h⟩
  exact⟨x,h1.w,h2⟩
structure Eqv (x v:Pt):Prop where
 e1:x.px*v.pw=v.px*x.pw
 e2:x.py*v.pw=v.py*x.pw
 e3:x.pz*v.pw=v.pz*x.pw
theorem Eqv.rm {x v:Pt} (h:Eqv x v) (p:Pln):rmZ p x*v.pw=rmZ p v*x.pw:=by
 obtain⟨e1,e2,e3⟩:=h
 unfold rmZ
 grind
theorem Eqv.inr {r:List Pln} {x v:Pt} (h:Eqv x v) (hw:0 < x.pw) (hv:Inr r v):Inr r x:=⟨hw,fun p hp=>by
 have:=h.rm p
 have h2:=Int.mul_nonneg (hv.h p hp) (Int.le_of_lt hw)
 exact Za7 hv.w (by rw[Int.zero_mul];omega)⟩
end Go.Ev.Ce
namespace Go.Ev.Ce
open Go Go.Ev Go.Ev.L Go.Proofs
theorem Kd9 {p:Pln} {x:Pt} (hp:Bd p) (hx:Okx x):rm p x=rmZ p x:=by
 unfold rm rmZ
 obtain⟨w1,w2,⟨a1,a2⟩,⟨a3,a4⟩,a5,a6⟩:=hx
 have h0:=mb hp.b1 hp.b2 (show -600000000000≤x.pw by omega) w2
 have h1:=mb hp.x1 hp.x2 a1 a2
 have h2:=mb hp.y1 hp.y2 a3 a4
 have h3:=mb hp.z1 hp.z2 a5 a6
 exact Ia1 (by omega) (by omega)
theorem Zd2 {r:List Pln} (hb:Bds r) {x:Pt} (hx:Okx x):inn r x=true↔Inr r x:=by
 unfold inn
 rw[List.all_eq_true]
 constructor
 ·intro h
  refine⟨hx.w1,fun p hp=>?_⟩
  have:=h p hp
  rw[Kd9 (hb p hp) hx] at this
  simpa using this
 ·intro h p hp
  rw[Kd9 (hb p hp) hx]
  simpa using h.h p hp
theorem Le4 {p q s:Pln} (h:(mpt p q s).2=true):mw p q s≠0∧∃ k:Int,k≠0∧k*(mpt p q s).1.px=(mv p q s).x∧k*(mpt p q s).1.py=(mv p q s).y∧k*(mpt p q s).1.pz=(mv p q s).z∧k*(mpt p q s).1.pw=mw p q s:=by
 unfold mpt at h ⊢
 by_cases h0:mw p q s=0
 ·rw[if_pos h0] at h;cases h
 refine⟨h0,?_⟩
 have hg:=Sc5 (v:=mv p q s) h0
 have dv:∀ {x:Int},(gc (mv p q s) (mw p q s))∣x→gc (mv p q s) (mw p q s)*Int.tdiv x (gc (mv p q s) (mw p q s))=x:=fun h=>Int.mul_tdiv_cancel' h
 have d1:gc (mv p q s) (mw p q s)∣(mv p q s).x:=by
  rw[← Int.dvd_natAbs];exact Int.natCast_dvd_natCast.2 (Nat.dvd_trans (Nat.gcd_dvd_left _ _) (Nat.gcd_dvd_left _ _))
 have d2:gc (mv p q s) (mw p q s)∣(mv p q s).y:=by
  rw[← Int.dvd_natAbs];exact Int.natCast_dvd_natCast.2 (Nat.dvd_trans (Nat.gcd_dvd_left _ _) (Nat.gcd_dvd_right _ _))
 have d3:gc (mv p q s) (mw p q s)∣(mv p q s).z:=by
  rw[← Int.dvd_natAbs];exact Int.natCast_dvd_natCast.2 (Nat.dvd_trans (Nat.gcd_dvd_right _ _) (Nat.gcd_dvd_left _ _))
 have d4:gc (mv p q s) (mw p q s)∣mw p q s:=by
  rw[← Int.dvd_natAbs];exact Int.natCast_dvd_natCast.2 (Nat.dvd_trans (Nat.gcd_dvd_right _ _) (Nat.gcd_dvd_right _ _))
 rw[if_neg h0]
 by_cases h1:mw p q s < 0
 ·rw[if_pos h1]
  have e:∀ {x:Int},(gc (mv p q s) (mw p q s))∣x→-(gc (mv p q s) (mw p q s))*Int.tdiv (-x) (gc (mv p q s) (mw p q s))=x:=fun {x} h=>by
   rw[Int.neg_mul,dv ((Int.dvd_neg).2 h),Int.neg_neg]
  exact⟨-(gc (mv p q s) (mw p q s)),by omega,e d1,e d2,e d3,e d4⟩
 ·rw[if_neg h1]
  exact⟨gc (mv p q s) (mw p q s),by omega,dv d1,dv d2,dv d3,dv d4⟩
theorem ue5 {p q s:Pln} (h:(mpt p q s).2=true):rmZ p (mpt p q s).1=0∧rmZ q (mpt p q s).1=0∧rmZ s (mpt p q s).1=0:=by
 obtain⟨_,k,hk,e1,e2,e3,e4⟩:=Le4 h
 generalize (mpt p q s).1=x at *
 have f:∀ a:Pln,a.b*mw p q s - (a.n.x*(mv p q s).x+a.n.y*(mv p q s).y+a.n.z*(mv p q s).z)=0→rmZ a x=0:=fun a ha=>by
  rw[← e1,← e2,← e3,← e4] at ha
  have:k*rmZ a x=0:=by rw[← ha];unfold rmZ;grind
  exact (Int.mul_eq_zero.1 this).resolve_left hk
 refine⟨f p ?_,f q ?_,f s ?_⟩<;>(simp only[mw,mv,dot,q7];grind)
theorem Fe8 {p q s:Pln} (h:mw p q s≠0):(mpt p q s).2=true:=by
 unfold mpt
 rw[if_neg h]
 split<;>rfl
theorem ue6 {p q s:Pln} {x:Pt} (h1:rmZ p x=0) (h2:rmZ q x=0) (h3:rmZ s x=0):mw p q s*x.px=(mv p q s).x*x.pw∧mw p q s*x.py=(mv p q s).y*x.pw∧mw p q s*x.pz=(mv p q s).z*x.pw:=by
 have i1:(mv p q s).x*x.pw - mw p q s*x.px=(q7 q.n s.n).x*rmZ p x+(q7 s.n p.n).x*rmZ q x+(q7 p.n q.n).x*rmZ s x:=by simp only[mw,mv,dot,q7,rmZ];grind
 have i2:(mv p q s).y*x.pw - mw p q s*x.py=(q7 q.n s.n).y*rmZ p x+(q7 s.n p.n).y*rmZ q x+(q7 p.n q.n).y*rmZ s x:=by simp only[mw,mv,dot,q7,rmZ];grind
 have i3:(mv p q s).z*x.pw - mw p q s*x.pz=(q7 q.n s.n).z*rmZ p x+(q7 s.n p.n).z*rmZ q x+(q7 p.n q.n).z*rmZ s x:=by simp only[mw,mv,dot,q7,rmZ];grind
 rw[h1,h2,h3] at i1 i2 i3
 simp only[Int.mul_zero,Int.add_zero] at i1 i2 i3
 omega
theorem Se6 {p q s:Pln} {x v:Pt} (h:mw p q s≠0) (h1:rmZ p x=0) (h2:rmZ q x=0) (h3:rmZ s x=0) (k1:rmZ p v=0) (k2:rmZ q v=0) (k3:rmZ s v=0):Eqv x v:=by
 obtain⟨a1,a2,a3⟩:=ue6 h1 h2 h3
 obtain⟨c1,c2,c3⟩:=ue6 k1 k2 k3
 have f:∀ {a c m:Int},mw p q s*a=m*x.pw→mw p q s*c=m*v.pw→a*v.pw=c*x.pw:=fun {a c m} ha hc=>by
  have:mw p q s*(a*v.pw - c*x.pw)=0:=by grind
  have:=(Int.mul_eq_zero.1 this).resolve_left h
  omega
 exact⟨f a1 c1,f a2 c2,f a3 c3⟩
theorem ge5 {r:List Pln} {p q:Pln} {out:List Pt} {s:Pln} {x:Pt} (h:x∈out):x∈Da3 r p q out s:=by
 unfold Da3
 split
 ·exact List.mem_append_left _ h
 ·exact h
theorem Yc6 {r:List Pln} {p q:Pln} {x:Pt}:∀ {l:List Pln} {out:List Pt},x∈out→x∈gb0 r p q l out
 | [],_,h=>h
 | s::l,out,h=>Yc6 (l:=l) (out:=Da3 r p q out s) (ge5 h)
theorem uc5 {r:List Pln} {p:Pln} {x:Pt}:∀ {l:List Pln} {out:List Pt},x∈out→x∈Ta4 r p l out
 | [],_,h=>h
 | _::l,_,h=>uc5 (l:=l) (Yc6 h)
theorem Ld0 {r:List Pln} {x:Pt}:∀ {l:List Pln} {out:List Pt},x∈out→x∈rc5 r l out
 | [],_,h=>h
 | _::l,_,h=>Ld0 (l:=l) (uc5 h)
theorem ge6 {r:List Pln} {p q:Pln} {out:List Pt} {s:Pln} (h1:(mpt p q s).2=true) (h2:inn r (mpt p q s).1=true):(mpt p q s).1∈Da3 r p q out s:=by
 unfold Da3
 rw[h1,h2]
 cases h:Ub3 out (mpt p q s).1 with
 | true=>simpa using (oe2 _ _).1 h
 | false=>simp
theorem Yc7 {r:List Pln} {p q s:Pln} (h1:(mpt p q s).2=true) (h2:inn r (mpt p q s).1=true):∀ {l:List Pln} {out:List Pt},s∈l→(mpt p q s).1∈gb0 r p q l out
 | [],_,h=>by cases h
 | t::l,out,h=>by
  show _∈gb0 r p q l (Da3 r p q out t)
  rcases List.mem_cons.1 h with rfl | h
  ·exact Yc6 (ge6 h1 h2)
  ·exact Yc7 h1 h2 h
structure Hit (r:List Pln) (Q:Pt→Prop) (p q s:Pln):Prop where
 h1:(mpt p q s).2=true
 h2:inn r (mpt p q s).1=true
 h3:Q (mpt p q s).1
theorem Ld1 {r:List Pln} {Q:Pt→Prop} {p q s:Pln} (hq:Hit r Q p q s) (hs:Hit r Q p s q) (hne:q≠s):∀ {l:List Pln} {out:List Pt},q∈l→s∈l→∃ x∈Ta4 r p l out,Q x
 | [],_,h,_=>by cases h
 | t::l,out,hql,hsl=>by
  show ∃ x∈Ta4 r p l (gb0 r p t l out),Q x
  rcases List.mem_cons.1 hql with rfl | h1
  ·have h2:=(List.mem_cons.1 hsl).resolve_left fun h=>hne h.symm
   exact⟨_,uc5 (Yc7 hq.h1 hq.h2 h2),hq.h3⟩
  ·rcases List.mem_cons.1 hsl with rfl | h2
   ·exact⟨_,uc5 (Yc7 hs.h1 hs.h2 h1),hs.h3⟩
   ·exact Ld1 hq hs hne (l:=l) h1 h2
theorem Ld2 {r : List Pln} {Q : Pt → Prop} {p q s : Pln} (H : ∀ a c d, (a = p ∨ a = q ∨ a = s) → (c = p ∨ c = q ∨ c = s) → (d = p ∨ d = q ∨ d = s) → a ≠ c → c ≠ d → a ≠ d → Hit r Q a c d) (h1 : p ≠ q) (h2 : q ≠ s) (h3 : p ≠ s) :
  ∀ {l:List Pln} {out:List Pt},p∈l→q∈l→s∈l→∃ x∈rc5 r l out,Q x
 | [],_,h,_,_=>by cases h
 | t::l,out,hp,hq,hs=>by
  have fin:∀ {a c d:Pln} {out:List Pt},(a=p∨a=q∨a=s)→(c=p∨c=q∨c=s)→(d=p∨d=q∨d=s)→a≠c→c≠d→a≠d→c∈l→d∈l→∃ x∈rc5 r l (Ta4 r a l out),Q x:=fun ha hc hd n1 n2 n3 m1 m2=>by
   obtain⟨x,hx,hQ⟩:=Ld1 (H _ _ _ ha hc hd n1 n2 n3) (H _ _ _ ha hd hc n3 n2.symm n1) n2 (out:=_) m1 m2
   exact⟨x,Ld0 hx,hQ⟩
  show ∃ x∈rc5 r l (Ta4 r t l out),Q x
  rcases List.mem_cons.1 hp with rfl | hp'
  ·exact fin (.inl rfl) (.inr (.inl rfl)) (.inr (.inr rfl)) h1 h2 h3 ((List.mem_cons.1 hq).resolve_left (Ne.symm h1)) ((List.mem_cons.1 hs).resolve_left (Ne.symm h3))
  ·rcases List.mem_cons.1 hq with rfl | hq'
   ·exact fin (.inr (.inl rfl)) (.inl rfl) (.inr (.inr rfl)) (Ne.symm h1) h3 h2 hp' ((List.mem_cons.1 hs).resolve_left (Ne.symm h2))
   ·rcases List.mem_cons.1 hs with rfl | hs'
    ·exact fin (.inr (.inr rfl)) (.inl rfl) (.inr (.inl rfl)) (Ne.symm h3) h1 (Ne.symm h2) hp' hq'
    ·exact Ld2 H h1 h2 h3 hp' hq' hs'
theorem cf9 {p q s:Pln} (h:mw p q s≠0):p≠q∧q≠s∧p≠s:=by
 refine⟨fun e=>h ?_,fun e=>h ?_,fun e=>h ?_⟩<;>(subst e;simp only[mw,dot,q7];grind)
theorem Se7 {r:List Pln} (hb:Bds r):∀ x∈cor r,Cn r x:=Xd5 fun p hp q hq s hs h hi=>by
 obtain⟨w1,w2,w3,w4,w5⟩:=Rd6 (hb p hp) (hb q hq) (hb s hs) h
 obtain⟨e1,e2,e3⟩:=ue5 h
 exact⟨(Zd2 hb ⟨w1,w5,w2,w3,w4⟩).1 hi,p,q,s,hp,hq,hs,(Le4 h).1,e1,e2,e3⟩
theorem ue7 {r:List Pln} (hb:Bds r) {v:Pt} (hv:Cn r v):∃ x∈cor r,Eqv x v:=by
 obtain⟨p,q,s,hp,hq,hs,hw,e1,e2,e3⟩:=hv.c
 obtain⟨n1,n2,n3⟩:=cf9 hw
 refine Ld2 (fun a c d ha hc hd m1 m2 m3=>?_) n1 n2 n3 hp hq hs
 have hm:∀ {a},(a=p∨a=q∨a=s)→a∈r∧rmZ a v=0:=fun h=>by
  rcases h with rfl | rfl | rfl
  ·exact⟨hp,e1⟩
  ·exact⟨hq,e2⟩
  ·exact⟨hs,e3⟩
 have hw':mw a c d≠0:=by
  have k:mw a c d=mw p q s∨mw a c d=-mw p q s:=by
   rcases ha with rfl | rfl | rfl<;>rcases hc with rfl | rfl | rfl<;>rcases hd with rfl | rfl | rfl<;>first | exact absurd rfl m1 | exact absurd rfl m2 | exact absurd rfl m3 | exact .inl rfl | (left;simp only[mw,dot,q7];grind;done) | (right;simp only[mw,dot,q7];grind;done)
  rcases k with k | k<;>omega
 have h:=Fe8 hw'
 obtain⟨w1,w2,w3,w4,w5⟩:=Rd6 (hb a (hm ha).1) (hb c (hm hc).1) (hb d (hm hd).1) h
 obtain⟨f1,f2,f3⟩:=ue5 h
 have he:=Se6 hw' f1 f2 f3 (hm ha).2 (hm hc).2 (hm hd).2
 exact⟨h,(Zd2 hb ⟨w1,w5,w2,w3,w4⟩).2 (he.inr w1 hv.toInr),he⟩
theorem ue8 (c:List Pln):Bdd (c++ws):=fun d hd=>by
 have k:∀ {n:V3} {m:Int},(⟨n,m⟩:Pln)∈ws→0 < dot n d→∃ p∈c++ws,0 < dot p.n d:=fun h h'=>⟨_,List.mem_append_right _ h,h'⟩
 by_cases h1:0 < d.x
 ·exact k (n:=⟨1,0,0⟩) (m:=24) (by simp[ws]) (by unfold dot;simp;omega)
 by_cases h2:d.x < 0
 ·exact k (n:=⟨-1,0,0⟩) (m:=24) (by simp[ws]) (by unfold dot;simp;omega)
 by_cases h3:0 < d.y
 ·exact k (n:=⟨0,1,0⟩) (m:=24) (by simp[ws]) (by unfold dot;simp;omega)
 by_cases h4:d.y < 0
 ·exact k (n:=⟨0,-1,0⟩) (m:=24) (by simp[ws]) (by unfold dot;simp;omega)
 by_cases h5:0 < d.z
 ·exact k (n:=⟨0,0,1⟩) (m:=24) (by simp[ws]) (by unfold dot;simp;omega)
 by_cases h6:d.z < 0
 ·exact k (n:=⟨0,0,-1⟩) (m:=24) (by simp[ws]) (by unfold dot;simp;omega)
 exact absurd (V3.ext' (by show d.x=0;omega) (by show d.y=0;omega) (by show d.z=0;omega)) hd
theorem Zd3 {r:List Pln} (hb:Bds r) {p:Pln} (hp:Bd p):pos (cor r) p=true↔∃ v,Cn r v∧0 < rmZ p v:=by
 unfold pos
 rw[List.any_eq_true]
 constructor
 ·rintro⟨x,hx,h⟩
  rw[Kd9 hp (ac4 hb x hx)] at h
  exact⟨x,Se7 hb x hx,by simpa using h⟩
 ·rintro⟨v,hv,h⟩
  obtain⟨x,hx,he⟩:=ue7 hb hv
  refine⟨x,hx,?_⟩
  rw[Kd9 hp (ac4 hb x hx)]
  have h1:=he.rm p
  have h2:=Int.mul_pos h (ac4 hb x hx).w1
  have:0 < rmZ p x:=Int.lt_of_mul_lt_mul_right (by rw[Int.zero_mul];omega:0*v.pw < rmZ p x*v.pw) (Int.le_of_lt hv.w)
  simpa using this
theorem ge7 {r:List Pln} (hb:Bds r) (hd:Bdd r) (h0:r≠[]):dd4 r=true↔ge4 r:=by
 rw[ue4 hd h0]
 unfold dd4
 rw[List.all_eq_true]
 exact⟨fun h p hp=>(Zd3 hb (hb p hp)).1 (h p hp),fun h p hp=>(Zd3 hb (hb p hp)).2 (h p hp)⟩
end Go.Ev.Ce
namespace Go.Ev.Ce
def dv (z v:Pt):V3:=⟨v.px*z.pw - z.px*v.pw,v.py*z.pw - z.py*v.pw,v.pz*z.pw - z.pz*v.pw⟩
def thr (n:V3) (z:Pt):Pln:=⟨⟨z.pw*n.x,z.pw*n.y,z.pw*n.z⟩,n.x*z.px+n.y*z.py+n.z*z.pz⟩
theorem ue9 (n:V3) (z x:Pt):rmZ (thr n z) x=-dot n (dv z x):=by simp only[rmZ,thr,dot,dv];grind
theorem ve0 {p:Pln} {z v:Pt} (hz:rmZ p z≠0) (hv:rmZ p v=0) (hw:0 < v.pw):dv z v≠⟨0,0,0⟩:=fun h=>by
 unfold dv at h
 simp only[V3.mk.injEq] at h
 obtain⟨e1,e2,e3⟩:=h
 have:rmZ p z*v.pw=rmZ p v*z.pw:=by unfold rmZ;grind
 rw[hv,Int.zero_mul] at this
 exact (Int.mul_eq_zero.1 this).elim hz (by omega)
theorem Se8 {p:Pln} {z:Pt} (hz:rmZ p z≠0):∀ l:List Pt,l.length≤2→(∀ v∈l,rmZ p v=0∧0 < v.pw)→∃ n,n≠(⟨0,0,0⟩:V3)∧∀ v∈l,dot n (dv z v)=0
 | [],_,_=>⟨⟨1,0,0⟩,by simp,fun v h=>by cases h⟩
 | [v],_,h=>by
  obtain⟨h1,h2⟩:=h v (by simp)
  obtain⟨d,hd,he⟩:=Se5 (ve0 hz h1 h2)
  exact⟨d,hd,fun u hu=>by rw[List.mem_singleton.1 hu,← he];unfold dot;grind⟩
 | [v,u],_,h=>by
  obtain⟨h1,h2⟩:=h v (by simp)
  by_cases hc:q7 (dv z v) (dv z u)=⟨0,0,0⟩
  ·obtain⟨d,hd,he⟩:=Se5 (ve0 hz h1 h2)
   have hu:dot (dv z u) d=0:=by
    by_cases h0:dot (dv z u) d=0
    ·exact h0
    ·exact absurd hc (Kd8 (ve0 hz h1 h2) he h0)
   refine⟨d,hd,fun x hx=>?_⟩
   simp only[List.mem_cons,List.not_mem_nil,or_false] at hx
   rcases hx with rfl | rfl
   ·rw[← he];unfold dot;grind
   ·rw[← hu];unfold dot;grind
  ·refine⟨_,hc,fun x hx=>?_⟩
   simp only[List.mem_cons,List.not_mem_nil,or_false] at hx
   rcases hx with rfl | rfl
   ·rw[← Ec3 (dv z x) (dv z u)];unfold dot;grind
   ·rw[← Ec4 (dv z v) (dv z x)];unfold dot;grind
 | _::_::_::_,h,_=>by simp at h
def Se9 (p:Pln) (z v:Pt):Pt:=⟨rmZ p v*z.px - rmZ p z*v.px,rmZ p v*z.py - rmZ p z*v.py,rmZ p v*z.pz - rmZ p z*v.pz,rmZ p v*z.pw - rmZ p z*v.pw⟩
theorem xd5 (p q:Pln) (z v:Pt):rmZ q (Se9 p z v)=rmZ p v*rmZ q z - rmZ p z*rmZ q v:=by
 generalize ha:rmZ p v=a
 generalize hb:rmZ p z=c
 simp only[rmZ,Se9] at *
 rw[ha,hb]
 grind
theorem Fe9 {r r':List Pln} (hs:∀ p∈r',p∈r) {v:Pt} (h:Cn r' v) (hi:Inr r v):Cn r v:=by
 obtain⟨p,q,s,hp,hq,hs',hw,e⟩:=h.c
 exact⟨hi,p,q,s,hs p hp,hs q hq,hs s hs',hw,e⟩
theorem ve1 {r:List Pln} (hb:Bdd r) (hB:ge4 r) {h:Pln} (hn:h.n≠⟨0,0,0⟩):¬ ∀ x,Inr r x→rmZ h x=0:=fun H=>by
 obtain⟨x,hw,hx⟩:=hB
 have hi:Inr r x:=⟨hw,fun p hp=>Int.le_of_lt (hx p hp)⟩
 obtain⟨q,hq,h1,h2⟩:=step hi h.n (hb h.n hn)
 have h3:=H _ h2
 rw[Kd7,H _ hi] at h3
 have h4:=hx q hq
 have h5:0 < dot h.n h.n:=by
  have k:∀ a:Int,a≠0→0 < a*a:=fun a ha=>by
   rcases Int.lt_or_gt_of_ne ha with h | h
   ·exact Int.mul_pos_of_neg_of_neg h h
   ·exact Int.mul_pos h h
  have k0:∀ a:Int,0≤a*a:=fun a=>by
   by_cases h:a=0
   ·subst h;decide
   ·exact Int.le_of_lt (k a h)
  have a1:=k0 h.n.x;have a2:=k0 h.n.y;have a3:=k0 h.n.z
  unfold dot
  by_cases c1:h.n.x=0
  ·by_cases c2:h.n.y=0
   ·have:=k h.n.z (fun c3=>hn (V3.ext' c1 c2 c3));omega
   ·have:=k _ c2;omega
  ·have:=k _ c1;omega
 have:=Int.mul_pos h4 h5
 omega
theorem df0 {r r' : List Pln} {p : Pln} (hb : Bdd r) (hB : ge4 r) (hp : p ∈ r) (hr : ∀ q ∈ r, q ∈ r' ∨ q = p)
  (l:List Pt) (hl:l.length≤2) (hl0:∀ v∈l,rmZ p v=0∧0 < v.pw) (hc:∀ v,Cn r v→rmZ p v=0→∃ x∈l,Eqv x v) {z:Pt} (hz:Inr r' z):Inr r z:=by
 by_cases h0:0≤rmZ p z
 ·exact⟨hz.w,fun q hq=>(hr q hq).elim (hz.h q) fun e=>e ▸ h0⟩
 exfalso
 have hneg:rmZ p z < 0:=by omega
 obtain⟨n,hn,hv⟩:=Se8 (p:=p) (z:=z) (by omega) l hl hl0
 have hn':(thr n z).n≠⟨0,0,0⟩:=fun e=>hn (by
  unfold thr at e
  simp only[V3.mk.injEq] at e
  have k:∀ {a:Int},z.pw*a=0→a=0:=fun h=>(Int.mul_eq_zero.1 h).resolve_left (by have:=hz.w;omega)
  exact V3.ext' (k e.1) (k e.2.1) (k e.2.2))
 -- the face lies in that plane
 have hface:∀ u,Inr r u→rmZ p u=0→rmZ (thr n z) u=0:=fun u hu hu0=>by
  have hbd:Bdd (Bc1 p::r):=fun d hd=>by
   obtain⟨q,hq,h⟩:=hb d hd
   exact⟨q,List.mem_cons_of_mem _ hq,h⟩
  have hiu:Inr (Bc1 p::r) u:=⟨hu.w,fun q hq=>by
   rcases List.mem_cons.1 hq with rfl | hq
   ·rw[sb4,hu0];decide
   ·exact hu.h q hq⟩
  have hvx:∀ v,Cn (Bc1 p::r) v→rmZ (thr n z) v=0:=fun v hcv=>by
   have hir:Inr r v:=⟨hcv.w,fun q hq=>hcv.h q (List.mem_cons_of_mem _ hq)⟩
   have hp0:rmZ p v=0:=by
    have h1:=hcv.h (Bc1 p) List.mem_cons_self
    rw[sb4] at h1
    have h2:=hir.h p hp
    omega
   obtain⟨a,c,d,ha,hc',hd,hw,e1,e2,e3⟩:=hcv.c
   -- a plane that is turned round gives the same ue2
   have fl:∀ {a c d:Pln},mw (Bc1 a) c d=-mw a c d∧mw c (Bc1 a) d=-mw c a d∧mw c d (Bc1 a)=-mw c d a:=fun {a c d}=>by
    refine⟨?_,?_,?_⟩<;>(simp only[mw,dot,q7,Bc1];grind)
   have hr0:∀ {a:Pln},rmZ (Bc1 a) v=0→rmZ a v=0:=fun h=>by rw[sb4] at h;omega
   have hcn:Cn r v:=by
    refine⟨hir,?_⟩
    rcases List.mem_cons.1 ha with rfl | ha<;>rcases List.mem_cons.1 hc' with rfl | hc'<;>rcases List.mem_cons.1 hd with rfl | hd
    ·exact absurd (by simp only[mw,dot,q7];grind) hw
    ·exact absurd (by simp only[mw,dot,q7];grind) hw
    ·exact absurd (by simp only[mw,dot,q7];grind) hw
    ·exact⟨p,c,d,hp,hc',hd,by have:=(fl (a:=p) (c:=c) (d:=d)).1;omega,hp0,e2,e3⟩
    ·exact absurd (by simp only[mw,dot,q7];grind) hw
    ·exact⟨a,p,d,ha,hp,hd,by have:=(fl (a:=p) (c:=a) (d:=d)).2.1;omega,e1,hp0,e3⟩
    ·exact⟨a,c,p,ha,hc',hp,by have:=(fl (a:=p) (c:=a) (d:=c)).2.2;omega,e1,e2,hp0⟩
    ·exact⟨a,c,d,ha,hc',hd,hw,e1,e2,e3⟩
   obtain⟨x,hx,he⟩:=hc v hcn hp0
   have h1:=he.rm (thr n z)
   rw[ue9 n z x,hv x hx] at h1
   have h1:rmZ (thr n z) v*x.pw=0:=by omega
   exact (Int.mul_eq_zero.1 h1).resolve_right (by have:=(hl0 x hx).2;omega)
  have a1:=hb9 hbd (h:=thr n z) (fun v hv=>by rw[hvx v hv];decide) hiu
  have a2:=hb9 hbd (h:=Bc1 (thr n z)) (fun v hv=>by rw[sb4,hvx v hv];decide) hiu
  rw[sb4] at a2
  omega
 -- so do all vertices
 have hall:∀ v,Inr r v→rmZ (thr n z) v=0:=fun v hi=>by
  by_cases hv0:rmZ p v=0
  ·exact hface v hi hv0
  have hvp:0 < rmZ p v:=by have:=hi.h p hp;omega
  have hu:Inr r (Se9 p z v):=by
   have w1:=Int.mul_pos hvp hz.w
   have w2:rmZ p z*v.pw < 0:=Int.mul_neg_of_neg_of_pos hneg hi.w
   refine⟨by show 0 < rmZ p v*z.pw - rmZ p z*v.pw;omega,fun q hq=>?_⟩
   rw[xd5]
   rcases hr q hq with h | rfl
   ·have b1:=Int.mul_nonneg (Int.le_of_lt hvp) (hz.h q h)
    have b2:rmZ p z*rmZ q v≤0:=Int.mul_nonpos_of_nonpos_of_nonneg (Int.le_of_lt hneg) (hi.h q hq)
    omega
   ·have:=Int.mul_comm (rmZ q v) (rmZ q z);omega
  have h1:=hface _ hu (by rw[xd5];have:=Int.mul_comm (rmZ p v) (rmZ p z);omega)
  rw[xd5] at h1
  have h2:rmZ (thr n z) z=0:=by rw[ue9];simp only[dot,dv];grind
  rw[h2] at h1
  have h1:rmZ p z*rmZ (thr n z) v=0:=by omega
  exact (Int.mul_eq_zero.1 h1).resolve_left (by omega)
 exact ve1 hb hB hn' hall
end Go.Ev.Ce
namespace Go.Ev.Ce
open Go Go.Ev Go.Ev.L Go.Proofs
theorem Zd4 (p:Pln):∀ (a:Pln) (l:List Pln),p∈a::ddF a l↔p∈a::l
 | a,[]=>by simp[ddF]
 | a,x::l=>by
  have ih:=Zd4 p x l
  unfold ddF
  split
  ·rename_i h
   rw[xb2] at h
   subst h
   rw[ih]
   simp
  ·simp only[List.mem_cons] at ih ⊢
   rw[ih]
theorem ve2 (p:Pln):∀ l:List Pln,p∈dd l↔p∈l
 | []=>Iff.rfl
 | x::l=>Zd4 p x l
theorem Zd5:∀ (a:Pln) (l:List Pln),(a::l).Pairwise (fun x y=>(!ltOf la0 y x)=true)→Ec2 (a::ddF a l)
 | a,[],_=>List.pairwise_singleton _ _
 | a,x::l,h=>by
  obtain⟨h1,h2⟩:=List.pairwise_cons.1 h
  have ih:=Zd5 x l h2
  have hle:=h1 x List.mem_cons_self
  rw[Ya2] at hle
  have hle:¬ LtP x a:=by simpa using hle
  unfold ddF
  split
  ·rename_i he
   rw[xb2] at he
   subst he
   exact ih
  ·rename_i hne
   have hlt:LtP a x:=by
    rcases Yd8 a x with h | h | h
    ·exact h
    ·exact absurd ((xb2 _ _).2 h.symm) hne
    ·exact absurd h hle
   refine List.pairwise_cons.2 ⟨fun p hp=>?_,ih⟩
   rcases List.mem_cons.1 hp with e | hp'
   ·subst e;exact hlt
   ·exact Bc0 hlt ((List.pairwise_cons.1 ih).1 p hp')
theorem Te0 (l:List Pln):Ec2 (dd (La4 l)):=by
 have h:=tc8 l
 cases hs:La4 l with
 | nil=>exact .nil
 | cons a l'=>rw[hs] at h;exact Zd5 a l' h
noncomputable def La9 (X:List Pt) (out:List Pln) (p:Pln):List Pln:=if keep X p then kc7 out p else out
theorem nd6 (X:List Pt) (p:Pln):∀ (c out:List Pln),p∈c.foldl (La9 X) out↔p∈out∨p∈c.filter (keep X)
 | [],out=>by simp
 | a::c,out=>by
  rw[List.foldl_cons,nd6 X p c,List.filter_cons]
  unfold La9
  split
  ·rw[uc3,List.mem_cons]
   constructor
   ·rintro ((h | h) | h)
    ·exact .inr (.inl h)
    ·exact .inl h
    ·exact .inr (.inr h)
   ·rintro (h | h | h)
    ·exact .inl (.inr h)
    ·exact .inl (.inl h)
    ·exact .inr h
  ·exact Iff.rfl
theorem nd7 (X:List Pt):∀ (c out:List Pln),Ec2 out→Ec2 (c.foldl (La9 X) out)
 | [],_,h=>h
 | a::c,out,h=>by
  rw[List.foldl_cons]
  refine nd7 X c _ ?_
  unfold La9
  split
  ·exact Kd3 a h
  ·exact h
theorem ve3 (X:List Pt) (c:List Pln):c.foldl (La9 X) []=dd (La4 (c.filter (keep X))) :=
 nd4 (nd7 X c [] .nil) (Te0 _) fun p=>by
  rw[nd6,ve2,(kc2 _).mem_iff]
  simp
theorem Ge0 (x:List Pln) (y:Pln):kc7 x y≠[]:=by
 intro h
 have:=(uc3 y y x).2 (.inl rfl)
 rw[h] at this
 cases this
theorem Ld3 (y:Pln):∀ x:List Pln,(kc7 x y).length≤x.length+1
 | []=>Nat.le_refl _
 | a::l=>by
  have:=Ld3 y l
  unfold kc7
  split
  ·simp only[List.length_cons];omega
  ·split<;>simp only[List.length_cons]<;>omega
theorem ve4 (x:List Pln) (y:Pln) (hx:x.length≤1000000):lb9 x y=kc7 x y:=(Yc5 x y hx).p.trans (te8 y x)
theorem ve5 (x:List Pln) (y:Pln) (hx:x.length≤1000000):mb0 x y=true:=(Yc5 x y hx).g
theorem mf7 (l:List Pt) (p:Pln) (n:Nat):l.foldl (fun n x=>if rm p x==0 then n+1 else n) n=n+l.countP fun x=>rm p x==0:=by
 induction l generalizing n with
 | nil=>rfl
 | cons x l ih =>
  rw[List.foldl_cons,ih,List.countP_cons]
  split<;>omega
theorem ve6 (c : List Pln) (X : List Pt) (o : List Pln) (hX : X.length ≤ 1000000000) (a φ : Nat) (hφ : φ ≤ 1) (ha : a < c.length) :
  lp (La8 ⟨c,X,(a:Int),o⟩) ⟨φ,0,0⟩=(φ+1,⟨φ,(onc X (gL tP c a):Int),(X.length:Int)⟩):=by
 have h:=Yb8 (step:=La8 ⟨c,X,(a:Int),o⟩) (mk:=fun j (n:Nat)=>(⟨φ,(n:Int),(j:Int)⟩:M5)) (f:=fun n x=>if rm (gL tP c a) x==0 then n+1 else n) (fin:=φ+1) tX X (fun j n=>n≤j) hX
  (fun j n hj hi=>by
   have hW:W ((n:Int)+1)=((n+1:Nat):Int):=by rw[Ia1 (by omega) (by omega)];omega
   refine⟨?_,by show (if rm (gL tP c a) (gL tX X j)==0 then n+1 else n)≤j+1;split<;>omega⟩
   have hb:φ=0∨φ=1:=by omega
   rcases hb with rfl | rfl
   ·show ja8 Stp.next Stp.exit Stp.fail _ _=_
    simp only[ja8,Int.toNat_natCast,Jc9,hW,p6 hj (show X.length≤4611686018427387904 by omega)]
    rw[btD (n9 hj),bt (f0 hj),bt (f0 ha)]
    cases rm (gL tP c a) (gL tX X j)==0<;>rfl
   ·show ja9 Stp.next Stp.exit Stp.fail _ _=_
    simp only[ja9,Int.toNat_natCast,Jc9,hW,p6 hj (show X.length≤4611686018427387904 by omega)]
    rw[btD (n9 hj),bt (f0 hj),bt (f0 ha)]
    cases rm (gL tP c a) (gL tX X j)==0<;>rfl)
  (fun n _=>by
   have hb:φ=0∨φ=1:=by omega
   rcases hb with rfl | rfl
   ·show ja8 Stp.next Stp.exit Stp.fail _ _=_
    simp only[ja8];rw[bfD (Q3 (Nat.lt_irrefl _))]
   ·show ja9 Stp.next Stp.exit Stp.fail _ _=_
    simp only[ja9];rw[bfD (Q3 (Nat.lt_irrefl _))]) 0 (Nat.zero_le _) 0 (Nat.le_refl _)
 have h:=h.1
 rw[List.drop_zero,mf7,Nat.zero_add] at h
 exact h
def phP (out:List Pln):Nat:=match out with
 | []=>0
 | _::_=>1
theorem Te1 (c:List Pln) (X:List Pt) (hc:c.length≤1000000) (hX:X.length≤1000000000):∃ t s,lp (Za6 ⟨⟩) ⟨0,c,X,0,[]⟩=(t,s)∧(t=phP (c.foldl (La9 X) [])+1∧s.sb7=c.foldl (La9 X) []):=by
 refine va6 (step:=Za6 ⟨⟩) (mk:=fun j (out:List Pln)=>(⟨phP out,c,X,(j:Int),out⟩:F6)) c.length (fun j out=>out.length≤j∧out=(c.take j).foldl (La9 X) [])
  (fun t s=>t=phP (c.foldl (La9 X) [])+1∧s.sb7=c.foldl (La9 X) []) (by omega) (fun j out hj hi=>?_) (fun j out hj hi=>?_) 0 [] ⟨by simp,by simp⟩
 ·obtain⟨i1,i2⟩:=hi
  have hl:out.length≤1000000:=by omega
  have hn:=p6 hj (show c.length≤4611686018427387904 by omega)
  have r0:=ve6 c X [] hX j 0 (by omega) hj
  have r1:=ve6 c X out hX j 1 (by omega) hj
  have hk:keep X (gL tP c j)=!decide ((onc X (gL tP c j):Int) < 3):=rfl
  have hge:decide ((onc X (gL tP c j):Int)≥3)=keep X (gL tP c j):=by
   rw[hk]
   by_cases h:(onc X (gL tP c j):Int) < 3
   ·rw[decide_eq_true h,decide_eq_false (by omega)];rfl
   ·rw[decide_eq_false h,decide_eq_true (by omega)];rfl
  have hnx : ∀ {s : F6}, s = ⟨phP (La9 X out (gL tP c j)), c, X, ((j + 1 : Nat) : Int), La9 X out (gL tP c j)⟩ → Nx (.next s) (fun t => t = phP (c.foldl (La9 X) []) + 1 ∧ (⟨phP out, c, X, (j : Int), out⟩ : F6).sb7 = c.foldl (La9 X) [])
    (fun s=>∃ a',s=(⟨phP a',c,X,((j+1:Nat):Int),a'⟩:F6)∧(a'.length≤j+1∧a'=(c.take (j+1)).foldl (La9 X) [])):=fun {s} hs=>by
   refine .nx ⟨_,hs,?_,?_⟩
   ·unfold La9
    split
    ·have:=Ld3 (gL tP c j) out;omega
    ·omega
   ·rw[Kc3 tP hj,List.foldl_append,← i2];rfl
  cases out with
  | nil =>
   show Nx (ka0 Stp.next Stp.exit Stp.fail ⟨⟩ _) _ _
   simp only[ka0,m0,m8,K8,Int.toNat_natCast,r0,hge,ve4 [] _ hl,ve5 [] _ hl,hn]
   rw[btD (n9 hj),bt (f0 hj)]
   cases hkk:keep X (gL tP c j) with
   | true=>exact hnx (by unfold La9;rw[hkk,if_pos rfl];rfl)
   | false=>exact hnx (by unfold La9;rw[hkk];rfl)
  | cons o os =>
   show Nx (ka1 Stp.next Stp.exit Stp.fail ⟨⟩ _) _ _
   simp only[ka1,m0,m8,K8,Int.toNat_natCast,r1,hge,ve4 (o::os) _ hl,ve5 (o::os) _ hl,hn]
   rw[btD (n9 hj),bt (f0 hj),bt (f0 hj)]
   cases hkk:keep X (gL tP c j) with
   | true =>
    refine hnx ?_
    unfold La9
    rw[hkk,if_pos rfl]
    have hp:phP (kc7 (o::os) (gL tP c j))=1:=by
     cases h:kc7 (o::os) (gL tP c j) with
     | nil=>exact absurd h (Ge0 _ _)
     | cons _ _=>rfl
    rw[hp]
   | false=>exact hnx (by unfold La9;rw[hkk];rfl)
 ·obtain⟨i1,i2⟩:=hi
  rw[List.take_of_length_le hj] at i2
  cases out with
  | nil =>
   refine⟨1,?_,by rw[← i2];rfl,i2⟩
   show ka0 Stp.next Stp.exit Stp.fail ⟨⟩ _=_
   simp only[ka0]
   rw[bfD (by show ¬ ((j:Nat):Int) < (c.length:Int);omega)]
  | cons o os =>
   refine⟨2,?_,by rw[← i2];rfl,i2⟩
   show ka1 Stp.next Stp.exit Stp.fail ⟨⟩ _=_
   simp only[ka1]
   rw[bfD (by show ¬ ((j:Nat):Int) < (c.length:Int);omega)]
theorem Ld4 (c:List Pln) (hc:c.length≤1000000):Rd (one (r1L tP)) (sb3 c) (fun r=>r=lean c):=by
 have hl:c.length≤1000000000:=by omega
 have hX:=sc5 c
 obtain⟨t,s,h1,h2,h3⟩:=Te1 c (pts c) hc (by omega)
 unfold sb3 lean
 simp only[m0,K8,m8,De1 hl,Xd4 hl,fe3 hl,fe4 hl]
 rw[h1]
 cases hf:ful c with
 | false=>exact⟨_,[],rfl,rfl,rfl⟩
 | true =>
  simp only[h3]
  rw[← ve3]
  subst h2
  cases hF:c.foldl (La9 (pts c)) [] with
  | nil=>exact⟨_,[],rfl,rfl,rfl⟩
  | cons o os=>exact⟨_,o::os,rfl,md0 tP (o::os),rfl⟩
theorem Ge1 (c:List Pln) (hc:c.length≤1000000):kc5 c=lean c:=(Ld4 c hc).p
theorem Ge2 (c:List Pln) (hc:c.length≤1000000):kc6 c=true:=(Ld4 c hc).g
end Go.Ev.Ce
namespace Go.Ev.Ce
open Go Go.Ev Go.Ev.L Go.Proofs
def Ge3 (l:List Pln) (p:Pln):Bool:=l.any fun q=>eqP q p
theorem Ld5 (l:List Pln) (p:Pln):Ge3 l p=true↔p∈l:=by
 unfold Ge3
 rw[List.any_eq_true]
 exact⟨fun⟨q,h,e⟩=>by rw[xb2] at e;exact e ▸ h,fun h=>⟨p,h,(xb2 p p).2 rfl⟩⟩
noncomputable def but (r l:List Pln):List Pln:=r.filter fun p=>Ge3 ws p||!Ge3 l p
theorem lb0 (r l:List Pln) (p:Pln):p∈but r l↔p∈r∧(p∈ws∨p∉l):=by
 unfold but
 rw[List.mem_filter,Bool.or_eq_true,Ld5,Bool.not_eq_true',← Bool.not_eq_true,Ld5]
theorem Zd6 {c:List Pln} (hb:Bds (c++ws)) (hB:ge4 (c++ws)):∀ l:List Pln,(∀ p∈l,p∈c∧onc (cor (c++ws)) p≤2)→∀ z,Inr (but (c++ws) l) z→Inr (c++ws) z
 | [],_,z,hz=>⟨hz.w,fun p hp=>hz.h p ((lb0 _ _ _).2 ⟨hp,.inr (by simp)⟩)⟩
 | a::l,hl,z,hz=>by
  have ih:=Zd6 hb hB l fun p hp=>hl p (List.mem_cons_of_mem _ hp)
  refine ih z ?_
  obtain⟨ha,hn⟩:=hl a List.mem_cons_self
  have har:a∈c++ws:=List.mem_append_left _ ha
  by_cases h0:a∈ws∨a∈l
  ·refine⟨hz.w,fun p hp=>hz.h p ?_⟩
   obtain⟨h1,h2⟩:=(lb0 _ _ _).1 hp
   refine (lb0 _ _ _).2 ⟨h1,?_⟩
   rcases h2 with h2 | h2
   ·exact .inl h2
   ·by_cases hpa:p=a
    ·subst hpa
     rcases h0 with h0 | h0
     ·exact .inl h0
     ·exact absurd h0 h2
    ·exact .inr fun h=>(List.mem_cons.1 h).elim hpa h2
  ·have hw:a∉ws:=fun h=>h0 (.inl h)
   have hal:a∉l:=fun h=>h0 (.inr h)
   have sub:∀ p∈but (c++ws) l,p∈c++ws:=fun p hp=>((lb0 _ _ _).1 hp).1
   refine df0 (r:=but (c++ws) l) (r':=but (c++ws) (a::l)) (p:=a) ?_ ?_ ((lb0 _ _ _).2 ⟨har,.inr hal⟩) ?_ ((cor (c++ws)).filter fun x=>rm a x==0) ?_ ?_ ?_ hz
   ·intro d hd
    obtain⟨p,hp,h⟩:=ue8 [] d hd
    exact⟨p,(lb0 _ _ _).2 ⟨List.mem_append_right _ hp,.inl hp⟩,h⟩
   ·obtain⟨x,h1,h2⟩:=hB
    exact⟨x,h1,fun p hp=>h2 p (sub p hp)⟩
   ·intro q hq
    obtain⟨h1,h2⟩:=(lb0 _ _ _).1 hq
    by_cases hqa:q=a
    ·exact .inr hqa
    ·exact .inl ((lb0 _ _ _).2 ⟨h1,h2.elim .inl fun h=>.inr fun h'=>(List.mem_cons.1 h').elim hqa h⟩)
   ·rw[← List.countP_eq_length_filter];exact hn
   ·intro v hv
    obtain⟨h1,h2⟩:=List.mem_filter.1 hv
    have hx:=ac4 hb v h1
    rw[Kd9 (hb a har) hx] at h2
    exact⟨by simpa using h2,hx.w1⟩
   ·intro v hv h0
    have hv':Cn (c++ws) v:=Fe9 sub hv (ih v hv.toInr)
    obtain⟨x,hx,he⟩:=ue7 hb hv'
    have hok:=ac4 hb x hx
    refine⟨x,List.mem_filter.2 ⟨hx,?_⟩,he⟩
    rw[Kd9 (hb a har) hok]
    have h1:=he.rm a
    rw[h0,Int.zero_mul] at h1
    have:=(Int.mul_eq_zero.1 h1).resolve_right (by have:=hv.w;omega)
    simpa using this
theorem ve7 {c:List Pln} (hf:ful c=true):(chk c==0)=true∧Bds (c++ws)∧ge4 (c++ws):=by
 unfold ful at hf
 rw[Bool.and_eq_true] at hf
 have hb:=(wb8 hf.1).1
 exact⟨hf.1,hb,(ge7 hb (ue8 c) (by simp[ws])).1 hf.2⟩
theorem uc6 {c:List Pln} (hf:ful c=true) (p:Pln):p∈lean c↔p∈c∧keep (pts c) p=true:=by
 unfold lean
 rw[if_pos hf,ve2,(kc2 _).mem_iff,List.mem_filter]
theorem Yc8 (c:List Pln):(lean c).length≤c.length:=by
 unfold lean
 split
 ·have h1 : (dd (La4 (c.filter (keep (pts c))))).length ≤ (La4 (c.filter (keep (pts c)))).length := by
   cases La4 (c.filter (keep (pts c))) with
   | nil=>exact Nat.le_refl _
   | cons a l=>have:=Yd6 a l;simp only[dd,List.length_cons];omega
  rw[ac9] at h1
  have:=List.length_filter_le (keep (pts c)) c
  omega
 ·exact Nat.zero_le _
def ipt (v:V3):Pt:=⟨v.x,v.y,v.z,1⟩
theorem Te2 {v:V3} (h:inV v=true):Okx (ipt v):=by
 obtain⟨h1,h2,h3⟩:=(Kc1 v).1 h
 exact⟨Int.one_pos,by show (1:Int)≤_;omega,h1.mono (by omega),h2.mono (by omega),h3.mono (by omega)⟩
theorem Te3 {v:V3} (h:inV v=true):∀ p∈ws,0≤rmZ p (ipt v):=by
 obtain⟨⟨a1,a2⟩,⟨a3,a4⟩,a5,a6⟩:=(Kc1 v).1 h
 intro p hp
 simp only[ws,List.mem_cons,List.not_mem_nil,or_false] at hp
 rcases hp with rfl | rfl | rfl | rfl | rfl | rfl<;>simp only[rmZ,ipt]<;>omega
theorem Zd7 {c:List Pln} {x:Pt} (hb:∀ p∈c,Bd p) (hx:Okx x):inn c x=true↔∀ p∈c,0≤rmZ p x:=by
 unfold inn
 rw[List.all_eq_true]
 refine⟨fun h p hp=>?_,fun h p hp=>?_⟩
 ·have:=h p hp
  rw[Kd9 (hb p hp) hx] at this
  simpa using this
 ·rw[Kd9 (hb p hp) hx]
  simpa using h p hp
theorem ve8 {c:List Pln} (hf:ful c=true) (v:V3):has (lean c) v=has c v:=by
 obtain⟨hc,hb,hB⟩:=ve7 hf
 have hcl:(chk (lean c)==0)=true:=by
  rw[beq_iff_eq,Tc2] at hc ⊢
  exact⟨Nat.le_trans (Yc8 c) hc.1,fun p hp=>hc.2 p ((uc6 hf p).1 hp).1⟩
 unfold has
 rw[hc,hcl]
 cases hv:inV v with
 | false=>rfl
 | true =>
  have hok:=Te2 hv
  have hbc:∀ p∈c,Bd p:=fun p hp=>hb p (List.mem_append_left _ hp)
  have hbl:∀ p∈lean c,Bd p:=fun p hp=>hbc p ((uc6 hf p).1 hp).1
  have key:inn (lean c) (ipt v)=inn c (ipt v):=by
   apply Bool.eq_iff_iff.2
   rw[Zd7 hbl hok,Zd7 hbc hok]
   constructor
   ·intro h
    have hz:Inr (but (c++ws) (c.filter fun p=>!keep (pts c) p)) (ipt v):=⟨hok.w1,fun p hp=>by
     obtain⟨h1,h2⟩:=(lb0 _ _ _).1 hp
     by_cases hw:p∈ws
     ·exact Te3 hv p hw
     ·have h2:=h2.resolve_left hw
      have h1:=(List.mem_append.1 h1).resolve_right hw
      have hk:keep (pts c) p=true:=by
       cases hk:keep (pts c) p with
       | true=>rfl
       | false=>exact absurd (List.mem_filter.2 ⟨h1,by rw[hk];rfl⟩) h2
      exact h p ((uc6 hf p).2 ⟨h1,hk⟩)⟩
    have hpts:pts c=cor (c++ws):=by unfold pts;rw[if_pos hc]
    have:=Zd6 hb hB _ (fun p hp=>by
     obtain⟨h1,h2⟩:=List.mem_filter.1 hp
     refine⟨h1,?_⟩
     rw[hpts] at h2
     unfold keep at h2
     simp only[Bool.not_not,decide_eq_true_eq] at h2
     omega) _ hz
    exact fun p hp=>this.h p (List.mem_append_left _ hp)
   ·exact fun h p hp=>h p ((uc6 hf p).1 hp).1
  show (true&&(true&&inn (lean c) (ipt v)))=(true&&(true&&inn c (ipt v)))
  rw[key]
theorem Zd8 (l:List Int):Rd (one (r1L tV)) (Va4 l 2) (fun r=>r.length=2):=by
 have key:∃ t s,lp (Na1 ⟨2⟩) ⟨0,0,l,0,0,[]⟩=(t,s)∧(t=2∧∃ O:List V3,O.length=2∧s.ns6=2∧s.eh1=bL tV O):=by
  refine va6 (step:=Na1 ⟨2⟩) (mk:=fun j (a:List V3×Int)=>(⟨phV a.1,(j:Int),l,a.2,a.1.length,bL tV a.1⟩:u9)) 2 (fun j a=>a.1.length=j∧0≤a.2∧a.2≤10*j∧j≤2)
   (fun t s=>t=2∧∃ O:List V3,O.length=2∧s.ns6=2∧s.eh1=bL tV O) (by omega) (fun j a hj hi=>?_) (fun j a hj hi=>?_) 0 ([],0) ⟨rfl,by simp,by simp,by omega⟩
  ·obtain⟨O,d⟩:=a
   obtain⟨i1,i2,i3,i4⟩:=hi
   simp only at i1 i2 i3
   obtain⟨v,d1,n1,n2,n3,n4,n5⟩:=va7 4 l d i2 (by omega) (by omega) (by omega)
   obtain⟨w,hw⟩:∃ w:Nat,v=(w:Int):=⟨v.toNat,by omega⟩
   subst hw
   have hw4:w < 4:=by omega
   have hrow:∃ m:Int,f7 [[(i 8)],[(i 8)],[(i 3)],[(i 24)]] (0+w)=[i m]∧0≤m∧m≤24:=by
    match w,hw4 with
    | 0,_=>exact⟨8,rfl,by omega,by omega⟩
    | 1,_=>exact⟨8,rfl,by omega,by omega⟩
    | 2,_=>exact⟨3,rfl,by omega,by omega⟩
    | 3,_=>exact⟨24,rfl,by omega,by omega⟩
   obtain⟨m,hm,m1,m2⟩:=hrow
   obtain⟨a1,a2,a3,d2,v1,_,_,_,v5,v6⟩:=Vc9 m l d1 (by omega) (by omega) m1 (by omega)
   have e1:toI (hdA (e7 [i m] 0))=m:=rfl
   have e2:K7 [(CK.int .i64)] (e7 [i m] 0)=true:=rfl
   have e3:Nat.ble (0+1) (len [i m])=true:=rfl
   have e4:Nat.blt (0+w) (len [[(i 8)],[(i 8)],[(i 3)],[(i 24)]])=true:=by rw[Nat.zero_add,Nat.blt_eq];exact hw4
   have hn:=p6 hj (show 2≤4611686018427387904 by omega)
   have fin : Nx (.next (⟨1, ((j + 1 : Nat) : Int), l, d2, O.length + 1, bL tV (O ++ [⟨a1, a2, a3⟩])⟩ : u9)) (fun t => t = 2 ∧ ∃ O' : List V3, O'.length = 2 ∧ (⟨phV O, (j : Int), l, d, O.length, bL tV O⟩ : u9).ns6 = 2 ∧ (⟨phV O, (j : Int), l, d, O.length, bL tV O⟩ : u9).eh1 = bL tV O')
     (fun s=>∃ a':List V3×Int,s=(⟨phV a'.1,((j+1:Nat):Int),l,a'.2,a'.1.length,bL tV a'.1⟩:u9)∧(a'.1.length=j+1∧0≤a'.2∧a'.2≤10*((j+1:Nat):Int)∧j+1≤2)) :=
    .nx ⟨(O++[⟨a1,a2,a3⟩],d2),by simp only[Yd2,List.length_append,List.length_singleton],by simp only[List.length_append,List.length_singleton];omega,by simp only;omega,by simp only;omega,by omega⟩
   cases O with
   | nil =>
    show Nx (ua0 Stp.next Stp.exit Stp.fail _ _) _ _
    simp only[ua0,m0,m8,n1,Int.toNat_natCast,hm,e1,e2,e3,e4,v1,hn]
    rw[btD (show (j:Int) < 2 by omega),bt (f0 hw4)]
    exact fin
   | cons o os =>
    show Nx (Y6 Stp.next Stp.exit Stp.fail _ _) _ _
    have rr:=Le1 (l:=o::os) rfl (by simp only[List.length_cons] at i1 ⊢;omega)
    simp only[Y6,m0,m8,n1,Int.toNat_natCast,hm,e1,e2,e3,e4,v1,hn,rr,Wc3]
    rw[btD (show (j:Int) < 2 by omega),bt (f0 hw4)]
    exact fin
  ·obtain⟨O,d⟩:=a
   obtain⟨i1,i2,i3,i4⟩:=hi
   simp only at i1
   cases O with
   | nil=>simp at i1;omega
   | cons o os =>
    have:j=2:=by omega
    refine⟨2,?_,rfl,o::os,by omega,by show (o::os).length=2;omega,rfl⟩
    show Y6 Stp.next Stp.exit Stp.fail _ _=_
    simp only[Y6]
    rw[bfD (by show ¬ ((j:Nat):Int) < 2;omega)]
 obtain⟨t,s,h1,rfl,O,h2,h3,h4⟩:=key
 unfold Va4
 simp only[m0,m8]
 rw[h1]
 simp only[h3,h4]
 exact⟨_,O,rfl,by rw[← h2];exact re6 tV 36 O,h2⟩
end Go.Ev.Ce
section
namespace Go.Ev.Ce
open Go Go.Ev Go.Ev.L Go.Proofs
set_option maxRecDepth 100000
noncomputable def Oa1:List (Nat×Sum):=[(13,Wb5),(24,uc2),(14,ec8),(25,uc4),(27,Yc4),(26,kc0),(28,kc1),(29,nd2),(20,ua7)]
theorem dc1:i6 prog G Oa1:=⟨Ic5,gd1,Vc7,gd6,Kd2,Dc9,Ec0,Td3,va3,trivial⟩
structure I0 where
 bs9:Bool
 Ia6:List V3
 wa1:List Pln
 Bc2:List Pln
 oa9:List (List Pln)
 Md0:Int
 Ob3:Int
 f9:Int
 b9:Int
 g7:Int
 l5:Int
 l6:Int
 l7:Int
 J6:Int
 J7:Int
 J8:Int
 J9:Int
 K0:Int
 K1:Int
structure I1 where
 Oa2:Int
noncomputable def Wb8 (p:I0) (s:I1):St:=⟨(ra 7 ((.ptr 0 0 0 0)::(.unk::((b p.bs9)::((eL tV p.Ia6)::(.unk::((eL tP p.wa1)::((eL tP p.Bc2)::(ra 29 ((eL (tLs tP) p.oa9)::((i p.Md0)::((i p.Ob3)::(ra 17 ((.sl 1 0 3 0)::((i 3)::((i s.Oa2)::(ra 26 []))))))))))))))))),[⟨0,3,[[(i p.f9),(i p.b9),(i p.g7)]],true,false,0⟩,⟨36,3,[[(i p.l5),(i p.l6),(i p.l7)],[(i p.J6),(i p.J7),(i p.J8)],[(i p.J9),(i p.K0),(i p.K1)]],true,false,0⟩]⟩
noncomputable def Y1 {α:Type} (k:I1→α) (e:Nat→α) (z:α) (p:I0) (s:I1):α:=let t1:=(Oa0 (rt tP p.wa1) (⟨(toI (hdA (e7 (f7 [[(i p.l5),(i p.l6),(i p.l7)],[(i p.J6),(i p.J7),(i p.J8)],[(i p.J9),(i p.K0),(i p.K1)]] (0+s.Oa2.toNat)) 0))),(toI (hdA (tlA (e7 (f7 [[(i p.l5),(i p.l6),(i p.l7)],[(i p.J6),(i p.J7),(i p.J8)],[(i p.J9),(i p.K0),(i p.K1)]] (0+s.Oa2.toNat)) 0)))),(toI (hdA (tlA (tlA (e7 (f7 [[(i p.l5),(i p.l6),(i p.l7)],[(i p.J6),(i p.J7),(i p.J8)],[(i p.J9),(i p.K0),(i p.K1)]] (0+s.Oa2.toNat)) 0)))))⟩:V3));let t2:=(bc0 (rt tP p.wa1) (⟨(toI (hdA (e7 (f7 [[(i p.l5),(i p.l6),(i p.l7)],[(i p.J6),(i p.J7),(i p.J8)],[(i p.J9),(i p.K0),(i p.K1)]] (0+s.Oa2.toNat)) 0))),(toI (hdA (tlA (e7 (f7 [[(i p.l5),(i p.l6),(i p.l7)],[(i p.J6),(i p.J7),(i p.J8)],[(i p.J9),(i p.K0),(i p.K1)]] (0+s.Oa2.toNat)) 0)))),(toI (hdA (tlA (tlA (e7 (f7 [[(i p.l5),(i p.l6),(i p.l7)],[(i p.J6),(i p.J7),(i p.J8)],[(i p.J9),(i p.K0),(i p.K1)]] (0+s.Oa2.toNat)) 0)))))⟩:V3));let t3:=(ba2 (rt tP p.wa1));let t4:=(Oa0 (rt tP p.Bc2) (⟨(toI (hdA (e7 (f7 [[(i p.l5),(i p.l6),(i p.l7)],[(i p.J6),(i p.J7),(i p.J8)],[(i p.J9),(i p.K0),(i p.K1)]] (0+s.Oa2.toNat)) 0))),(toI (hdA (tlA (e7 (f7 [[(i p.l5),(i p.l6),(i p.l7)],[(i p.J6),(i p.J7),(i p.J8)],[(i p.J9),(i p.K0),(i p.K1)]] (0+s.Oa2.toNat)) 0)))),(toI (hdA (tlA (tlA (e7 (f7 [[(i p.l5),(i p.l6),(i p.l7)],[(i p.J6),(i p.J7),(i p.J8)],[(i p.J9),(i p.K0),(i p.K1)]] (0+s.Oa2.toNat)) 0)))))⟩:V3));(sl (decide (s.Oa2 < 3)) (sl (inB s.Oa2 3) (sl (((Nat.blt (0+s.Oa2.toNat) (len [[(i p.l5),(i p.l6),(i p.l7)],[(i p.J6),(i p.J7),(i p.J8)],[(i p.J9),(i p.K0),(i p.K1)]]))&&(Nat.ble (0+3) (len (f7 [[(i p.l5),(i p.l6),(i p.l7)],[(i p.J6),(i p.J7),(i p.J8)],[(i p.J9),(i p.K0),(i p.K1)]] (0+s.Oa2.toNat)))))&&(K7 [(CK.int .i64),(CK.int .i64),(CK.int .i64)] (e7 (f7 [[(i p.l5),(i p.l6),(i p.l7)],[(i p.J6),(i p.J7),(i p.J8)],[(i p.J9),(i p.K0),(i p.K1)]] (0+s.Oa2.toNat)) 0))) (sl (okE tP p.wa1) (sl (Ea6 (rt tP p.wa1) (⟨(toI (hdA (e7 (f7 [[(i p.l5),(i p.l6),(i p.l7)],[(i p.J6),(i p.J7),(i p.J8)],[(i p.J9),(i p.K0),(i p.K1)]] (0+s.Oa2.toNat)) 0))),(toI (hdA (tlA (e7 (f7 [[(i p.l5),(i p.l6),(i p.l7)],[(i p.J6),(i p.J7),(i p.J8)],[(i p.J9),(i p.K0),(i p.K1)]] (0+s.Oa2.toNat)) 0)))),(toI (hdA (tlA (tlA (e7 (f7 [[(i p.l5),(i p.l6),(i p.l7)],[(i p.J6),(i p.J7),(i p.J8)],[(i p.J9),(i p.K0),(i p.K1)]] (0+s.Oa2.toNat)) 0)))))⟩:V3)) (sl (okE tP p.wa1) (sl (bc1 (rt tP p.wa1) (⟨(toI (hdA (e7 (f7 [[(i p.l5),(i p.l6),(i p.l7)],[(i p.J6),(i p.J7),(i p.J8)],[(i p.J9),(i p.K0),(i p.K1)]] (0+s.Oa2.toNat)) 0))),(toI (hdA (tlA (e7 (f7 [[(i p.l5),(i p.l6),(i p.l7)],[(i p.J6),(i p.J7),(i p.J8)],[(i p.J9),(i p.K0),(i p.K1)]] (0+s.Oa2.toNat)) 0)))),(toI (hdA (tlA (tlA (e7 (f7 [[(i p.l5),(i p.l6),(i p.l7)],[(i p.J6),(i p.J7),(i p.J8)],[(i p.J9),(i p.K0),(i p.K1)]] (0+s.Oa2.toNat)) 0)))))⟩:V3)) (sl (!(t1==t2)) (e 1) (sl (okE tP p.wa1) (sl (ba3 (rt tP p.wa1)) (sl t3 (sl (okE tP p.Bc2) (sl (Ea6 (rt tP p.Bc2) (⟨(toI (hdA (e7 (f7 [[(i p.l5),(i p.l6),(i p.l7)],[(i p.J6),(i p.J7),(i p.J8)],[(i p.J9),(i p.K0),(i p.K1)]] (0+s.Oa2.toNat)) 0))),(toI (hdA (tlA (e7 (f7 [[(i p.l5),(i p.l6),(i p.l7)],[(i p.J6),(i p.J7),(i p.J8)],[(i p.J9),(i p.K0),(i p.K1)]] (0+s.Oa2.toNat)) 0)))),(toI (hdA (tlA (tlA (e7 (f7 [[(i p.l5),(i p.l6),(i p.l7)],[(i p.J6),(i p.J7),(i p.J8)],[(i p.J9),(i p.K0),(i p.K1)]] (0+s.Oa2.toNat)) 0)))))⟩:V3)) (sl (okE tP p.wa1) (sl (Ea6 (rt tP p.wa1) (⟨(toI (hdA (e7 (f7 [[(i p.l5),(i p.l6),(i p.l7)],[(i p.J6),(i p.J7),(i p.J8)],[(i p.J9),(i p.K0),(i p.K1)]] (0+s.Oa2.toNat)) 0))),(toI (hdA (tlA (e7 (f7 [[(i p.l5),(i p.l6),(i p.l7)],[(i p.J6),(i p.J7),(i p.J8)],[(i p.J9),(i p.K0),(i p.K1)]] (0+s.Oa2.toNat)) 0)))),(toI (hdA (tlA (tlA (e7 (f7 [[(i p.l5),(i p.l6),(i p.l7)],[(i p.J6),(i p.J7),(i p.J8)],[(i p.J9),(i p.K0),(i p.K1)]] (0+s.Oa2.toNat)) 0)))))⟩:V3)) (sl (!(t4==t1)) (e 1) (k ⟨(W (s.Oa2+1))⟩)) z) z) z) z) (k ⟨(W (s.Oa2+1))⟩)) z) z)) z) z) z) z) z) z) (e 2))
noncomputable def Q6 (p:I0) (s:I1):Stp I1:=Y1 .next .exit .fail p s
noncomputable def Ia4:Lo I0 I1:=⟨En Oa1,0,pf4,[1,1,1,0,1,4,4,1,1,0,4,1,1,1,1,4,4],[7,9,10,12,13,43,44,45,63,64,65],.p,[⟨(ru2 7 ((.s (.o (.ptr 0 0 0 0)))::((.s (.o .unk))::((.s (.o .bool))::((.s (.c 3 (nL tV)))::((.s (.o .unk))::((.s (.c 4 (nL tP)))::((.s (.c 4 (nL tP)))::(ru2 29 ((.s (.c 1 (nL (tLs tP))))::((.s (.o (.int .i64)))::((.s (.o (.int .i64)))::(ru2 17 ((.s (.o (.sl 1 0 (some 0) (some 3))))::((.s (.o (.lit .i64 3)))::((.s (.o (.int .i64)))::(ru2 26 []))))))))))))))))),[⟨0,3,true,(some [[(.o (.int .i64)),(.o (.int .i64)),(.o (.int .i64))]])⟩,⟨36,3,true,(some [[(.o (.int .i64)),(.o (.int .i64)),(.o (.int .i64))],[(.o (.int .i64)),(.o (.int .i64)),(.o (.int .i64))],[(.o (.int .i64)),(.o (.int .i64)),(.o (.int .i64))]])⟩],fun a H=>(⟨(toB (slT a 9)),(rL tV (slT a 10)),(rL tP (slT a 12)),(rL tP (slT a 13)),(rL (tLs tP) (slT a 43)),(toI (slT a 44)),(toI (slT a 45)),(toI (slT (rwT (elT H 0) 0) 0)),(toI (slT (rwT (elT H 0) 0) 1)),(toI (slT (rwT (elT H 0) 0) 2)),(toI (slT (rwT (elT H 1) 0) 0)),(toI (slT (rwT (elT H 1) 0) 1)),(toI (slT (rwT (elT H 1) 0) 2)),(toI (slT (rwT (elT H 1) 1) 0)),(toI (slT (rwT (elT H 1) 1) 1)),(toI (slT (rwT (elT H 1) 1) 2)),(toI (slT (rwT (elT H 1) 2) 0)),(toI (slT (rwT (elT H 1) 2) 1)),(toI (slT (rwT (elT H 1) 2) 2))⟩,⟨(toI (slT a 65))⟩)⟩],Q6,[(none,fun p s=>⟨[(b false)],[]⟩),(some 2,fun p s=>⟨(ra 7 ((.ptr 0 0 0 0)::(.unk::((b p.bs9)::((eL tV p.Ia6)::(.unk::((eL tP p.wa1)::((eL tP p.Bc2)::(ra 29 ((eL (tLs tP) p.oa9)::((i p.Md0)::((i p.Ob3)::(ra 17 ((.sl 1 0 3 0)::((i 3)::((i s.Oa2)::((b (decide (s.Oa2 < 3)))::(ra 25 [])))))))))))))))))),[⟨0,3,[[(i p.f9),(i p.b9),(i p.g7)]],true,false,0⟩,⟨36,3,[[(i p.l5),(i p.l6),(i p.l7)],[(i p.J6),(i p.J7),(i p.J8)],[(i p.J9),(i p.K0),(i p.K1)]],true,false,0⟩]⟩)],Wb8⟩
theorem Wb9:Ia4.Ok:=Lo.ok [] (by kernel_rfl) .nil rfl (.cons (fun a H=>by kernel_rfl) .nil) fun p s=>(.of @Y1 (fun F _ _ _ _ _=>by unfold Y1;(repeat' apply k9 (f:=F))<;>rfl) (by kernel_rfl))
structure ea8 where
 bs9:Bool
 Md0:Int
 f9:Int
 b9:Int
 g7:Int
structure I4 where
 Ia6:List V3
 oa9:List (List Pln)
 Ob3:Int
noncomputable def Xb0 (p:ea8) (s:I4):St:=⟨(ra 7 ((.ptr 0 0 0 0)::(.unk::((b p.bs9)::((eL tV s.Ia6)::(ra 32 ((eL (tLs tP) s.oa9)::((i p.Md0)::((i s.Ob3)::(ra 46 [])))))))))),[⟨0,3,[[(i p.f9),(i p.b9),(i p.g7)]],true,false,0⟩]⟩
noncomputable def Y2 {α:Type} (k:I4→α) (e:Nat→α) (z:α) (p:ea8) (s:I4):α:=let t1:=(Lb8 (rt tP (gL (tLs tP) s.oa9 s.Ob3.toNat)));let t2:=(kc5 (rt tP (gL (tLs tP) s.oa9 s.Ob3.toNat)));let t3:=(qb8 (rt tP t1) (rt tP t2));let t4:=(lp (Q6 (⟨p.bs9,(rt tV s.Ia6),(rt tP (gL (tLs tP) s.oa9 s.Ob3.toNat)),(rt tP t1),(rt (tLs tP) s.oa9),p.Md0,s.Ob3,p.f9,p.b9,p.g7,p.f9,p.b9,p.g7,(gL tV s.Ia6 0).x,(gL tV s.Ia6 0).y,(gL tV s.Ia6 0).z,(gL tV s.Ia6 1).x,(gL tV s.Ia6 1).y,(gL tV s.Ia6 1).z⟩:I0)) (⟨0⟩:I1));(sl (decide (s.Ob3 < p.Md0)) (sl (inB s.Ob3 (List.length s.oa9)) (sl (okE tP (gL (tLs tP) s.oa9 s.Ob3.toNat)) (sl (Lb9 (rt tP (gL (tLs tP) s.oa9 s.Ob3.toNat))) (sl (okE tP (gL (tLs tP) s.oa9 s.Ob3.toNat)) (sl (kc6 (rt tP (gL (tLs tP) s.oa9 s.Ob3.toNat))) (sl (okE tP t1) (sl (okE tP t2) (sl (qb9 (rt tP t1) (rt tP t2)) (sl (!t3) (e 1) (sl (inB 0 (List.length s.Ia6)) (sl (inB 1 (List.length s.Ia6)) (sl ((cnE tV s.Ia6)&&((cnE tP (gL (tLs tP) s.oa9 s.Ob3.toNat))&&((cnE tP t1)&&((cnE (tLs tP) s.oa9)&&true)))) (sl (Nat.beq t4.1 1) (e 1) (sl (Nat.beq t4.1 2) (k ⟨(rt tV s.Ia6),(rt (tLs tP) s.oa9),(W (s.Ob3+1))⟩) z)) z) z) z)) z) z) z) z) z) z) z) z) (e 2))
noncomputable def Q7 (p:ea8) (s:I4):Stp I4:=Y2 .next .exit .fail p s
noncomputable def Ia5:Lo ea8 I4:=⟨En Oa1,0,pf4,[1,1,1,0,1,4,4],[7,9,10,43,44,45],(.s .p (.s .p (.s (.b (.s .p (.s .p (.s .p (.s .p (.b (.u Ia4.ls))))))) .p))),[⟨(ru2 7 ((.s (.o (.ptr 0 0 0 0)))::((.s (.o .unk))::((.s (.o .bool))::((.s (.c 3 (nL tV)))::(ru2 32 ((.s (.c 1 (nL (tLs tP))))::((.s (.o (.int .i64)))::((.s (.o (.int .i64)))::(ru2 46 [])))))))))),[⟨0,3,true,(some [[(.o (.int .i64)),(.o (.int .i64)),(.o (.int .i64))]])⟩],fun a H=>(⟨(toB (slT a 9)),(toI (slT a 44)),(toI (slT (rwT (elT H 0) 0) 0)),(toI (slT (rwT (elT H 0) 0) 1)),(toI (slT (rwT (elT H 0) 0) 2))⟩,⟨(rL tV (slT a 10)),(rL (tLs tP) (slT a 43)),(toI (slT a 45))⟩)⟩],Q7,[(none,fun p s=>⟨[(b false)],[]⟩),(some 0,fun p s=>⟨(ra 7 ((.ptr 0 0 0 0)::(.unk::((b p.bs9)::((eL tV s.Ia6)::(ra 32 ((eL (tLs tP) s.oa9)::((i p.Md0)::((i s.Ob3)::((b (decide (s.Ob3 < p.Md0)))::(ra 45 []))))))))))),[⟨0,3,[[(i p.f9),(i p.b9),(i p.g7)]],true,false,0⟩]⟩)],Xb0⟩
theorem Xb1:Ia5.Ok:=Lo.ok [Ia4.pr] (by kernel_rfl) (.cons Wb9 .nil) rfl (.cons (fun a H=>by kernel_rfl) .nil) fun p s=>(.of @Y2 (fun F _ _ _ _ _=>by unfold Y2;(repeat' apply k9 (f:=F))<;>rfl) (by kernel_rfl))
noncomputable def oa5 (x:List Int) (y:Q2) (z:List Pln) (w:V3):Option (b7×List b8):=let t1:=Ua9;let t2:=(kb9 [w.x,w.y,w.z,y.a.x,y.a.y,y.a.z,y.b.x,y.b.y] 2);let t3:=(Ab7 (rt tI x) y (rt tP z));let t4:=(lp (Q7 (⟨t1,(↑(List.length t3):Int),w.x,w.y,w.z⟩:ea8)) (⟨(rt tV t2),(rt (tLs tP) t3),0⟩:I4));(sl Va0 (sl (Lb5 [w.x,w.y,w.z,y.a.x,y.a.y,y.a.z,y.b.x,y.b.y] 2) (sl (okE tI x) (sl (okE tP z) (sl (Ab8 (rt tI x) y (rt tP z)) (sl ((cnE tV t2)&&((cnE (tLs tP) t3)&&true)) (sl (Nat.beq t4.1 1) (some ((b false),[])) (sl (Nat.beq t4.1 2) (some ((b t1),[])) none)) none) none) none) none) none) none)
noncomputable def Aa7 (x:List Int) (y:Q2) (z:List Pln) (w:V3):Bool:=L4 (one r1B) (oa5 x y z w)
noncomputable def Aa8 (x:List Int) (y:Q2) (z:List Pln) (w:V3):Bool:=okO (one r1B) (oa5 x y z w)
noncomputable def uc7:Sum:=Bd2 (X5 tI) (S4 tQ) (X5 tP) (S4 tV) (fun x y z w=>.guard (Aa8 x y z w) (.ret ((one r1B).enc (Aa7 x y z w),[])))
theorem kc8:g9 prog G 4 uc7:=df4 (bd b4 dc1) (one r1B) (o:=oa5) fun x y z w=>ua4 (.s .p (.s .p (.s .p (.s (.s .p (.b (.u Ia5.ls))) .p)))) [Ia5.pr] (by kernel_rfl) (.cons Xb1 .nil) (by kernel_rfl)
end Go.Ev.Ce
end
namespace Go.Ev.Ce
open Go Go.Ev Go.Ev.L Go.Proofs
theorem ge8 (l:List Int):Lb5 l 2=true:=(Zd8 l).g
theorem ge9 (l:List Int):(kb9 l 2).length=2:=(Zd8 l).p
noncomputable def wb2 (P:I0):List V3:=[⟨P.l5,P.l6,P.l7⟩,⟨P.J6,P.J7,P.J8⟩,⟨P.J9,P.K0,P.K1⟩]
theorem mf8 (P:I0) {j:Nat} (h:j < 3):f7 [[(i P.l5),(i P.l6),(i P.l7)],[(i P.J6),(i P.J7),(i P.J8)],[(i P.J9),(i P.K0),(i P.K1)]] (0+j)=tV.row (gL tV (wb2 P) j):=by
 rw[Nat.zero_add]
 exact Y4 tV (l:=wb2 P) h
theorem Te4 (P:I0) (hc:P.wa1.length≤1000000) (hl:P.Bc2=lean P.wa1):(lp (Q6 P) ⟨0⟩).1=2:=by
 have h:=nb3 (step:=Q6 P) (mk:=fun j=>(⟨(j:Int)⟩:I1)) (c:=fun _=>false) (u:=1) (fin:=2) tV (wb2 P) (by simp[wb2])
  (fun j hj=>by
   have h3:j < 3:=hj
   have e1:=mf8 P h3
   generalize gL tV (wb2 P) j=v at *
   have e2:(⟨(toI (hdA (e7 (tV.row v) 0))),(toI (hdA (tlA (e7 (tV.row v) 0)))),(toI (hdA (tlA (tlA (e7 (tV.row v) 0)))))⟩:V3)=v:=rfl
   have e4:K7 [(CK.int .i64),(CK.int .i64),(CK.int .i64)] (e7 (tV.row v) 0)=true:=rfl
   have e5:Nat.ble (0+3) (len (tV.row v))=true:=rfl
   have e6:Nat.blt (0+j) (len [[(i P.l5),(i P.l6),(i P.l7)],[(i P.J6),(i P.J7),(i P.J8)],[(i P.J9),(i P.K0),(i P.K1)]])=true:=by
    rw[Nat.zero_add,Nat.blt_eq];exact h3
   have hC:P.wa1.length≤1000000000:=by omega
   have hL:(lean P.wa1).length≤1000000000:=by have:=Yc8 P.wa1;omega
   simp only[Q6,Y1,Int.toNat_natCast,e1,e2,e4,e5,e6,m0,K8,hl,se3 hC,se4 hC,Se2 hC,Se3 hC,se3 hL,se4 hL,Ub6 hC,Ub7 hC,
    p6 h3 (by omega),beq_self_eq_true,Bool.and_self,Bool.not_true,q9,ab2]
   rw[btD (show (j:Int) < 3 by omega),bt (f0 h3)]
   cases hf:ful P.wa1 with
   | false=>rfl
   | true=>simp only[ve8 hf,beq_self_eq_true,Bool.not_true,q9,ab2])
  (by simp only[Q6,Y1];rw[bfD (show ¬ (((wb2 P).length:Nat):Int) < 3 by simp[wb2])]) 0 (Nat.zero_le _)
 rw[List.drop_zero,show ((wb2 P).any fun _=>false)=false by simp] at h
 exact h
theorem Td5 (l : List (List Pln)) (V : List V3) (b0 : Bool) (x y z : Int) (hV : V.length = 2) (hl : l.length ≤ 1000000000) (hc : ∀ c ∈ l, c.length ≤ 1000000) :
  (lp (Q7 ⟨b0,(l.length:Int),x,y,z⟩) ⟨V,l,0⟩).1=2:=by
 have h:=nb3 (step:=Q7 ⟨b0,(l.length:Int),x,y,z⟩) (mk:=fun j=>(⟨V,l,(j:Int)⟩:I4)) (c:=fun _=>false) (u:=1) (fin:=2) (tLs tP) l hl
  (fun j hj=>by
   have hlen:(gL (tLs tP) l j).length≤1000000:=hc _ (Oc8 (tLs tP) hj)
   have hll:=Yc8 (gL (tLs tP) l j)
   have hA:Lb8 (gL (tLs tP) l j)=lean (gL (tLs tP) l j):=rfl
   have hG:Lb9 (gL (tLs tP) l j)=true:=decide_eq_true hlen
   have i0:inB 0 V.length=true:=by rw[hV];rfl
   have i1:inB 1 V.length=true:=by rw[hV];rfl
   simp only[Q7,Y2,Int.toNat_natCast,m0,K8,m8,hA,hG,Ge1 _ hlen,Ge2 _ hlen,qe2 (lean (gL (tLs tP) l j)) (by omega),qe3 (lean (gL (tLs tP) l j)) (by omega),i0,i1,
    p6 hj (show l.length≤4611686018427387904 by omega),Bool.and_self,Bool.not_true,q9,ab2]
   rw[btD (n9 hj),bt (f0 hj)]
   rw[Te4 _ hlen rfl]
   rfl)
  (by simp only[Q7,Y2];rw[bfD (Q3 (Nat.lt_irrefl _))]) 0 (Nat.zero_le _)
 rw[List.drop_zero,show (l.any fun _=>false)=false by simp] at h
 exact h
theorem Ld6 (x:List Int) (y:Q2) (z:List Pln) (w:V3):oa5 x y z w=some (b true,[]):=by
 have h:=Td5 (Vb8 x y z) (kb9 [w.x,w.y,w.z,y.a.x,y.a.y,y.a.z,y.b.x,y.b.y] 2) true w.x w.y w.z (ge9 _) (by simp[Vb8]) (ge0 x y z)
 unfold oa5
 simp only[m0,K8,m8,te4,te5,Ee8,Ee7,ge8,h]
 rfl
theorem Ge4 (x:List Int) (y:Q2) (z:List Pln) (w:V3):Aa7 x y z w=true:=by unfold Aa7;rw[Ld6];rfl
theorem Ge5 (x:List Int) (y:Q2) (z:List Pln) (w:V3):Aa8 x y z w=true:=by unfold Aa8;rw[Ld6];rfl
end Go.Ev.Ce
namespace Go.Ev
open Go Go.ChangeShapes Go.RowKit
structure Yc9 (w w':World):Prop where
 os:w'.os=w.os
 output:w'.output=w.output
 size:w.heap.size≤w'.heap.size
 block:∀ k,k < w.heap.size→w'.heap[k]?=w.heap[k]?
theorem Yc9.kept {w w':World} (h:Yc9 w w') (may:MemPlace→Prop):w.keptBut w' may:=by
 refine⟨h.os,h.output,fun i hi=>?_⟩
 rw[h.block i hi]
 cases w.heap[i]? with
 | none=>rfl
 | some o=>cases o<;>first | exact⟨rfl,rfl,rfl,fun _ _=>rfl⟩ | exact .inr ⟨rfl,rfl⟩ | rfl
theorem Yc9.frozen {w w':World} (h:Yc9 w w') (b off:Nat) (hb:b < w.heap.size):w'.frozen? ⟨b,off,none⟩=w.frozen? ⟨b,off,none⟩:=by
 simp only[World.frozen?,h.block b hb]
theorem Yc9.cell {w w':World} (h:Yc9 w w') (b off:Nat) (hb:b < w.heap.size):w'.cell? ⟨b,off,none⟩=w.cell? ⟨b,off,none⟩:=by
 simp only[World.cell?,h.block b hb]
theorem Yc9.same {w w':World} (h:Yc9 w w') (p:MemPlace) (hp:p.block < w.heap.size):w.sameAt w' p:=by
 cases p with
 | cell b off=>exact h.cell b off hp
 | map b=>exact h.block b hp
theorem Xb2 {α β:Type} {f:α→Option β}:∀ {l:List α} {r:List β},l.mapM f=some r→r.length=l.length∧∀ (j:Nat) y,r[j]?=some y→∃ x,l[j]?=some x∧f x=some y
 | [],r,h=>by
  have:r=[]:=by simpa using h.symm
  subst this;simp
 | x::l,r,h=>by
  rw[List.mapM_cons] at h
  obtain⟨y,h1,h2⟩:=Option.bind_eq_some_iff.1 h
  obtain⟨r',h3,h4⟩:=Option.bind_eq_some_iff.1 h2
  have:r=y::r':=by simpa using h4.symm
  subst this
  obtain⟨g1,g2⟩:=Xb2 h3
  refine⟨by simp[g1],fun j z hz=>?_⟩
  cases j with
  | zero=>simp at hz;subst hz;exact⟨x,rfl,h1⟩
  | succ j=>simpa using g2 j z (by simpa using hz)
section
variable {D:Type} {enc:TypeId×Value→D} {P:Program}
theorem fc3 {T : TypeId → Prop} (K : Kids P T) (hsz : ∀ {t e : TypeId}, T t → P.underlying t = some (.slice e) → 0 < P.cellsOf e) {w w' : World} {sp : Nat → Bool} (hs : Yc9 w w') :
  ∀ {ts:List TypeId} {vs:List Value} {ds:List (DataW D)} {ps:List MemPlace},(∀ t∈ts,T t)→DataW.TrodAll enc P w 0 (fun _=>true) true ts vs ds ps→(∀ p∈ps,p.block < w.heap.size)→(∀ p∈ps,sp p.block=true)→DataW.TrodAll enc P w' 0 sp true ts vs ds ps
 | [],[],[],_,_,h,_,_=>h
 | t::ts,v::vs,d::ds,ps,ht,h,hlt,hsp=>by
  obtain⟨p,q,⟨fuel,h1⟩,h2,rfl⟩:=h
  refine⟨p,q,⟨fuel,?_⟩,fc3 K hsz hs (fun t h=>ht t (by simp[h])) h2 (fun x hx=>hlt x (by simp[hx])) (fun x hx=>hsp x (by simp[hx])),rfl⟩
  exact DataW.trod_stays K hsz (fun h=>by cases h) (ht t (by simp)) h1 (fun x hx=>hs.same x (hlt x (by simp at hx ⊢;exact .inl hx))) (fun x hx=>hsp x (by simp at hx ⊢;exact .inl hx))
 | [],_::_,_,_,_,h,_,_=>h.elim
 | [],[],_::_,_,_,h,_,_=>h.elim
 | _::_,[],_,_,_,h,_,_=>h.elim
 | _::_,_::_,[],_,_,h,_,_=>h.elim
theorem ve9 {T : TypeId → Prop} (K : Kids P T) (hsz : ∀ {t e : TypeId}, T t → P.underlying t = some (.slice e) → 0 < P.cellsOf e) {f : Func} {s : ChangeSpec} {apart fresh handsOn again : Bool} {W W' : World} {args : Array Value} {ds gs : List (DataW D)} {before : List MemPlace} {tb : TypeId}
  (hT:∀ t∈f.params.toList,T t) (hW:DataW.Whole enc P f.params.toList s.vars apart W args.toList ds gs before) (hv:s.vars=[]) (hr:f.resultTypes=#[tb]) (hb:P.underlying tb=some .bool)
  (h1:(s.fn D ds).results=[.lit (.bool true)]) (h2:(s.fn D ds).args=ds) (h3:(s.fn D ds).vars=[]) (hs:Yc9 W W') :
  s.post enc P f apart fresh handsOn again W args (.bool true) W':=by
 have hlt:=hW.lt
 obtain⟨pa,pv,hA,hV,hps,hz,hn⟩:=id hW
 rw[hv] at hV
 have hpv:gs=[]∧pv=[]:=by
  cases gs with
  | nil=>exact⟨rfl,hV⟩
  | cons=>exact hV.elim
 obtain⟨rfl,rfl⟩:=hpv
 rw[← List.append_nil ds] at h1 h3
 have h2:(s.fn D (ds++[])).args=ds:=by rw[List.append_nil];exact h2
 have hpa:before=pa:=by rw[hps];simp
 subst hpa
 have hagain:∀ sp:Nat→Bool,(∀ p∈before,sp p.block=true)→DataW.TrodAll enc P W' 0 sp true f.params.toList args.toList ds before:=fun sp h=>fc3 K hsz hs hT hA hlt h
 have hres:∀ (b:Nat) (sp:Nat→Bool) (hd:Bool),DataW.TrodAll enc P W' b sp hd f.resultTypes.toList ((Value.bool true).resultList f.resultTypes.size) [.lit (.bool true)] []:=fun b sp hd=>by
  rw[hr]
  exact⟨[],[],⟨1,by simp[DataW.trod,hb,Value.cells,Value.resultList]⟩,rfl,rfl⟩
 have hvars:∀ sp:Nat→Bool,DataW.TrodVars enc P W' sp s.vars ([]:List (DataW D)) []:=fun sp=>by rw[hv];exact rfl
 have hok:∀ (j:Nat) (t:TypeId) (r:Value),f.resultTypes[j]?=some t→((Value.bool true).resultList f.resultTypes.size)[j]?=some r→Value.okWide P W' .any 0 t r:=by
  rw[hr]
  intro j t r h4 h5
  cases j with
  | zero =>
   simp at h4
   subst h4
   have:r=.bool true:=by simpa [Value.resultList] using h5.symm
   subst this
   exact okWide_bool_mk hb _
  | succ j=>simp at h4
 have hag:DataW.TrodAll enc P W' 0 (fun _=>true) true (f.resultTypes.toList++f.params.toList) ((Value.bool true).resultList f.resultTypes.size++args.toList) (.lit (.bool true)::ds) before:=by
  have:=hagain (fun _=>true) (fun _ _=>rfl)
  rw[hr]
  exact⟨[],before,⟨1,by simp[DataW.trod,hb,Value.cells,Value.resultList]⟩,this,rfl⟩
 refine⟨ds,[],before,[],before,[],hW,?_,?_,?_,hs.kept _,fun _=>?_⟩
 ·rw[h1];exact hres _ _ _
 ·rw[h2];exact hagain _ fun p hp=>by simpa using hlt p hp
 ·rw[h3];exact hvars _
 ·refine⟨hok,.lit (.bool true)::ds,[],before,⟨before,[],hag,hvars _,by simp,?_,?_⟩,?_⟩
  ·intro b off hp
   rw[hs.frozen b off (hlt _ hp)]
   exact hz b off (by simpa using hp)
  ·intro ha;simpa using hn ha
  ·intro p hp _;exact hp
variable {w:World} {base:Nat} {spare:Nat→Bool} {held:Bool}
def xd6 (w:World):Fz:=fun b o=>(w.cell? ⟨b,o,none⟩).isSome
theorem Te5 {fuel : Nat} {t : TypeId} {k : IntKind} {cs : List Value} {x : DataW D × List MemPlace} (ht : P.underlying t = some (.int k)) (h : DataW.trod enc P w base spare held fuel t cs = some x) :
  ∃ n,cs=[.int k n]∧(Lit.int k n).wf=true∧x.1=.lit (.int k n):=by
 cases fuel with
 | zero=>cases h
 | succ fuel =>
  match cs,h with
  | [],h=>simp[DataW.trod,ht] at h
  | [v],h =>
   cases v with
   | int k' n =>
    simp only[DataW.trod,ht] at h
    split at h
    ·rename_i hk
     obtain⟨rfl,hw⟩:=hk
     injection h with h;subst h
     exact⟨n,rfl,hw,rfl⟩
    ·cases h
   | _=>simp[DataW.trod,ht] at h
  | a::b::r,h=>simp[DataW.trod,ht] at h
theorem Ge6 {fuel : Nat} {t : TypeId} {cs : List Value} {x : DataW D × List MemPlace} (ht : P.underlying t = some .bool) (h : DataW.trod enc P w base spare held fuel t cs = some x) :
  ∃ n,cs=[.bool n]∧x.1=.lit (.bool n):=by
 cases fuel with
 | zero=>cases h
 | succ fuel =>
  match cs,h with
  | [],h=>simp[DataW.trod,ht] at h
  | [v],h =>
   cases v with
   | bool n =>
    simp only[DataW.trod,ht] at h
    injection h with h;subst h
    exact⟨n,rfl,rfl⟩
   | _=>simp[DataW.trod,ht] at h
  | a::b::r,h=>simp[DataW.trod,ht] at h
theorem we0 {fuel : Nat} {t e : TypeId} {n : Nat} {cs : List Value} {x : DataW D × List MemPlace} (ht : P.underlying t = some (.array n e)) (h : DataW.trod enc P w base spare held fuel t cs = some x) :
  cs.length=P.cellsOf t∧∃ (fuel':Nat) (xs:List (DataW D×List MemPlace)),xs.length=n∧x.1=.agg (xs.map (·.1))∧∀ (j:Nat) y,xs[j]?=some y→DataW.trod enc P w base spare held fuel' e ((cs.drop (j*P.cellsOf e)).take (P.cellsOf e))=some y:=by
 cases fuel with
 | zero=>cases h
 | succ fuel =>
  unfold DataW.trod at h
  rw[ht] at h
  simp only at h
  split at h
  ·rename_i hl
   obtain⟨xs,h1,h2⟩:=Option.map_eq_some_iff.1 h
   have hx:=Xb2 h1
   exact⟨hl,fuel,xs,by simpa using hx.1,by rw[← h2],fun j y hy=>by
    obtain⟨a,ha,hb⟩:=hx.2 j y hy
    have:j < n:=by
     have:=(List.getElem?_eq_some_iff.1 hy).1
     rw[hx.1] at this;simpa using this
    rw[List.getElem?_range this] at ha
    injection ha with ha
    subst ha
    exact hb⟩
  ·cases h
theorem he0 {fuel : Nat} {t : TypeId} {fs : Array Field} {cs : List Value} {x : DataW D × List MemPlace} (ht : P.underlying t = some (.struct fs)) (h : DataW.trod enc P w base spare held fuel t cs = some x) :
  cs.length=P.cellsOf t∧∃ (fuel':Nat) (xs:List (DataW D×List MemPlace)),xs.length=fs.size∧x.1=.agg (xs.map (·.1))∧∀ (j:Nat) f,fs[j]?=some f→∃ y,xs[j]?=some y∧DataW.trod enc P w base spare held fuel' f.type ((cs.drop f.offset).take (P.cellsOf f.type))=some y:=by
 cases fuel with
 | zero=>cases h
 | succ fuel =>
  unfold DataW.trod at h
  rw[ht] at h
  simp only at h
  split at h
  ·rename_i hl
   obtain⟨xs,h1,h2⟩:=Option.map_eq_some_iff.1 h
   have hx:=Xb2 h1
   refine⟨hl,fuel,xs,by simpa using hx.1,by rw[← h2],fun j f hf=>?_⟩
   have hj:j < xs.length:=by
    rw[hx.1];simpa using (Array.getElem?_eq_some_iff.1 hf).1
   obtain⟨a,ha,hb⟩:=hx.2 j _ (List.getElem?_eq_getElem hj)
   have:a=f:=by
    have:fs.toList[j]?=some f:=by simpa using hf
    exact Option.some.inj (ha.symm.trans this)
   subst this
   exact⟨_,List.getElem?_eq_getElem hj,hb⟩
  ·cases h
theorem we1 {fuel : Nat} {t e : TypeId} {cs : List Value} {x : DataW D × List MemPlace} (ht : P.underlying t = some (.slice e)) (h : DataW.trod enc P w base spare held fuel t cs = some x) :
  cs=[.slice none 0 0]∨∃ (a:Addr) (n cap fuel':Nat),cs=[.slice (some a) n cap]∧n≤cap∧cap≤maxLen∧∀ j,j < n→∃ row y,w.cells? base (a.add (j*P.cellsOf e)) (P.cellsOf e)=some row∧DataW.trod enc P w base spare held fuel' e row=some y:=by
 cases fuel with
 | zero=>cases h
 | succ fuel =>
  match cs,h with
  | [],h=>simp[DataW.trod,ht] at h
  | [v],h =>
   cases v with
   | slice a len cap =>
    cases a with
    | none =>
     simp only[DataW.trod,ht] at h
     split at h<;>first | (rename_i e1;cases e1;done) | skip
     all_goals first | exact .inl rfl | (simp_all;done) | skip
    | some a =>
     refine .inr ?_
     simp only[DataW.trod,ht] at h
     split at h
     ·rename_i hc
      obtain⟨elems,h1,h2⟩:=Option.bind_eq_some_iff.1 h
      have hx:=Xb2 h1
      refine⟨a,len,cap,fuel,rfl,hc.2.1,hc.2.2,fun j hj=>?_⟩
      have hj':j < elems.length:=by rw[hx.1];simpa using hj
      obtain⟨i,hi,hb⟩:=hx.2 j _ (List.getElem?_eq_getElem hj')
      rw[List.getElem?_range hj] at hi
      injection hi with hi
      subst hi
      obtain⟨row,r1,r2⟩:=Option.bind_eq_some_iff.1 hb
      exact⟨row,_,r1,r2⟩
     ·cases h
   | _=>simp[DataW.trod,ht] at h
  | a::b::r,h=>simp[DataW.trod,ht] at h
theorem Zd9:∀ (d:Nat) (t:TypeId) (l:List (Nat×CK)),ca1 P d t=some l→∀ (fuel:Nat) (cs:List Value) (x:DataW D×List MemPlace),DataW.trod enc P w base spare held fuel t cs=some x→∀ p∈l,Fa7 cs.toArray p
 | 0,_,_,h,_,_,_,_=>by cases h
 | d+1,t,l,h,fuel,cs,x,hx=>by
  have hpart:∀ {off n:Nat} {e:TypeId} {l':List (Nat×CK)} {fuel':Nat} {y:DataW D×List MemPlace},Pb4 off n (ca1 P d e)=some l'→DataW.trod enc P w base spare held fuel' e ((cs.drop off).take n)=some y→∀ p∈l',Fa7 cs.toArray p:=fun {off n e l' fuel' y} h1 h2 p hp=>by
   obtain⟨l2,g1,g2,rfl⟩:=Oa3 h1
   obtain⟨q,hq,rfl⟩:=List.mem_map.1 hp
   have:=Zd9 d e l2 g1 fuel' _ y h2 q hq
   have hlt:=g2 q hq
   unfold Fa7 at this ⊢
   simp only[List.getElem?_toArray,List.getElem?_take,hlt,if_true,List.getElem?_drop] at this ⊢
   exact this
  have hcat:∀ {α:Type} (f:α→Option (List (Nat×CK))) (xs:List α) (l:List (Nat×CK)),pa1 (xs.map f)=some l→∀ p∈l,∃ a∈xs,∃ l',f a=some l'∧p∈l':=fun {α} f xs=>by
   induction xs with
   | nil=>intro l h;simp only[List.map_nil,pa1] at h;injection h with h;subst h;simp
   | cons a xs ih =>
    intro l h p hp
    simp only[List.map_cons,pa1] at h
    cases h1:f a with
    | none=>simp[h1] at h
    | some l1 =>
    cases h2:pa1 (xs.map f) with
    | none=>simp[h1,h2] at h
    | some l2 =>
    simp only[h1,h2] at h
    injection h with h;subst h
    rcases List.mem_append.1 hp with hp | hp
    ·exact⟨a,by simp,l1,h1,hp⟩
    ·obtain⟨b,hb,r⟩:=ih l2 h2 p hp
     exact⟨b,by simp[hb],r⟩
  unfold ca1 at h
  cases hu:P.underlying t with
  | none=>simp[hu] at h
  | some u =>
  cases u with
  | int k =>
   simp only[hu] at h;injection h with h;subst h
   obtain⟨n,rfl,_,_⟩:=Te5 hu hx
   intro p hp;simp at hp;subst hp;exact⟨n,rfl⟩
  | bool =>
   simp only[hu] at h;injection h with h;subst h
   obtain⟨n,rfl,_⟩:=Ge6 hu hx
   intro p hp;simp at hp;subst hp;exact⟨n,rfl⟩
  | struct fs =>
   simp only[hu] at h
   split at h
   ·cases h
   obtain⟨_,fuel',xs,_,_,hxs⟩:=he0 hu hx
   intro p hp
   obtain⟨f,hf,l',h1,h2⟩:=hcat _ _ _ h p hp
   split at h1
   ·cases h1
   obtain⟨j,hj⟩:=List.getElem?_of_mem hf
   obtain⟨y,_,hy⟩:=hxs j f (by simpa using hj)
   have hc:P.cellsOf f.type=szT P f.type:=by
    unfold Program.cellsOf szT
    cases P.info? f.type<;>rfl
   rw[hc] at hy
   exact hpart h1 hy p h2
  | array n e =>
   simp only[hu] at h
   split at h
   case isFalse=>cases h
   obtain⟨_,fuel',xs,hn,_,hxs⟩:=we0 hu hx
   intro p hp
   obtain⟨j,hj,l',h1,h2⟩:=hcat _ _ _ h p hp
   have hj':j < xs.length:=by rw[hn];simpa using hj
   have hy:=hxs j _ (List.getElem?_eq_getElem hj')
   have hc:P.cellsOf e=szT P e:=by
    unfold Program.cellsOf szT
    cases P.info? e<;>rfl
   rw[hc] at hy
   exact hpart h1 hy p h2
  | _=>simp[hu] at h
def Fa2 (k:IntKind) (es:Nat) (g:Nat→Int):List b7:=(List.range es).map fun c=>.v (.int k (g c))
def Ba4 (k:IntKind) (es:Nat):List (Nat×CK):=(List.range es).map fun c=>(c,.int k)
theorem ae0 {d : Nat} {t : TypeId} {k : IntKind} {es : Nat} (hf : ca1 P d t = some (Ba4 k es)) {fuel : Nat} {cs : List Value} {x : DataW D × List MemPlace} (hx : DataW.trod enc P w base spare held fuel t cs = some x) (hl : cs.length = es) :
  ∃ g:Nat→Int,∀ c,c < es→cs[c]?=some (.int k (g c)):=by
 have h:=Zd9 d t _ hf fuel cs x hx
 have h':∀ c,∃ n:Int,c < es→cs[c]?=some (.int k n):=fun c=>by
  by_cases hc:c < es
  ·have:=h (c,.int k) (List.mem_map.2 ⟨c,by simpa using hc,rfl⟩)
   obtain⟨n,hn⟩:=this
   exact⟨n,fun _=>by simpa using hn⟩
  ·exact⟨0,fun h=>absurd h hc⟩
 exact⟨fun c=>Classical.choose (h' c),fun c hc=>Classical.choose_spec (h' c) hc⟩
theorem we2 {F:Fz} {w:World} (k:IntKind) (n:Int):ca7 F w (.v (.int k n)) (.int k n):=.v _ rfl
theorem Zc0 {k:IntKind} {es:Nat} {g:Nat→Int} {c:Nat} {x:b7} (h:(Fa2 k es g)[c]?=some x):c < es∧x=.v (.int k (g c)):=by
 unfold Fa2 at h
 obtain⟨h1,h2⟩:=Qa5 h
 exact⟨h1,h2.symm⟩
theorem gd7 {t e : TypeId} {k : IntKind} {es d : Nat} (ht : P.underlying t = some (.slice e)) (hf : ca1 P d e = some (Ba4 k es)) (hes : P.cellsOf e = es) (h0 : 0 < es) {fuel : Nat} {cs : List Value} {x : DataW D × List MemPlace} (hx : DataW.trod enc P w 0 spare held fuel t cs = some x) :
  ∃ (v:Value) (n:Nat) (g:Nat→Nat→Int),cs=[v]∧n≤maxLen∧ca7 (xd6 w) w (.tree es n fun j=>Fa2 k es (g j)) v:=by
 rcases we1 ht hx with rfl | ⟨a,n,cap,fuel',rfl,hn,hc,hel⟩
 ·exact⟨_,0,fun _ _=>0,rfl,Nat.zero_le _,.nil _ _⟩
 ·rw[hes] at hel
  have hcell:∀ j,j < n→∃ g:Nat→Int,∀ c,c < es→w.cell? ((a.add (j*es)).add c)=some (.int k (g c)):=fun j hj=>by
   obtain⟨row,y,h1,h2⟩:=hel j hj
   unfold World.cells? at h1
   split at h1
   ·obtain⟨l1,l2⟩:=Xb2 h1
    have hl:row.length=es:=by simpa using l1
    obtain⟨g,hg⟩:=ae0 hf h2 hl
    refine⟨g,fun c hc=>?_⟩
    obtain⟨i,hi,hi2⟩:=l2 c _ (hg c hc)
    rw[List.getElem?_range hc] at hi
    injection hi with hi
    subst hi
    exact hi2
   ·cases h1
  have hg:∀ j,∃ g:Nat→Int,j < n→∀ c,c < es→w.cell? ((a.add (j*es)).add c)=some (.int k (g c)):=fun j=>by
   by_cases hj:j < n
   ·obtain⟨g,hg⟩:=hcell j hj
    exact⟨g,fun _=>hg⟩
   ·exact⟨fun _=>0,fun h=>absurd h hj⟩
  obtain⟨g,hg⟩:=Classical.axiomOfChoice hg
  have hspot:0 < n→a.spot=none:=fun hn=>by
   have:=hg 0 hn 0 h0
   simpa [Addr.add] using World.cell?_spot this
  have hw:∀ j c,j < n→c < es→w.cell? ⟨a.block,a.off+(j*es+c),none⟩=some (.int k (g j c)):=fun j c hj hc=>by
   have:=hg j hj c hc
   rw[aa5 (hspot (by omega)),aa5 rfl] at this
   simpa [Nat.add_assoc] using this
  refine⟨_,n,g,rfl,Nat.le_trans hn hc,.tree es n _ a cap (fun j c=>.int k (g j c)) hspot hn (fun i hi=>by simp[Fa2]) (fun i c hi hc=>?_) hw fun i c hi hc=>?_⟩
  ·unfold xd6
   rw[hw i c hi hc]
   rfl
  ·have:=(Zc0 (List.getElem?_eq_getElem hc)).2
   rw[this]
   exact we2 _ _
theorem he3 (w:World):y9 (fun k=>w.heap.size≤k) (fun _=>⟨0,0,0⟩) [] (xd6 w) w :=
 ⟨fun id b h=>by simp at h,fun id id' b b' h=>by simp at h,fun _ _ h=>h,fun _ h=>h⟩
theorem he4 {G : Nat → List Value} {f : FuncId} {S : Sum} (hS : g9 P G f S) {aargs : List b7} {args : List Value} (hrun : ∃ out, (S aargs []).run = some (b true, out)) (hl : aargs.length = args.length)
  (ha:∀ (i:Nat) x x',aargs[i]?=some x→args[i]?=some x'→ea9 (fun _=>⟨0,0,0⟩) [] (xd6 w) w x x') (hG:∀ g (c:Nat) x,(G g)[c]?=some x→x.oneCell'=true∧w.cell? ⟨g,c,none⟩=some x) :
  Calls P f args.toArray w fun e w'=>e=.returned (.bool true)∧Yc9 w w':=by
 obtain⟨out,hrun⟩:=hrun
 obtain⟨_,hc⟩:=hS aargs [] (b true) out hrun (fun k=>w.heap.size≤k) (fun _=>⟨0,0,0⟩) (xd6 w) w args (he3 w) hl (fun i x x' h1 h2=>.val (ha i x x' h1 h2)) (fun g c x hx=>by
  obtain⟨h1,h2⟩:=hG g c x hx
  exact⟨h1,by unfold xd6;rw[h2];rfl,h2⟩)
 refine hc.mono fun e w' ⟨r',he,ρ',F',hA,hH,hW⟩=>?_
 have:=ea3 hW
 subst this
 exact⟨he,hA.ext.os,hA.ext.output,hA.ext.size,fun k hk=>hA.ext.block k hk (by omega)⟩
theorem ae1 {ρ : Rho} {H : List b8} {F : Fz} {t : TypeId} {k : IntKind} {es d : Nat} {v : Value} {dd : DataW D} {pp : List MemPlace} {bs : Nat} {r : Reach} (hag : agT P t = true) (hf : ca1 P d t = some (Ba4 k es)) (hes : P.cellsOf t = es)
  (hok:Value.okWide P w r bs t v) (h:DataW.Trod enc P w base spare held t v dd pp):∃ g:Nat→Int,ea9 ρ H F w (.agg (Fa2 k es g)) v:=by
 have hv:∃ cs:Array Value,v=.agg cs∧cs.size=P.cellsOf t:=by
  unfold agT at hag
  unfold Value.okWide at hok
  split at hag
  ·rename_i fs hu;rw[hu] at hok;obtain⟨cs,h1,h2,_⟩:=hok;exact⟨cs,h1,h2⟩
  ·rename_i n e hu;rw[hu] at hok;obtain⟨cs,h1,h2,_⟩:=hok;exact⟨cs,h1,h2⟩
  ·cases hag
 obtain⟨cs,rfl,hsz⟩:=hv
 obtain⟨fuel,hx⟩:=h
 have hx:DataW.trod enc P w base spare held fuel t cs.toList=some (dd,pp):=hx
 obtain⟨g,hg⟩:=ae0 hf hx (by simpa [hes] using hsz)
 refine⟨g,.agg _ _ (by simp[Fa2,hsz,hes]) fun c x x' h1 h2=>?_⟩
 obtain⟨hc,rfl⟩:=Zc0 h1
 have:=hg c hc
 have h3:some x'=some (.int k (g c)):=by rw[← h2];simpa using this
 injection h3 with h3
 subst h3
 exact .v _
theorem nd8 {ρ : Rho} {H : List b8} {t e : TypeId} {k : IntKind} {es d : Nat} {v : Value} {dd : DataW D} {pp : List MemPlace} {bs : Nat} {r : Reach} (ht : P.underlying t = some (.slice e)) (hf : ca1 P d e = some (Ba4 k es)) (hes : P.cellsOf e = es) (h0 : 0 < es)
  (hok:Value.okWide P w r bs t v) (h:DataW.Trod enc P w 0 spare held t v dd pp):∃ (n:Nat) (g:Nat→Nat→Int),n≤maxLen∧ea9 ρ H (xd6 w) w (.tree es n fun j=>Fa2 k es (g j)) v:=by
 obtain⟨fuel,hx⟩:=h
 obtain⟨v',n,g,h1,h2,h3⟩:=gd7 ht hf hes h0 hx
 have hv:v.cells=#[v]:=by
  unfold Value.okWide at hok
  rw[ht] at hok
  cases v with
  | agg cs=>exfalso;simp[Cell.okWide,Cell.ok,ht] at hok
  | _=>rfl
 rw[hv] at h1
 have:v=v':=by simpa using h1
 subst this
 exact⟨n,g,h2,.cell (.mem h3)⟩
end
end Go.Ev
namespace Go.Ev.L
open Go Go.Ev
theorem we3 {α : Type} (t : Ty α) (n : Nat) (g : Nat → Nat → Int) (f : (Nat → Int) → α) (h : ∀ j, Fa2 .i64 t.es (g j) = t.row (f (g j))) :
  ∃ l,(X5 t).dec (.tree t.es n fun j=>Fa2 .i64 t.es (g j))=some l∧(X5 t).grd (.tree t.es n fun j=>Fa2 .i64 t.es (g j))=true:=by
 refine⟨lsL t n fun j=>Fa2 .i64 t.es (g j),?_,Gb9 t (f:=fun k=>f (g k)) fun k _=>h k⟩
 show Bool.rec (motive:=fun _=>Option (List α)) none (some (lsL t n fun j=>Fa2 .i64 t.es (g j))) (Nat.beq t.es t.es)=_
 rw[Nat.beq_refl]
end Go.Ev.L
namespace Go.Ev.L
open Go Go.Ev
def Rdg {α:Type} (c:Cod α) (x:b7) (a:α):Prop:=c.dec x=some a∧c.grd x=true
theorem Ld7 {α:Type} (t:Ty α) (n:Nat) (g:Nat→Nat→Int) (f:(Nat→Int)→α) (h:∀ j,Fa2 .i64 t.es (g j)=t.row (f (g j))):∃ l,Rdg (X5 t) (.tree t.es n fun j=>Fa2 .i64 t.es (g j)) l:=we3 t n g f h
theorem we4 (n:Nat) (g:Nat→Nat→Int):∃ l,Rdg (X5 tI) (.tree 1 n fun j=>Fa2 .i64 1 (g j)) l:=Ld7 tI n g (fun g=>g 0) fun _=>rfl
theorem ae2 {α:Type} (t:Ty α) {cs:List b7} (h:t.ok cs=true):∃ a,Rdg (S4 t) (.agg cs) a:=⟨t.rd cs,by
 show Bool.rec (motive:=fun _=>Option α) none (some (t.rd cs)) (t.ok cs)=_
 rw[h],rfl⟩
section
variable {α β γ δ ε:Type} {c:Cod α} {d:Cod β} {e:Cod γ} {f:Cod δ} {c5:Cod ε} {x y z w v:b7} {a:α} {b':β} {g:γ} {j:δ} {m:ε} {r:b7×List b8}
theorem mf9 {k:α→β→γ→δ→DT (b7×List b8)} (h1:Rdg c x a) (h2:Rdg d y b') (h3:Rdg e z g) (h4:Rdg f w j) (h:(k a b' g j).run=some r):(Bd2 c d e f k [x,y,z,w] []).run=some r:=by
 unfold Bd2
 simp only[h1.1,h1.2,h2.1,h2.2,h3.1,h3.2,h4.1,h4.2]
 exact h
end
theorem Te6 {g p:Bool} (hg:g=true) (hp:p=true):(DT.guard g (.ret ((one r1B).enc p,([]:List b8)))).run=some (b true,([]:List b8)):=by subst hg;subst hp;rfl
end Go.Ev.L
