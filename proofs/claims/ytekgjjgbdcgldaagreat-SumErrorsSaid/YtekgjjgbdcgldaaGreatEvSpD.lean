/- Own work. -/
import Derived.Test.YtekgjjgbdcgldaaGreatEvSp4
import Derived.MapKept
import GoSem.Instr.MapUpdate
import Derived.OrdersIn
set_option linter.all false
noncomputable section
def Qea:=@List.getElem?_eq_some_iff
def Qeb:=@Bool.and_eq_true
def Qec:=@Nat.eq_of_beq_eq_true
def Qed:=@List.getElem?_eq_getElem
def Qee:=@Nat.le_refl
def Qef:=@Option.some.inj
def Qeg:=@List.getElem?_append_left
def Qeh:=@List.getElem?_map
def Qei:=@Array.getElem?_eq_getElem
def Qej:=@Array.getElem?_eq_some_iff
def Qek:=@List.getElem?_set_ne
def Qel:=@List.length_append
def Qem:=@Array.getElem?_push
def Qen:=@Option.map_eq_some_iff
def Qeo:=@List.all_eq_true
def Qep:=@List.getElem?_eq_none
def Qeq:=@Nat.blt_eq
def Qer:=@Nat.lt_or_ge
def Qes:=@List.getElem?_take
def Qet:=@List.mem_filterMap
def Qeu:=@List.getElem?_append_right
def Qev:=@Classical.byContradiction
def Qew:=@Nat.ne_of_lt
def Qex:=@Nat.zero_add
def Qey:=@Nat.le_of_ble_eq_true
def Qez:=@List.mem_append_right
def Qeaa:=@List.map_cons
namespace Go.Ev
open Go
section
variable{WB K:Nat->Prop}{J:List Value->World->Prop}{ρ ρ0:Rho}{H H0 H':List b8}{F F0:Fz}{w w0 w':World}{W':Nat->Prop}{up:List Value}{E:Env}{a:List b7}{ac:Act}{x:b7}{o:Oper}
def ac9(P:Program)(WB K:Nat->Prop)(J:List Value->World->Prop)(ρ0:Rho)(H0:List b8)(F0:Fz)(w0:World)(ρ:Rho)(H:List b8)(F:Fz)(w:World)(up:List Value)(ds:List Deferred)(x:b7)(H':List b8)(x':Value)(w':World):Prop :=
 ∃ρ' F' W'',C2 P WB K J ρ0 H0 F0 w0 H' ds w' ρ' F' W'' up/\Tr ρ H F w ρ' H' F' w'/\XW ρ' H' F' w' x x'
def ltO(n:Nat):Operand->Bool
 |.tmp t=>Nat.blt t n
 |_=>true
theorem Sb1{n:Nat}(hv:VR ρ H F w a (ac.tmps.toList++up))(hn:ac.tmps.size=n)(hG:GOk E F w)(y:Operand)(hy:ltO n y=true):XW ρ H F w (d7 E a (j9 y)) (ac.eval y):=by
 cases y with
 |tmp t =>
  show XW ρ H F w (d7 E a (.t t)) (ac.tmps.getD t undef);have hlt:t<n:=by have:=hy;unfold ltO at this;rwa [Qeq] at this
  rw[Db5];have hl:=hv.1;rw[Qel] at hl;have hsz:ac.tmps.toList.length=ac.tmps.size:=Array.length_toList;have hlt':t<ac.tmps.size:=hn ▸ hlt;have ha:t<a.length:=by rw[hl,hsz];exact Nat.lt_of_lt_of_le hlt' (Nat.le_add_right _ _)
  have h1:a[t]?=some a[t]:=Qed ha;have h2:(ac.tmps.toList++up)[t]?=some ac.tmps[t]:=by
   rw[Qeg (by rw[hsz];exact hlt')]
   simp[hlt']
  have:=hv.2 t _ _ h1 h2
  simpa [h1,Array.getD,hlt'] using this
 |const v=>exact .w (E8.ofVal v)
 |func f=>exact .w (.val (.cell (.mem (.fn f))))
 |global g =>
  have:Ca8 (λ_=>⟨0,0,0⟩) [] F w [] #[]:=⟨rfl,λi x x' hx=>by simp at hx⟩
  have h:=o4 (ρ:=ρ) (H:=q7 H) (a:=[]) (ac:=⟨#[],[]⟩) ⟨rfl,λi x x' hx=>by simp at hx⟩ hG (.global g)
  exact .w h
theorem Ac5{t:Nat}{b:b8}(h:we5 b)(h':we6 t b):False:=by
 have h1:b.et=0:=h.2;have h2:b.et=t+1:=h'.2;rw[h1] at h2;cases h2
theorem bd8{id c g:Nat}{b:b8}{v:Value}(hs:Pc4 0 H x=some (id,c,g,b))(hx:XW ρ H F w x v):x=.ptr id 0 c g/\H[id]?=some b/\b.dead=false/\we5 b/\v=.pointer (some ⟨(ρ id).blk,c,none⟩):=by
 revert hs hx
 cases x with
 |ptr id' i' c' g' =>
  intro hs hx;simp only[Pc4,D3] at hs;cases hb:H[id']? with
  |none=>simp[hb] at hs
  |some b' =>
  simp only[hb] at hs;cases hd:b'.dead with
  |true=>simp[hd] at hs
  |false =>
  simp only[hd] at hs;cases he:(G5 b'&&Nat.beq b'.et 0) with
  |false=>simp[he] at hs
  |true =>
  simp only[he] at hs;cases hg:Nat.beq b'.g g' with
  |false=>simp[hg] at hs
  |true =>
  simp only[hg] at hs;cases hi:Nat.beq i' 0 with
  |false=>simp[hi] at hs
  |true =>
  simp only[hi] at hs;injection hs with hs;injection hs with e1 hs;injection hs with e2 hs;injection hs with e3 e4
  subst e1 e2 e3 e4;rw[Qeb] at he;have he:=And.intro (Qec he.1) (Qec he.2);have hi:=Qec hi;subst hi;refine⟨rfl,hb,hd,he,?_⟩;have hdead:∀q,(q7 H)[id']?=some q->q.dead=true:=λq hq=>by
   rw[Bd6 hb (Jb0 he)] at hq;injection hq with hq;rw[<- hq]
  have hno:∀{v},ka7 ρ (q7 H) F w (.ptr id' 0 c' g') v->False:=λ{v} h=>by
   cases h with
   |mem h=>cases h
   |ptr _ _ _ _ ad q hq hd'=>rw[hdead q hq] at hd';cases hd'
  cases hx with
  |w h=>cases h with
   |val h=>cases h with
    |cell h=>exact (hno h).elim
  |c h =>
   cases h with
   |n h=>exact (hno h).elim
   |box=>rfl
   |map _ _ _ b2 t hb2 _ he2 =>
    have:b2=b':=Qef (hb2.symm.trans hb)
    subst this;exact (Ac5 he he2).elim
 |_=>intro hs;cases hs
theorem Zd2{t id c g:Nat}{b:b8}{v:Value}(hs:Pc4 (t+1) H x=some (id,c,g,b))(hx:XW ρ H F w x v):x=.ptr id 0 c g/\H[id]?=some b/\b.dead=false/\we6 t b/\v=.map (some (ρ id).blk):=by
 revert hs hx
 cases x with
 |ptr id' i' c' g' =>
  intro hs hx;simp only[Pc4,D3] at hs;cases hb:H[id']? with
  |none=>simp[hb] at hs
  |some b' =>
  simp only[hb] at hs;cases hd:b'.dead with
  |true=>simp[hd] at hs
  |false =>
  simp only[hd] at hs;cases he:(G5 b'&&Nat.beq b'.et (t+1)) with
  |false=>simp[he] at hs
  |true =>
  simp only[he] at hs;cases hg:Nat.beq b'.g g' with
  |false=>simp[hg] at hs
  |true =>
  simp only[hg] at hs;cases hi:Nat.beq i' 0 with
  |false=>simp[hi] at hs
  |true =>
  simp only[hi] at hs;injection hs with hs;injection hs with e1 hs;injection hs with e2 hs;injection hs with e3 e4
  subst e1 e2 e3 e4;rw[Qeb] at he;have he:=And.intro (Qec he.1) (Qec he.2);have hi:=Qec hi;subst hi;refine⟨rfl,hb,hd,he,?_⟩;have hdead:∀q,(q7 H)[id']?=some q->q.dead=true:=λq hq=>by
   rw[Bd6 hb (Jb1 he)] at hq;injection hq with hq;rw[<- hq]
  have hno:∀{v},ka7 ρ (q7 H) F w (.ptr id' 0 c' g') v->False:=λ{v} h=>by
   cases h with
   |mem h=>cases h
   |ptr _ _ _ _ ad q hq hd'=>rw[hdead q hq] at hd';cases hd'
  cases hx with
  |w h=>cases h with
   |val h=>cases h with
    |cell h=>exact (hno h).elim
  |c h =>
   cases h with
   |n h=>exact (hno h).elim
   |map=>rfl
   |box _ _ _ b2 hb2 _ he2 =>
    have:b2=b':=Qef (hb2.symm.trans hb)
    subst this;exact (Ac5 he2 he).elim
 |_=>intro hs;cases hs
theorem we7(H:List b8)(et:Nat)(elems:List (List b7)):Pc5 H et elems=H++[{ et,es:=0,elems,own:=true,dead:=false,g:=0 }]:=by simp[Pc5,J0]
theorem we8 {y : b7} {y' : Value} (hy : XW ρ H F w y y') (hp : mb9 y = true) (hb : Pc0 cf0 (G4 y) = true) :
  (G4 y).length=y'.cells.toList.length/\∀(i:Nat) z z',(G4 y)[i]?=some z->y'.cells.toList[i]?=some z'->z'.oneCell'=true/\XC ρ H F w z z':=by
 have hone:∀{i:Nat} {z:b7} {z':Value},(G4 y)[i]?=some z->XC ρ H F w z z'->z'.oneCell'=true/\XC ρ H F w z z':=λ{i z z'} hz hx=>⟨hx.one (fe7 hb z (List.mem_of_getElem? hz)),hx⟩
 cases hy with
 |w h =>
  obtain⟨h1,h2⟩:=zc7 h hp;exact⟨h1,λi z z' hz hz'=>hone hz (.n (h2 i z z' hz hz'))⟩
 |c h =>
  have h0:=h;cases h with
  |n h =>
   obtain⟨h1,h2⟩:=zc7 (.val (.cell h)) hp;exact⟨h1,λi z z' hz hz'=>hone hz (.n (h2 i z z' hz hz'))⟩
  |box id c g b h1 h2 h3 =>
   refine⟨rfl,λi z z' hz hz'=>?_⟩
   cases i with
   |zero=>simp[G4,Value.cells] at hz hz';subst hz hz';exact⟨rfl,h0⟩
   |succ i=>simp[G4] at hz
  |map id c g b t h1 h2 h3 =>
   refine⟨rfl,λi z z' hz hz'=>?_⟩
   cases i with
   |zero=>simp[G4,Value.cells] at hz hz';subst hz hz';exact⟨rfl,h0⟩
   |succ i=>simp[G4] at hz
section
variable{ds:List Deferred}(hC:C2 E.P WB K J ρ0 H0 F0 w0 H ds w ρ F W' up)(hJ:Lc6 K J)
include hC hJ
theorem pf0 (row : List b7) (vs : Array Value) (t : TypeId) (hl : row.length = vs.size) (hc : ∀ (c : Nat) x x', row[c]? = some x → vs[c]? = some x' → x'.oneCell' = true ∧ XC ρ H F w x x') :
  ac9 E.P WB K J ρ0 H0 F0 w0 ρ H F w up ds (.ptr H.length 0 0 0) (Pc5 H 0 [row]) (.pointer (some ⟨w.heap.size,0,none⟩)) (w.alloc (.cells vs t)):=by
 obtain⟨c1,c2,c3,c4⟩:=hC.alloc hJ (.cells vs t);have hap:∀(id:Nat) b,H[id]?=some b->G5 b=true->b.dead=false->(ρ id).blk≠w.heap.size:=λid b hb hs hd=>Qew (hC.srel.has id b hb hs hd).2.2.2.1
 rw[we7];have hnew:(w.alloc (.cells vs t)).heap[w.heap.size]?=some (.cells vs t (0,0)):=by simp only[World.alloc,Qem];simp
 have hfirst:∀{x x'},XC ρ H F (w.alloc (.cells vs t)) x x'->XC (ρnew ρ H ⟨w.heap.size,0,0⟩) (H++[{ et:=0,es:=0,elems:=[row],own:=true,dead:=false,g:=0 }]) F (w.alloc (.cells vs t)) x x':=λ{x x'} hx=>by
  have hlt:∀{id:Nat} {b:b8},H[id]?=some b->id<H.length:=λh=>(Qea.1 h).1
  have hρ:∀id,id<H.length->ρnew ρ H ⟨w.heap.size,0,0⟩ id=ρ id:=λid hid=>by simp[ρnew,Qew hid]
  cases hx with
  |n hx =>
   refine .n (hx.carry (λid b hb hd=>?_) (λ_ _ h=>h) (λ_ _ _=>rfl))
   obtain⟨k1,k2⟩:=xa9 hb hd;exact⟨b,ta6 (by rw[Qeg (hlt k1)];exact k1) k2,hd,Qee _,λ_=>⟨hρ id (hlt k1),rfl,Qee _⟩⟩
  |box id c g b hb hd he =>
   rw[<- hρ id (hlt hb)];exact .box id c g b (by rw[Qeg (hlt hb)];exact hb) hd he
  |map id c g b t hb hd he =>
   rw[<- hρ id (hlt hb)];exact .map id c g b t (by rw[Qeg (hlt hb)];exact hb) hd he
 obtain⟨d1,d2⟩:=c1.adopt w.heap.size 0 c3 (λh=>h.2 rfl) (λo hf=>c4 o hf) (by simp) hap (λhk=>Nat.lt_irrefl _ (hC.kept _ hk).2) { et:=0,es:=0,elems:=[row],own:=true,dead:=false,g:=0 } (Jb0 ⟨rfl,rfl⟩) rfl
  (.inl ⟨⟨rfl,rfl⟩,row,vs,t,rfl,hnew,hl,λc x x' hx hx'=>by
   obtain⟨k1,k2⟩:=hc c x x' hx hx';have k3:=c2 x x' (.c k2);refine⟨k1,hfirst ?_⟩;cases k3 with
   |c h=>exact h
   |w h =>
    cases k2 with
    |n k2 =>
     cases h with
     |val h =>
      cases h with
      |cell h=>exact .n h
      |agg=>cases k1
      |fn f caps vs' hl' h' =>
       exact .n (k2.carry (λid b hb hd=>⟨b,hb,hd,Qee _,λ_=>⟨rfl,rfl,Qee _⟩⟩) (λ_ _ h=>h) λb o hf=>ic4 (a:=⟨b,o,none⟩) (by
        have:=gc7 (hC.hrel.frz b o hf)
        simp only[World.alloc,Qem];rw[if_neg (Qew this)]))
     |tup=>cases k1
    |box id c g b hb hd he=>exact .box id c g b hb hd he
    |map id c g b t hb hd he=>exact .map id c g b t hb hd he⟩)
 refine⟨_,F,_,d1,λx x' hx=>d2 _ _ (c2 _ _ hx),.c ?_⟩
 have hρn:(ρnew ρ H ⟨w.heap.size,0,0⟩ H.length).blk=w.heap.size:=by simp[ρnew]
 have:=XC.box (ρ:=ρnew ρ H ⟨w.heap.size,0,0⟩) (F:=F) (w:=w.alloc (.cells vs t)) H.length 0 0 { et:=0,es:=0,elems:=[row],own:=true,dead:=false,g:=0 } (H:=H++[{ et:=0,es:=0,elems:=[row],own:=true,dead:=false,g:=0 }]) (by simp) rfl ⟨rfl,rfl⟩
 rwa [hρn] at this
theorem ff2 {t : TypeId} {z : List b7} (ho : o.op = .alloc t) (hz : zeT E.P t = some z) (he : (gc5 E a H (.balloc z)).run = some (x, H')) :
  l7 E.P o ac w (ac9 E.P WB K J ρ0 H0 F0 w0 ρ H F w up ds x H'):=by
 have he':some (b7.ptr (len H) 0 0 0,Pc5 H 0 [z])=some (x,H'):=he;injection he' with he';injection he' with e1 e2;subst e1 e2
 rw[o3];obtain⟨ti,zv,hi,hzz,rfl,hone⟩:=nb2 hz;refine .value (x':=.pointer (some ⟨w.heap.size,0,none⟩)) (w':=w.alloc (.cells zv.cells t)) (by simp[execOp,ho,Instr.alloc,zeroValue,typeInfo,hi,hzz,newVar,newRow]) ?_
 refine pf0 hC hJ _ zv.cells t (by simp) λc y y' hy hy'=>?_
 rw[Qeh] at hy;have hy'':zv.cells.toList[c]?=some y':=by simpa using hy'
 rw[hy''] at hy
 simp at hy
 subst hy;exact⟨hone y' (List.mem_of_getElem? hy''),.n (.v _)⟩
theorem Kf3 {n : Nat} {t : TypeId} {y : Operand} (hv : VR ρ H F w a (ac.tmps.toList ++ up)) (hn : ac.tmps.size = n) (hG : GOk E F w) (ho : o.op = .box t y) (hy : ltO n y = true) (he : (gc5 E a H (.bbox (j9 y))).run = some (x, H')) :
  l7 E.P o ac w (ac9 E.P WB K J ρ0 H0 F0 w0 ρ H F w up ds x H'):=by
 have hyr:=Sb1 hv hn hG y hy;simp only[gc5] at he;cases hc:(mb9 (d7 E a (j9 y))&&Pc0 cf0 (G4 (d7 E a (j9 y)))) with
 |false=>rw[hc] at he;cases he
 |true =>
 rw[hc] at he;have he':some (b7.ptr (len H) 0 0 0,Pc5 H 0 [G4 (d7 E a (j9 y))])=some (x,H'):=he;injection he' with he';injection he' with e1 e2;subst e1 e2
 rw[Qeb] at hc;rw[o3];obtain⟨h1,h2⟩:=we8 hyr hc.1 hc.2;refine .value (x':=.pointer (some ⟨w.heap.size,0,none⟩)) (w':=w.alloc (.cells (ac.eval y).cells t)) (by simp[execOp,ho,Instr.box,newVar,newRow]) ?_
 exact pf0 hC hJ _ (ac.eval y).cells t (by simpa using h1) λc y y' hy hy'=>h2 c y y' hy (by simpa using hy')
end
end
section
variable{WB K:Nat->Prop}{J:List Value->World->Prop}{ρ ρ0:Rho}{H H0 H':List b8}{F F0:Fz}{w w0 w':World}{W':Nat->Prop}{up:List Value}{E:Env}{a:List b7}{ac:Act}{x:b7}{o:Oper}
variable{ds:List Deferred}{n:Nat}(hC:C2 E.P WB K J ρ0 H0 F0 w0 H ds w ρ F W' up)(hJ:Lc6 K J)(hv:VR ρ H F w a (ac.tmps.toList++up))(hn:ac.tmps.size=n)(hG:GOk E F w)
theorem Kf4{x:b7}{x':Value}(h:XC ρ H F w x x'):ka7 ρ (q7 H) F w (qa1 H x) x':=by
 cases h with
 |n h =>
  unfold qa1;split
  ·split
   ·rename_i b hb;cases G5 b with
    |true=>exact .unk _
    |false=>exact h
   ·exact .unk _
  ·exact h
 |box id c g b hb hd he =>
  unfold qa1;simp only[D3,hb,Jb0 he];exact .unk _
 |map id c g b t hb hd he =>
  unfold qa1;simp only[D3,hb,Jb1 he];exact .unk _
include hC hJ hv hn hG
omit hJ in
theorem pf1 {t : TypeId} {p : Nat} (ho : o.op = .load t (.tmp p)) (hp : Nat.blt p n = true) (hu : E.P.underlying t ≠ none) (he : (gc5 E a H (.bload (szT E.P t) (agT E.P t) p)).run = some (x, H')) :
  l7 E.P o ac w (ac9 E.P WB K J ρ0 H0 F0 w0 ρ H F w up ds x H'):=by
 have hyr:=Sb1 hv hn hG (.tmp p) hp;simp only[gc5] at he;cases hs:Pc4 0 H (d7 E a (.t p)) with
 |none=>rw[hs] at he;cases he
 |some q =>
 obtain⟨id,c,g,b⟩:=q;rw[hs] at he
 simp only at he
 obtain⟨h1,h2,h3,h4,h5⟩:=bd8 hs hyr;cases hle:Nat.ble (c+szT E.P t) (len (o0 b.elems 0)) with
 |false=>rw[hle] at he;cases he
 |true =>
 rw[hle] at he;obtain⟨z,hz1,hz2⟩:=qb8 he;obtain⟨e0,rfl⟩:x=z/\H=H':=by injection hz2 with e1 e2;exact⟨e1,e2.symm⟩
 rw[e0]
 clear e0 hz2
 obtain⟨_,_,_,_,hcont⟩:=hC.srel.has id b h2 (Jb0 h4) h3
 rcases hcont with⟨_,row,vs,tt,m1,m2,m3,m4⟩|⟨t',K',El,fl,es,clk,m1,_⟩
 case inr=>exact (Ac5 h4 m1).elim
 have hrow:o0 b.elems 0=row:=by rw[m1];rfl
 rw[hrow] at hle hz1;rw[o3] at hle;have hle:=Qey hle;have hti:∃i,E.P.info? t=some i/\i.size=szT E.P t:=by
  cases hd:E.P.underlying t with
  |none=>exact absurd hd hu
  |some d=>exact Ib2 hd
 obtain⟨ti,hi1,hi2⟩:=hti;generalize hsz:szT E.P t=k at *
 have hcell:∀j,j<k->w.cell? ⟨(ρ id).blk,c+j,none⟩=some (vs.getD (c+j) undef):=λj hj=>by
  have hlt:c+j<vs.size:=by omega
  simp[World.cell?,m2,hlt]
 have hrel:∀j,j<k->∀y,row[c+j]?=some y->XC ρ H F w y (vs.getD (c+j) undef):=λj hj y hy=>by
  have hlt:c+j<vs.size:=by omega
  exact (m4 (c+j) y _ hy (by simp[hlt])).2
 have hvals:∀(j:Nat) v,((List.range k).map λj=>vs.getD (c+j) undef)[j]?=some v->w.cell? (Addr.add ⟨(ρ id).blk,c,none⟩ j)=some v:=λj v hj=>by
  obtain⟨hj1,hj2⟩:=gb3 hj;rw[ga0 rfl];rw[<- hj2];exact hcell j hj1
 have hev:ac.eval (.tmp p)=.pointer (some ⟨(ρ id).blk,c,none⟩):=h5;cases hag:agT E.P t with
 |true =>
  rw[hag] at hz1;have hz1:some (b7.agg (o8 (qa1 H) (M7 (j8 row c) k)))=some z:=hz1;injection hz1 with hz1;subst hz1;have hlc:(Go.loadCells ⟨(ρ id).blk,c,none⟩ k).run E.P w=.ok ((List.range k).map λj=>vs.getD (c+j) undef).toArray w:=by
   have:=run_loadCells_list (P:=E.P) w ⟨(ρ id).blk,c,none⟩ ((List.range k).map λj=>vs.getD (c+j) undef) hvals
   simpa using this
  refine .value (x':=.agg ((List.range k).map λj=>vs.getD (c+j) undef).toArray) (w':=w) ?_ ⟨ρ,F,W',hC,λ_ _ h=>h,.w (.val (.agg _ _ ?_ λi y y' hy hy'=>?_))⟩
  ·simp[execOp,ho,hev,Instr.loadAt,Instr.sureAddr,loadVar,Gb7 hag,sizeOf,typeInfo,hi1,hi2,hlc]
  ·rw[o7,N5,L2];simp;omega
  ·rw[o7,N5,L2,Qeh] at hy;have hy':((List.range k).map λj=>vs.getD (c+j) undef)[i]?=some y':=by simpa using hy'
   obtain⟨hj1,hj2⟩:=gb3 hy';rw[Qes,if_pos hj1,List.getElem?_drop] at hy;cases hq:row[c+i]? with
   |none=>rw[hq] at hy;cases hy
   |some q =>
    rw[hq] at hy;injection hy with hy;subst hy;rw[<- hj2];exact Kf4 (hrel i hj1 q hq)
 |false =>
  rw[hag] at hz1;have hz1:(match M7 (j8 row c) k with | [x]=>some x | _=>none:Option b7)=some z:=hz1
  rw[N5,L2] at hz1;have hk1:k=1/\row[c]?=some z:=by
   have hl:((row.drop c).take k).length=k:=by simp;omega
   split at hz1
   ·rename_i y hy;injection hz1 with hz1;subst hz1;rw[hy] at hl;have hk:k=1:=by simpa using hl.symm
    refine⟨hk,?_⟩;have h0:((row.drop c).take k)[0]?=some y:=by rw[hy];rfl
    rw[Qes,if_pos (by omega),List.getElem?_drop] at h0
    simpa using h0
   ·cases hz1
  obtain⟨hk,hz⟩:=hk1;subst hk;have hc0:=hcell 0 (by omega)
  rw[Nat.add_zero] at hc0;refine .value (x':=vs.getD c undef) (w':=w) ?_ ⟨ρ,F,W',hC,λ_ _ h=>h,.c ?_⟩
  ·simp[execOp,ho,hev,Instr.loadAt,Instr.sureAddr,loadVar,nb1 hag hu,hc0]
  ·have:=hrel 0 (by omega) z (by rw[Nat.add_zero];exact hz)
   rwa [Nat.add_zero] at this
omit hJ in
theorem Kf5 {s : TypeId} {p f : Nat} {fs : Array Field} {fd : Field} (ho : o.op = .fieldAddr s (.tmp p) f) (hp : Nat.blt p n = true) (hs' : E.P.underlying s = some (.struct fs)) (hf : fs[f]? = some fd) (hz : szT E.P fd.type ≠ 0)
  (he:(gc5 E a H (.bfld fd.offset p)).run=some (x,H')):l7 E.P o ac w (ac9 E.P WB K J ρ0 H0 F0 w0 ρ H F w up ds x H'):=by
 have hyr:=Sb1 hv hn hG (.tmp p) hp;simp only[gc5] at he;cases hs:Pc4 0 H (d7 E a (.t p)) with
 |none=>rw[hs] at he;cases he
 |some q =>
 obtain⟨id,c,g,b⟩:=q;rw[hs] at he;have he':some (b7.ptr id 0 (c+fd.offset) g,H)=some (x,H'):=he;obtain⟨rfl,rfl⟩:x=b7.ptr id 0 (c+fd.offset) g/\H=H':=by injection he' with he';injection he' with e1 e2;exact⟨e1.symm,e2⟩
 obtain⟨h1,h2,h3,h4,h5⟩:=bd8 hs hyr;obtain⟨ti,hi,hi0,hi1⟩:=vd8 hz;have hev:ac.eval (.tmp p)=.pointer (some ⟨(ρ id).blk,c,none⟩):=h5;refine .value (x':=.pointer (some (Addr.add ⟨(ρ id).blk,c,none⟩ fd.offset))) (w':=w) (by simp[execOp,ho,hev,Instr.fieldAt,Instr.sureAddr,run_underlying hs',hf,fieldPlace,sizeOf,typeInfo,hi,hi1]) ⟨ρ,F,W',hC,λ_ _ h=>h,.c ?_⟩
 rw[ga0 rfl];exact .box id (c+fd.offset) g b h2 h3 h4
omit hJ in
theorem pf2 {p : Nat} (ho : o.op = .move (.tmp p) ∨ o.op = .assign (.tmp p)) (hp : Nat.blt p n = true)
  (he:(gc5 E a H (.bmv p)).run=some (x,H')):l7 E.P o ac w (ac9 E.P WB K J ρ0 H0 F0 w0 ρ H F w up ds x H'):=by
 have hyr:=Sb1 hv hn hG (.tmp p) hp;have he':some (d7 E a (.t p),H)=some (x,H'):=he;injection he' with he';injection he' with e1 e2;subst e1 e2;refine .value (x':=ac.eval (.tmp p)) (w':=w) (by rcases ho with ho | ho<;>simp[execOp,ho]) ⟨ρ,F,W',hC,λ_ _ h=>h,hyr⟩
theorem ff3 {t : TypeId} {p : Nat} {y : Operand} (ho : o.op = .store t (.tmp p) y) (hp : Nat.blt p n = true) (hy : ltO n y = true) (h0 : szT E.P t ≠ 0) (he : (gc5 E a H (.bstore (szT E.P t) p (j9 y))).run = some (x, H')) :
  l7 E.P o ac w (ac9 E.P WB K J ρ0 H0 F0 w0 ρ H F w up ds x H'):=by
 have hpr:=Sb1 hv hn hG (.tmp p) hp;have hyr:=Sb1 hv hn hG y hy;simp only[gc5] at he;cases hs:Pc4 0 H (d7 E a (.t p)) with
 |none=>rw[hs] at he;cases he
 |some q =>
 obtain⟨id,c,g,b⟩:=q;rw[hs] at he
 simp only at he
 obtain⟨h1,h2,h3,h4,h5⟩:=bd8 hs hpr;generalize hcs:G4 (d7 E a (j9 y))=cs at *
 cases hcc:(Nat.ble (c+szT E.P t) (len (o0 b.elems 0))&&Nat.beq (len cs) (szT E.P t)&&(mb9 (d7 E a (j9 y))&&Pc0 cf0 cs)) with
 |false=>rw[hcc] at he;cases he
 |true =>
 rw[hcc] at he;have he':some (b7.v (.tuple #[]),setAt H id { b with elems:=[da4 (o0 b.elems 0) c cs] })=some (x,H'):=he
 injection he' with he';injection he' with e1 e2;subst e1 e2
 simp only[Qeb,o3] at hcc;obtain⟨⟨hle,hlen⟩,hpo,hbo⟩:=hcc;have hle:=Qey hle;have hlen:=Qec hlen;rw[<- hcs] at hbo;obtain⟨k1,k2⟩:=we8 hyr hpo hbo;rw[hcs] at k1 k2;obtain⟨hWB,hnW,hnF,hlt,hcont⟩:=hC.srel.has id b h2 (Jb0 h4) h3
 rcases hcont with⟨_,row,vs,tt,m1,m2,m3,m4⟩|⟨t',K',El,fl,es,clk,m1,_⟩
 case inr=>exact (Ac5 h4 m1).elim
 have hrow:o0 b.elems 0=row:=by rw[m1];rfl
 rw[hrow] at hle ⊢;generalize hys:(ac.eval y).cells.toList=ys at *
 have hl2:ys.length=cs.length:=k1.symm;have hone:∀v∈ys,v.oneCell'=true:=λv hv'=>by
  obtain⟨j,hj,rfl⟩:=List.mem_iff_getElem.1 hv';have hj':j<cs.length:=by omega
  exact (k2 j _ _ (Qed hj') (Qed hj)).1
 have hfits:c+ys.length<=vs.size:=by omega
 have hstore:=run_storeCells_at (P:=E.P) (ρ id).blk c tt ys 0 vs w m2 (by simpa using hfits) hone
 simp only[Nat.add_zero] at hstore;obtain⟨ti,hi1,hi2⟩:=se7 h0;have hsz0:(ac.eval y).cells.size=ti.size:=by
  have:(ac.eval y).cells.toList.length=ys.length:=by rw[hys]
  rw[Array.length_toList] at this;omega
 have hev:ac.eval (.tmp p)=.pointer (some ⟨(ρ id).blk,c,none⟩):=h5;have hid:=(Qea.1 h2).1;rw[E2];refine .skip (w':=w.setRow (ρ id).blk (vs.toList.take c++ys++vs.toList.drop (c+ys.length)).toArray) ?_ ?_
 ·simp[execOp,ho,hev,Instr.storeAt,Instr.sureAddr,storeVar,sizeOf,typeInfo,hi1,hsz0,hys,hstore]
 ·have hheap:=setRow_heap w (ρ id).blk vs (vs.toList.take c++ys++vs.toList.drop (c+ys.length)).toArray tt (0,0) m2;have hsize:((vs.toList.take c++ys++vs.toList.drop (c+ys.length)).toArray).size=vs.size:=by simp;omega
  have hK:=λk (hk:K k)=>hC.kept k hk
  have hnK:∀k,K k->k≠(ρ id).blk:=λk hk e=>hC.far id b h2 (Jb0 h4) h3 (e ▸ hk)
  obtain⟨c1,c2⟩:=hC.change (w':=w.setRow (ρ id).blk (vs.toList.take c++ys++vs.toList.drop (c+ys.length)).toArray) (H':=H.set id { b with elems:=[da4 row c cs] }) (up':=up) (ρ id).blk hWB hnW hnF rfl rfl rfl (Qee _) (by simp[World.setRow]) (λj hj=>setRow_other w _ j _ hj)
   (λcc t' fr hcc=>by rw[m2] at hcc;cases hcc;exact⟨_,hheap,hsize⟩) (by simp)
   (λid' b' hb'=>by
    by_cases e:id=id'
    ·subst e;obtain rfl:b'=b:=Qef (hb'.symm.trans h2);exact⟨{ b' with elems:=[da4 row c cs] },by simp[hid],rfl,rfl,rfl,rfl,by rw[m1];simp,λhs0=>by rw[Jb0 h4] at hs0;cases hs0⟩
    ·exact⟨b',by rw[Qek e];exact hb',rfl,rfl,rfl,rfl,Qee _,λ_=>rfl⟩)
   (λid' b' hb' hs' hd' hne=>by
    have e:id≠id':=λe=>hne (by rw[e])
    rw[Qek e];exact hb')
   (λhx id' b' hb' hs' hd' hblk=>by
    have e:id=id':=Qev λhne=>by
     rw[Qek hne] at hb';exact hC.srel.apart id id' b b' h2 hb' (Jb0 h4) hs' h3 hd' hne hblk.symm
    subst e
    have:b'={ b with elems:=[da4 row c cs] }:=by simpa [hid] using hb'.symm
    subst this;have hfit:c+cs.length<=row.length:=by omega
    refine .inl ⟨h4,_,_,tt,rfl,hheap,by rw[qb9 hfit,hsize];exact m3,λj u u' hu hu'=>?_⟩
    rw[hc5 hfits] at hu'
    rcases Kc4 hfit hu with⟨g1,g2,g3⟩|⟨g1,g3⟩
    ·rw[if_pos (by omega)] at hu'
     obtain⟨q1,q2⟩:=k2 (j-c) u u' g3 hu';exact⟨q1,hx _ _ q2⟩
    ·rw[if_neg (by omega)] at hu'
     obtain⟨q1,q2⟩:=m4 j u u' g3 hu';exact⟨q1,hx _ _ q2⟩)
   (hJ up w _ (λk hk=>setRow_other w _ k _ (hnK k hk)) hC.jot)
   (λD _ hD e=>by rw[e,m2] at hD;cases hD)
  exact⟨ρ,F,W',c1,c2,.w (.ofv _)⟩
end
section
variable{P:Program}{w:World}
def pf7(P:Program)(w:World)(em:Bool)(m:Nat)(t:TypeId)(l:List (Nat×CK)):Prop :=
 ∀v:Value,(agT P t=true->v=.agg v.cells)->(agT P t=false->v.cells=#[v])->(∀p∈l,Ra9 v.cells p)->(Instr.checkKey em m t v).run P w=.ok () w
theorem pf7.step {em : Bool} {m : Nat} {t : TypeId} {l : List (Nat × CK)} (h : pf7 P w em m t l) (hf : If2 P w 0 t l ∨ True) (hu : P.underlying t ≠ none) (hone : agT P t = false → l ≠ [] ∧ ∀ p ∈ l, p.1 = 0) {xs : Array Value} {off : Nat} (hl : ∀ p ∈ l, p.1 < szT P t) (hx : ∀ p ∈ l.map fun p => (off + p.1, p.2), Ra9 xs p) :
  ∃a,(part t xs off).run P w=.ok a w/\(Instr.checkKey em m t a).run P w=.ok () w:=by
 have hx':∀p∈l,Ra9 xs (off+p.1,p.2):=λp hp=>hx _ (List.mem_map.2 ⟨p,hp,rfl⟩)
 obtain⟨a,a1,a2,a4,a3⟩:=yd5 (w:=w) hu hone hl hx';refine⟨a,a1,h a a2 a4 λp hp=>?_⟩
 have:=hx' p hp;unfold Ra9 at this ⊢;rw[a3 p hp];exact this
theorem he6(em:Bool):∀(d:Nat) (t:TypeId) (l:List (Nat×CK)),fa9 P d t=some l->∀m,d<=m->pf7 P w em m t l
 |0,_,_,h,_,_=>by cases h
 |d+1,t,l,h,0,hm=>by omega
 |d+1,t,l,h,m+1,hm=>by
  intro v hv1 hv2 hv3;unfold fa9 at h;cases hu:P.underlying t with
  |none=>simp[hu] at h
  |some u =>
  cases u with
  |int k =>
   simp only[hu] at h;injection h with h;subst h
   have hag:agT P t=false:=vd7 (by simp[hu]) (by simp[hu])
   obtain⟨n,e1⟩:=hv3 (0,.int k) (by simp)
   rw[hv2 hag] at e1;have e1':v=.int k n:=by simpa using e1
   subst e1';simp[Instr.checkKey,run_underlying hu]
  |bool =>
   simp only[hu] at h;injection h with h;subst h
   have hag:agT P t=false:=vd7 (by simp[hu]) (by simp[hu])
   obtain⟨n,e1⟩:=hv3 (0,.bool) (by simp)
   rw[hv2 hag] at e1;have e1':v=.bool n:=by simpa using e1
   subst e1';simp[Instr.checkKey,run_underlying hu]
  |struct fs =>
   simp only[hu] at h
   split at h
   ·cases h
   have hag:agT P t=true:=by simp[agT,hu]
   rw[hv1 hag];generalize v.cells=xs at *
   rw[Instr.checkKey];simp only[Sem.run_bind,run_underlying hu,Result.andThen_ok];rw[<- Array.forIn_toList]
   clear hu hv1 hv2 hag
   generalize fs.toList=fl at *
   induction fl generalizing l with
   |nil=>simp
   |cons f fl ih =>
    simp only[Qeaa,xa7] at h
    split at h
    ·rename_i l1 l2 e1 e2;injection h with h;subst h
     split at e1
     ·cases e1
     rename_i hnm;obtain⟨l',g1,g2,g3⟩:=db8 e1;subst g3;have hfl:=Rb7 (w:=w) d f.type l' g1;obtain⟨a,p1,p2⟩:=(he6 em d f.type l' g1 m (by omega)).step (w:=w) (.inr trivial) hfl.und hfl.one g2 (λp hp=>hv3 p (List.mem_append_left _ hp))
     simp only[List.forIn_cons,Sem.run_bind,hnm,ne_eq,not_false_eq_true,if_true,Result.andThen_ok,p1,p2,Sem.run_pure];exact ih l2 (λp hp=>hv3 p (Qez _ hp)) e2
    ·cases h
  |array n e =>
   simp only[hu] at h
   split at h
   case isFalse=>cases h
   rename_i hi;obtain⟨ti,hi⟩:=Option.isSome_iff_exists.1 hi;have hag:agT P t=true:=by simp[agT,hu]
   rw[hv1 hag];generalize v.cells=xs at *
   rw[Instr.checkKey];simp only[Sem.run_bind,run_underlying hu,Result.andThen_ok];simp only[Std.Legacy.Range.forIn_eq_forIn_range',Std.Legacy.Range.size,Nat.sub_zero,Nat.add_one_sub_one,Nat.div_one];rw[List.range_eq_range'] at h;have hsz:∀w:World,(sizeOf e).run P w=.ok (szT P e) w:=λw=>by simp[sizeOf,typeInfo,hi,szT]
   clear hu hv1 hv2 hag
   generalize List.range' 0 n=fl at *
   induction fl generalizing l with
   |nil=>simp
   |cons f fl ih =>
    simp only[Qeaa,xa7] at h
    split at h
    ·rename_i l1 l2 e1 e2;injection h with h;subst h
     obtain⟨l',g1,g2,g3⟩:=db8 e1;subst g3;have hfl:=Rb7 (w:=w) d e l' g1;obtain⟨a,p1,p2⟩:=(he6 em d e l' g1 m (by omega)).step (w:=w) (.inr trivial) hfl.und hfl.one g2 (λp hp=>hv3 p (List.mem_append_left _ hp))
     simp only[List.forIn_cons,Sem.run_bind,hsz,Result.andThen_ok,p1,p2,Sem.run_pure];exact ih l2 (λp hp=>hv3 p (Qez _ hp)) e2
    ·cases h
  |_=>simp[hu] at h
theorem Ne0 {fl : List (Nat × CK)} (hk : ∀ p ∈ fl, (∃ i, p.2 = .int i) ∨ p.2 = .bool) {vs us : Array Value} (h1 : ∀ p ∈ fl, Ra9 vs p) (h2 : ∀ p ∈ fl, Ra9 us p) {cs ds : List b7} (hc : ∀ (i : Nat) v, vs[i]? = some v → hdA (j8 cs i) = .v v) (hd : ∀ (i : Nat) v, us[i]? = some v → hdA (j8 ds i) = .v v) :
  fl.all (yb4 vs us)=Pb8 fl cs ds:=by
 induction fl with
 |nil=>rfl
 |cons p fl ih =>
  have e:Pb8 (p::fl) cs ds=(bg2 p.2 (hdA (j8 cs p.1)) (hdA (j8 ds p.1))&&Pb8 fl cs ds):=rfl;rw[List.all_cons,ih (λq hq=>hk q (by simp[hq])) (λq hq=>h1 q (by simp[hq])) (λq hq=>h2 q (by simp[hq])),e]
  congr 1;have g1:=h1 p (by simp)
  have g2:=h2 p (by simp)
  obtain⟨n,kk⟩:=p;unfold Ra9 at g1 g2;unfold yb4
  rcases hk (n,kk) (by simp) with⟨i,hi⟩|hi
  ·simp only at hi;subst hi
   obtain⟨m,hm⟩:=g1;obtain⟨m',hm'⟩:=g2
   simp only at hm hm' ⊢
   rw[hc n _ hm,hd n _ hm',hm,hm'];rfl
  ·simp only at hi;subst hi
   obtain⟨m,hm⟩:=g1;obtain⟨m',hm'⟩:=g2
   simp only at hm hm' ⊢
   rw[hc n _ hm,hd n _ hm',hm,hm'];rfl
theorem pf8{ks:Array Value}{r:List b7}(i:Nat)(v:Value)(h:ks[i]?=some v):hdA (j8 (ks.toList.map .v++r) i)=.v v:=by
 rw[Qc3];have hlt:=(Qej.1 h).1;rw[Qeg (by simpa using hlt),Qeh]
 simp[h]
theorem dg7{ks:Array Value}(i:Nat)(v:Value)(h:ks[i]?=some v):hdA (j8 (ks.toList.map .v) i)=.v v:=by
 have:=pf8 (r:=[]) i v h
 rwa [List.append_nil] at this
section
variable{K:TypeId}{fl:List (Nat×CK)}{kl:Nat}(hag:agT P K=true)(hf:fa9 P 9 K=some fl)
include hag hf
theorem dg8{ks us:Array Value}(h1:∀p∈fl,Ra9 ks p)(h2:∀p∈fl,Ra9 us p):(Op.equal K (.agg ks) (.agg us)).run P w=.ok (fl.all (yb4 ks us)) w :=
 (Rb7 (w:=w) (9+9991) K fl (Kc7 hf 9991)).eq (.agg ks) (.agg us) (λ_=>rfl) (λ_=>rfl) (λh=>by rw[hag] at h;cases h) (λh=>by rw[hag] at h;cases h) h1 h2
theorem we9 {ks : Array Value} (h1 : ∀ p ∈ fl, Ra9 ks p) : ∀ (es : List MapEntry) (rows : List (List b7)) (i : Nat), es.length = rows.length → (∀ (j : Nat) r e, rows[j]? = some r → es[j]? = some e → Bd8 fl kl r e) →
  ((Instr.findAsking K (.agg ks) es i).run P w=.ok none w/\Fc0 fl (ks.toList.map .v) rows=none/\∀new,aa3 fl (ks.toList.map .v) new rows=rows++[new]) \/
  (∃j e r,(Instr.findAsking K (.agg ks) es i).run P w=.ok (some (i+j,e.val)) w/\es[j]?=some e/\rows[j]?=some r/\Fc0 fl (ks.toList.map .v) rows=some r/\(∀new,aa3 fl (ks.toList.map .v) new rows=rows.set j new)/\∃us,e.key=.agg us/\fl.all (yb4 ks us)=true)
 |[],[],i,_,_=>.inl ⟨by simp[Instr.findAsking],rfl,λnew=>rfl⟩
 |[],r::rows,i,hl,_=>by simp at hl
 |e::es,[],i,hl,_=>by simp at hl
 |e::es,r::rows,i,hl,hr=>by
  obtain⟨us,v,g1,g2,g3,g4,g5⟩:=hr 0 r e rfl rfl;have hk:=Ib4 9 K fl hf;have he:=dg8 (w:=w) hag hf h1 g5;have hq:fl.all (yb4 ks us)=Pb8 fl (ks.toList.map .v) r:=by
   rw[g1];exact Ne0 hk h1 g5 dg7 pf8
  have eR:Fc0 fl (ks.toList.map .v) (r::rows)=Bool.rec (motive:=λ_=>Option (List b7)) (Fc0 fl (ks.toList.map .v) rows) (some r) (Pb8 fl (ks.toList.map .v) r):=rfl
  have eU:∀new,aa3 fl (ks.toList.map .v) new (r::rows)=Bool.rec (motive:=λ_=>List (List b7)) (r::aa3 fl (ks.toList.map .v) new rows) (new::rows) (Pb8 fl (ks.toList.map .v) r):=λ_=>rfl
  cases hb:fl.all (yb4 ks us) with
  |true =>
   rw[hb] at he;rw[hb] at hq;refine .inr ⟨0,e,r,by simp[Instr.findAsking,g3,he],rfl,rfl,by rw[eR,<- hq],λnew=>by rw[eU,<- hq];rfl,us,g3,hb⟩
  |false =>
   rw[hb] at he;rw[hb] at hq
   rcases we9 h1 es rows (i+1) (by simpa using hl) (λj r' e' hj hj'=>hr (j+1) r' e' (by simpa using hj) (by simpa using hj')) with⟨k1,k2,k3⟩|⟨j,e',r',k1,k2,k3,k4,k5,k6⟩
   ·refine .inl ⟨by simp[Instr.findAsking,g3,he,k1],by rw[eR,<- hq];exact k2,λnew=>by rw[eU,<- hq];show r::aa3 _ _ _ _=_;rw[k3 new];rfl⟩
   ·refine .inr ⟨j+1,e',r',by simp[Instr.findAsking,g3,he,k1,Nat.add_assoc,Nat.add_comm 1 j],by simpa using k2,by simpa using k3,by rw[eR,<- hq];exact k4,λnew=>by rw[eU,<- hq];show r::aa3 _ _ _ _=_;rw[k5 new];rfl,k6⟩
end
end
def tc3(fl:List (Nat×CK))(kl:Nat):Bool:=(List.range kl).all λi=>fl.any λp=>Nat.beq p.1 i
def pf9(P:Program)(t:TypeId):Bool:=match P.info? t with
 |some i=>match i.zero with
  |some (.bool b)=>!b
  |_=>false
 |none=>false
theorem Zd3{fl:List (Nat×CK)}{kl i:Nat}(h:tc3 fl kl=true)(hi:i<kl):∃p∈fl,p.1=i:=by
 unfold tc3 at h;rw[Qeo] at h
 have:=h i (List.mem_range.2 hi)
 rw[List.any_eq_true] at this;obtain⟨p,h1,h2⟩:=this;exact⟨p,h1,Qec h2⟩
section
variable{WB K:Nat->Prop}{J:List Value->World->Prop}{ρ ρ0:Rho}{H H0 H':List b8}{F F0:Fz}{w w0 w':World}{W':Nat->Prop}{up:List Value}{E:Env}{a:List b7}{ac:Act}{x:b7}{o:Oper}
theorem ff4{x x':Value}(h:XW ρ H F w (.v x) x'):x'=x:=by
 cases h with
 |w h=>exact ia0 h
 |c h=>cases h with
  |n h=>exact ia0 (.val (.cell h))
theorem qf0 {fl : List (Nat × CK)} {kl : Nat} {ks : List b7} {v : Value} (hcov : tc3 fl kl = true) (hk : ∀ p ∈ fl, (∃ i, p.2 = .int i) ∨ p.2 = .bool) (hx : XW ρ H F w (.agg ks) v) (hlen : ks.length = kl) (hok : Je1 fl ks = true) :
  ∃vs:Array Value,v=.agg vs/\ks=vs.toList.map .v/\vs.size=kl/\∀p∈fl,Ra9 vs p:=by
 have hx':E8 ρ (q7 H) F w (.agg ks) v:=by
  cases hx with
  |w h=>exact h
  |c h=>cases h with
   |n h=>exact .val (.cell h)
 obtain⟨vs,rfl,hl,hr⟩:=La6 hx';have h1:=yd7 hok;have k1:∀p∈fl,Ra9 vs p:=λp hp=>(rc5 hl hr (hk p hp) (h1 p hp)).1
 refine⟨vs,rfl,List.ext_getElem (by simpa using hl) λi hi hi'=>?_,by rw[<- hl];exact hlen,k1⟩
 obtain⟨p,hp,rfl⟩:=Zd3 hcov (hlen ▸ hi);have h2:=h1 p hp;rw[Qc3,Qed hi] at h2;simp only[Option.getD_some] at h2;have hi2:p.1<vs.size:=hl ▸ hi;have hrel:=hr p.1 _ _ (Qed hi) (Qei hi2);have hv:∃u,ks[p.1]=.v u:=by
  rcases hk p hp with⟨q,e⟩|e<;>rw[e] at h2<;>revert h2<;>cases ks[p.1]<;>intro h2<;>first|exact⟨_,rfl⟩|cases h2
 obtain⟨u,hu⟩:=hv;rw[hu] at hrel ⊢
 have:=ia0 (.val (.cell hrel))
 simp[this]
theorem qf1(m:Nat)(k:IntKind)(a:Int):Instr.sameBits m (.int k a) (.int k a)=true:=by cases m<;>simp[Instr.sameBits]
theorem ff5(m:Nat)(a:Bool):Instr.sameBits m (.bool a) (.bool a)=true:=by cases m<;>simp[Instr.sameBits]
theorem ff6 {fl : List (Nat × CK)} {kl m : Nat} {ks us : Array Value} (hcov : tc3 fl kl = true) (hk : ∀ p ∈ fl, (∃ i, p.2 = .int i) ∨ p.2 = .bool) (h1 : ks.size = kl) (h2 : us.size = kl) (a1 : ∀ p ∈ fl, Ra9 ks p) (a2 : ∀ p ∈ fl, Ra9 us p) (he : fl.all (yb4 ks us) = true) :
  Instr.sameBits (m+1) (.agg us) (.agg ks)=true:=by
 rw[Instr.sameBits];rw[Qeb];refine⟨by simp[h1,h2],?_⟩
 rw[Qeo];intro q hq;obtain⟨i,hi,hq⟩:=List.mem_iff_getElem.1 hq;rw[List.getElem_zip] at hq;have hi':i<kl:=by rw[List.length_zip,Array.length_toList,Array.length_toList] at hi;omega
 obtain⟨p,hp,rfl⟩:=Zd3 hcov hi';have e:=Qeo.1 he p hp;have b1:=a1 p hp;have b2:=a2 p hp;have g1:ks[p.1]?=some (ks[p.1]'(by omega)):=Qei _
 have g2:us[p.1]?=some (us[p.1]'(by omega)):=Qei _
 rw[<- hq];simp only[Array.getElem_toList];unfold Ra9 at b1 b2;unfold yb4 at e
 rcases hk p hp with⟨k,hkk⟩|hkk
 ·rw[hkk] at b1 b2;obtain⟨n,b1⟩:=b1;obtain⟨n',b2⟩:=b2;rw[b1,b2] at e;have e:n=n':=by simpa using e
  subst e;rw[g1] at b1;rw[g2] at b2;rw[Qef b1,Qef b2];exact qf1 _ _ _
 ·rw[hkk] at b1 b2;obtain⟨n,b1⟩:=b1;obtain⟨n',b2⟩:=b2;rw[b1,b2] at e;have e:n=n':=by simpa using e
  subst e;rw[g1] at b1;rw[g2] at b2;rw[Qef b1,Qef b2];exact ff5 _ _
theorem tc4{k:Nat}{es:Array MapEntry}{clk:Nat}(P:Program)(h:w.heap[k]?=some (.map es clk)):(getObj k).run P w=.ok (.map es clk) w:=by simp[getObj,Sem.run,h]
theorem tc5{k:Nat}{es:Array MapEntry}{clk:Nat}(P:Program)(o:Obj)(h:w.heap[k]?=some (.map es clk)):(setObj k o).run P w=.ok () (w.putObj k o):=by simp[setObj,Sem.run,h,World.putObj]
theorem md0 {P : Program} {t : TypeId} {fl : List (Nat × CK)} {kl : Nat} (hag : agT P t = true) (hf : fa9 P 9 t = some fl) {ks : Array Value} (h1 : ∀ p ∈ fl, Ra9 ks p) (es : List MapEntry) (rows : List (List b7)) (hl : es.length = rows.length) (hr : ∀ (j : Nat) r e, rows[j]? = some r → es[j]? = some e → Bd8 fl kl r e) :
  ((Instr.findKey t (.agg ks) es).run P w=.ok none w/\Fc0 fl (ks.toList.map .v) rows=none/\∀new,aa3 fl (ks.toList.map .v) new rows=rows++[new]) \/
  (∃j e r,(Instr.findKey t (.agg ks) es).run P w=.ok (some (j,e.val)) w/\es[j]?=some e/\rows[j]?=some r/\Fc0 fl (ks.toList.map .v) rows=some r/\(∀new,aa3 fl (ks.toList.map .v) new rows=rows.set j new)/\∃us,e.key=.agg us/\fl.all (yb4 ks us)=true):=by
 have hu:∃d,P.underlying t=some d/\∀e es i,Instr.findNow d (.agg ks) (e::es) i=none:=by
  unfold agT at hag
  split at hag
  ·rename_i fs h;exact⟨_,h,λe es i=>rfl⟩
  ·rename_i n e h;exact⟨_,h,λe es i=>rfl⟩
  ·cases hag
 obtain⟨d,hd,hnow⟩:=hu
 have:=we9 (w:=w) (kl:=kl) hag hf h1 es rows 0 hl hr
 have e0:(Instr.findKey t (.agg ks) es).run P w=(Instr.findAsking t (.agg ks) es 0).run P w:=by
  unfold Instr.findKey;simp only[Sem.run_bind,run_underlying hd,Result.andThen_ok];cases es with
  |nil=>simp[Instr.findNow,Instr.findAsking]
  |cons e es=>rw[hnow]
 rw[e0];simpa using this
section
variable{ds:List Deferred}{n:Nat}(hC:C2 E.P WB K J ρ0 H0 F0 w0 H ds w ρ F W' up)(hJ:Lc6 K J)
include hC hJ
theorem qf2 {t : TypeId} {kt el : TypeId} {fl : List (Nat × CK)} (ho : o.op = .makeMap t none) (hu : E.P.underlying t = some (.map kt el)) (hf : fa9 E.P 9 kt = some fl) (he : (gc5 E a H (.mmake t)).run = some (x, H')) :
  l7 E.P o ac w (ac9 E.P WB K J ρ0 H0 F0 w0 ρ H F w up ds x H'):=by
 have he':some (b7.ptr (len H) 0 0 0,Pc5 H (t+1) [])=some (x,H'):=he;injection he' with he';injection he' with e1 e2;subst e1 e2
 rw[o3];obtain⟨c1,c2,c3,c4⟩:=hC.alloc hJ (.map #[] 0);have hap:∀(id:Nat) b,H[id]?=some b->G5 b=true->b.dead=false->(ρ id).blk≠w.heap.size:=λid b hb hs hd=>Qew (hC.srel.has id b hb hs hd).2.2.2.1
 rw[we7];have hnew:(w.alloc (.map #[] 0)).heap[w.heap.size]?=some (.map #[] 0):=World.alloc_heap_new w _;refine .value (x':=.map (some w.heap.size)) (w':=w.alloc (.map #[] 0)) (by simp[execOp,ho,Instr.makeMap,run_newObj_alloc]) ?_
 obtain⟨d1,d2⟩:=c1.adopt w.heap.size 0 c3 (λh=>h.2 rfl) (λo hf=>c4 o hf) (by simp) hap (λhk=>Nat.lt_irrefl _ (hC.kept _ hk).2) { et:=t+1,es:=0,elems:=[],own:=true,dead:=false,g:=0 } (Jb1 (t:=t) ⟨rfl,rfl⟩) rfl
  (.inr ⟨t,kt,el,fl,#[],0,⟨rfl,rfl⟩,hu,hf,hnew,rfl,λi r e hr=>by simp at hr⟩)
 refine⟨_,F,_,d1,λx x' hx=>d2 _ _ (c2 _ _ hx),.c ?_⟩
 have hρn:(ρnew ρ H ⟨w.heap.size,0,0⟩ H.length).blk=w.heap.size:=by simp[ρnew]
 have:=XC.map (ρ:=ρnew ρ H ⟨w.heap.size,0,0⟩) (F:=F) (w:=w.alloc (.map #[] 0)) H.length 0 0 { et:=t+1,es:=0,elems:=[],own:=true,dead:=false,g:=0 } t (H:=H++[{ et:=t+1,es:=0,elems:=[],own:=true,dead:=false,g:=0 }]) (by simp) rfl ⟨rfl,rfl⟩
 rwa [hρn] at this
variable(hv:VR ρ H F w a (ac.tmps.toList++up))(hn:ac.tmps.size=n)(hG:GOk E F w)
include hv hn hG
omit hJ in
theorem qf3 {t : TypeId} {kt el : TypeId} {fl : List (Nat × CK)} {m : Nat} {y : Operand} (ho : o.op = .lookup t (.tmp m) y false) (hm : Nat.blt m n = true) (hy : ltO n y = true) (hu : E.P.underlying t = some (.map kt el)) (hag : agT E.P kt = true) (hf : fa9 E.P 9 kt = some fl) (hcov : tc3 fl (szT E.P kt) = true) (hz : pf9 E.P el = true)
  (he:(gc5 E a H (.mlook t (szT E.P kt) fl m (j9 y))).run=some (x,H')) :
  l7 E.P o ac w (ac9 E.P WB K J ρ0 H0 F0 w0 ρ H F w up ds x H'):=by
 have hmr:=Sb1 hv hn hG (.tmp m) hm;have hyr:=Sb1 hv hn hG y hy;have hev:(ac.eval (.tmp m))=ac.tmps.getD m undef:=rfl;simp only[gc5] at he;have hcA:j9 (.tmp m)=.t m:=rfl;rw[hcA] at hmr;cases hs:Pc4 (t+1) H (d7 E a (.t m)) with
 |none=>rw[hs] at he;cases he
 |some q =>
 obtain⟨id,c,g,b⟩:=q;rw[hs] at he
 simp only at he
 obtain⟨h1,h2,h3,h4,h5⟩:=Zd2 hs hmr
 revert he hyr
 generalize d7 E a (j9 y)=ya;intro hyr he
 split at he
 case h_2=>cases he
 ·rename_i ks;obtain⟨hgd,he⟩:=DT.run_guard_some he;have he:some (b7.v (.bool (La5 (szT E.P kt) fl ks b.elems)),H)=some (x,H'):=he;rw[Qeb,o3] at hgd;obtain⟨vs,e1,e2,e3,e4⟩:=qf0 hcov (Ib4 9 kt fl hf) hyr (Qec hgd.1) hgd.2;obtain⟨rfl,rfl⟩:x=b7.v (.bool (La5 (szT E.P kt) fl ks b.elems))/\H=H':=by injection he with he;injection he with e1 e2;exact⟨e1.symm,e2⟩
  subst e2;obtain⟨_,_,_,_,hcont⟩:=hC.srel.has id b h2 (Jb1 h4) h3
  rcases hcont with⟨hb,_⟩|⟨t',K',El,fl',es,clk,m1,m2,m3,m4,m5,m6⟩
  ·exact (Ac5 hb h4).elim
  have ht:t'=t:=Nat.succ.inj (m1.2.symm.trans h4.2);subst ht;rw[hu] at m2;injection m2 with m2;injection m2 with q1 q2;subst q1 q2
  rw[hf] at m3;injection m3 with m3;subst m3
  have hlen:es.toList.length=b.elems.length:=by rw[Array.length_toList];exact m5.symm
  have hrow:∀(j:Nat) r e,b.elems[j]?=some r->es.toList[j]?=some e->Bd8 fl (szT E.P kt) r e:=λj r e hr he=>m6 j r e hr (by simpa using he)
  have hfind:=md0 (w:=w) (kl:=szT E.P kt) hag hf e4 es.toList b.elems hlen hrow;have hck:(Instr.checkKey es.isEmpty 10000 kt (.agg vs)).run E.P w=.ok () w:=he6 es.isEmpty 9 kt fl hf 10000 (by decide) (.agg vs) (λ_=>rfl) (λh=>by rw[hag] at h;cases h) e4
  have hgo:(getObj (ρ id).blk).run E.P w=.ok (.map es clk) w:=tc4 E.P m4
  rcases hfind with⟨k1,k2,_⟩|⟨j,e,r,k1,k2,k3,k4,_,_⟩
  ·have hz' : (zeroValue el).run E.P w = .ok (.bool false) w := by
    unfold pf9 at hz
    split at hz
    ·rename_i i hi
     split at hz
     ·rename_i bb hbb;cases bb with
      |true=>cases hz
      |false=>simp[zeroValue,typeInfo,hi,hbb]
     ·cases hz
    ·cases hz
   refine .value (x':=.bool false) (w':=w) ?_ ⟨ρ,F,W',hC,λ_ _ h=>h,?_⟩
   ·simp[execOp,ho,Instr.lookup,run_underlying hu,h5,e1,hgo,hck,k1,hz']
   ·unfold La5;rw[k2];exact .w (.val (.cell (.v _)))
  ·obtain⟨us,bb,g1,g2,g3,g4,g5⟩:=hrow j r e k3 k2;refine .value (x':=.bool bb) (w':=w) ?_ ⟨ρ,F,W',hC,λ_ _ h=>h,?_⟩
   ·simp[execOp,ho,Instr.lookup,run_underlying hu,h5,e1,hgo,hck,k1,g4]
   ·unfold La5;rw[k4]
    have:toB (hdA (j8 r (szT E.P kt)))=bb:=by
     rw[Qc3,g1,<- g2];rw[Qeu (by simp)]
     simp[toB]
    show XW ρ H F w (.v (.bool (toB (hdA (j8 r (szT E.P kt)))))) _;rw[this];exact .w (.val (.cell (.v _)))
theorem Kf6 {t : TypeId} {kt el : TypeId} {fl : List (Nat × CK)} {m : Nat} {y z : Operand} (ho : o.op = .mapUpdate t (.tmp m) y z) (hm : Nat.blt m n = true) (hy : ltO n y = true) (hz : ltO n z = true) (hu : E.P.underlying t = some (.map kt el)) (hag : agT E.P kt = true) (hf : fa9 E.P 9 kt = some fl) (hcov : tc3 fl (szT E.P kt) = true)
  (he:(gc5 E a H (.mupd t (szT E.P kt) fl m (j9 y) (j9 z))).run=some (x,H')) :
  l7 E.P o ac w (ac9 E.P WB K J ρ0 H0 F0 w0 ρ H F w up ds x H'):=by
 have hmr:=Sb1 hv hn hG (.tmp m) hm;have hyr:=Sb1 hv hn hG y hy;have hzr:=Sb1 hv hn hG z hz;simp only[gc5] at he;have hcA:j9 (.tmp m)=.t m:=rfl;rw[hcA] at hmr;cases hs:Pc4 (t+1) H (d7 E a (.t m)) with
 |none=>rw[hs] at he;cases he
 |some q =>
 obtain⟨id,c,g,b⟩:=q;rw[hs] at he
 simp only at he
 obtain⟨h1,h2,h3,h4,h5⟩:=Zd2 hs hmr
 revert he hyr hzr
 generalize d7 E a (j9 y)=ya;generalize d7 E a (j9 z)=za;intro hyr hzr he
 split at he
 case h_2=>cases he
 rename_i ks bv;obtain⟨hgd,he⟩:=DT.run_guard_some he;have he:some (b7.v (.tuple #[]),setAt H id { b with elems:=aa3 fl ks (app ks [.v (.bool bv)]) b.elems })=some (x,H'):=he
 rw[Qeb,o3] at hgd;have hkinds:=Ib4 9 kt fl hf;obtain⟨vs,e1,e2,e3,e4⟩:=qf0 hcov hkinds hyr (Qec hgd.1) hgd.2;have e5:=ff4 hzr;injection he with he;injection he with q1 q2
 subst q1 q2 e2;obtain⟨hWB,hnW,hnF,hlt,hcont⟩:=hC.srel.has id b h2 (Jb1 h4) h3
 rcases hcont with⟨hb,_⟩|⟨t',K',El,fl',es,clk,m1,m2,m3,m4,m5,m6⟩
 ·exact (Ac5 hb h4).elim
 have ht:t'=t:=Nat.succ.inj (m1.2.symm.trans h4.2);subst ht;rw[hu] at m2;injection m2 with m2;injection m2 with q1 q2;subst q1 q2
 rw[hf] at m3;injection m3 with m3;subst m3
 have hlen:es.toList.length=b.elems.length:=by rw[Array.length_toList];exact m5.symm
 have hrow:∀(j:Nat) r e,b.elems[j]?=some r->es.toList[j]?=some e->Bd8 fl (szT E.P kt) r e:=λj r e hr he=>m6 j r e hr (by simpa using he)
 have hfind:=md0 (w:=w) (kl:=szT E.P kt) hag hf e4 es.toList b.elems hlen hrow;have hck:(Instr.checkKey false 10000 kt (.agg vs)).run E.P w=.ok () w:=he6 false 9 kt fl hf 10000 (by decide) (.agg vs) (λ_=>rfl) (λh=>by rw[hag] at h;cases h) e4
 have hgo:(getObj (ρ id).blk).run E.P w=.ok (.map es clk) w:=tc4 E.P m4;have hnK:∀k,K k->k≠(ρ id).blk:=λk hk e=>hC.far id b h2 (Jb1 h4) h3 (e ▸ hk)
 have hid:=(Qea.1 h2).1;have hnewrow:∀us:MapEntry,Bd8 fl (szT E.P kt) (app (vs.toList.map .v) [.v (.bool bv)]) { us with key:=.agg vs,val:=.bool bv }:=λus=>⟨vs,bv,by rw[J0],e3,rfl,rfl,e4⟩
 have hfin : ∀ (es' : Array MapEntry) (clk' : Nat), (aa3 fl (vs.toList.map .v) (app (vs.toList.map .v) [.v (.bool bv)]) b.elems).length = es'.size → b.elems.length ≤ es'.size → (∀ (i : Nat) r e, (aa3 fl (vs.toList.map .v) (app (vs.toList.map .v) [.v (.bool bv)]) b.elems)[i]? = some r → es'[i]? = some e → Bd8 fl (szT E.P kt) r e) →
   ac9 E.P WB K J ρ0 H0 F0 w0 ρ H F w up ds (.v (.tuple #[])) (H.set id { b with elems:=aa3 fl (vs.toList.map .v) (app (vs.toList.map .v) [.v (.bool bv)]) b.elems }) (.tuple #[]) (w.putObj (ρ id).blk (.map es' clk')):=λes' clk' hl1 hl2 hrows=>by
  obtain⟨c1,c2⟩:=hC.change (w':=w.putObj (ρ id).blk (.map es' clk')) (H':=H.set id { b with elems:=aa3 fl (vs.toList.map .v) (app (vs.toList.map .v) [.v (.bool bv)]) b.elems }) (up':=up) (ρ id).blk hWB hnW hnF rfl rfl rfl (Qee _) (by simp) (λj hj=>World.putObj_heap_other hj)
   (λcc t' fr hcc=>by rw[m4] at hcc;cases hcc) (by simp)
   (λid' b' hb'=>by
    by_cases e:id=id'
    ·subst e;obtain rfl:b'=b:=Qef (hb'.symm.trans h2);exact⟨{ b' with elems:=aa3 fl (vs.toList.map .v) (app (vs.toList.map .v) [.v (.bool bv)]) b'.elems },by simp[hid],rfl,rfl,rfl,rfl,by simp only;rw[hl1];exact hl2,λhs0=>by rw[Jb1 h4] at hs0;cases hs0⟩
    ·exact⟨b',by rw[Qek e];exact hb',rfl,rfl,rfl,rfl,Qee _,λ_=>rfl⟩)
   (λid' b' hb' hs' hd' hne=>by
    have e:id≠id':=λe=>hne (by rw[e])
    rw[Qek e];exact hb')
   (λhx id' b' hb' hs' hd' hblk=>by
    have e:id=id':=Qev λhne=>by
     rw[Qek hne] at hb';exact hC.srel.apart id id' b b' h2 hb' (Jb1 h4) hs' h3 hd' hne hblk.symm
    subst e
    have:b'={ b with elems:=aa3 fl (vs.toList.map .v) (app (vs.toList.map .v) [.v (.bool bv)]) b.elems }:=by simpa [hid] using hb'.symm
    subst this;exact .inr ⟨t',kt,el,fl,es',clk',h4,hu,hf,World.putObj_heap_same hlt,hl1,hrows⟩)
   (hJ up w _ (λk hk=>World.putObj_heap_other (hnK k hk)) hC.jot)
   (λD _ hD e=>by rw[e,m4] at hD;cases hD)
  exact⟨ρ,F,W',c1,c2,.w (.ofv _)⟩
 rw[E2]
 rcases hfind with⟨k1,_,k3⟩|⟨j,e,r,k1,k2,k3,k4,k5,us,k6,k7⟩
 ·have hso:=tc5 E.P (.map (es.push { key:=.agg vs,val:=.bool bv,born:=clk }) (clk+1)) m4;refine .skip (w':=w.putObj (ρ id).blk (.map (es.push { key:=.agg vs,val:=.bool bv,born:=clk }) (clk+1))) ?_ (hfin _ _ ?_ ?_ ?_)
  ·simp[execOp,ho,Instr.mapUpdate,run_underlying hu,h5,e1,e5,hgo,hck,k1,hso]
  ·rw[k3];simp[m5]
  ·simp[m5]
  ·intro i r e hr he;rw[k3] at hr;by_cases hi:i<b.elems.length
   ·rw[Qeg hi] at hr;rw[Qem,if_neg (by omega)] at he
    exact m6 i r e hr he
   ·rw[Qeu (by omega)] at hr
    have hi0:i-b.elems.length=0:=by
     rcases Nat.eq_zero_or_pos (i-b.elems.length) with h|h
     ·exact h
     ·rw[Qep (by simp;omega)] at hr;cases hr
    rw[hi0] at hr;rw[Qem,if_pos (by omega)] at he
    simp at hr he
    subst hr he;exact hnewrow { key:=.agg vs,val:=.bool bv,born:=clk }
 ·have k2':es[j]?=some e:=by simpa using k2
  obtain⟨us',bb,g1,g2,g3,g4,g5⟩:=hrow j r e k3 k2;rw[k6] at g3;injection g3 with g3;subst g3;have hsame:Instr.sameBits 10000 (.agg us) (.agg vs)=true:=ff6 (m:=9999) hcov hkinds e3 g2 e4 g5 k7;have hso:=tc5 E.P (.map (es.modify j λe=>{ e with key:=.agg vs,val:=.bool bv }) clk) m4
  refine .skip (w':=w.putObj (ρ id).blk (.map (es.modify j λe=>{ e with key:=.agg vs,val:=.bool bv }) clk)) ?_ (hfin _ _ ?_ ?_ ?_)
  ·simp[execOp,ho,Instr.mapUpdate,run_underlying hu,h5,e1,e5,hgo,hck,k1,k2',k6,Instr.keyThatStays,hsame,hso]
  ·rw[k5];simp[m5]
  ·simp[m5]
  ·intro i r' e' hr he;rw[k5] at hr;rw[Array.getElem?_modify] at he;by_cases hi:j=i
   ·subst hi;rw[if_pos rfl,k2'] at he;have hj:=(Qea.1 k3).1;rw[List.getElem?_set_self hj] at hr
    simp at hr he
    subst hr he;exact hnewrow e
   ·rw[if_neg hi] at he;rw[Qek hi] at hr;exact m6 i r' e' hr he
end
end
def Ne1(pr:List Nat):Operand->Option Nat
 |.tmp p=>if pr.contains p then some p else none
 |_=>none
def qf4(pr:List Nat)(o:Oper):Bool:=match o.dst with
 |some d=>pr.contains d
 |none=>false
def mc9(b:Bool)(x:SP):SP:=match b with
 |true=>x
 |false=>.bad
structure ng0 where
 kt:TypeId
 el:TypeId
 fl:List (Nat×CK)
def qf5(P:Program)(t:TypeId):Option ng0:=match P.underlying t with
 |some (.map kt el)=>match fa9 P 9 kt with
  |some fl=>match agT P kt&&tc3 fl (szT P kt) with
   |true=>some ⟨kt,el,fl⟩
   |false=>none
  |none=>none
 |_=>none
def cSp(P:Program)(n:Nat)(pr:List Nat)(o:Oper):Option SP :=
 match o.op with
 |.alloc t=>match qf4 pr o with
  |true=>match zeT P t with
   |some z=>some (.balloc z)
   |none=>some .bad
  |false=>none
 |.box _ x=>match qf4 pr o with
  |true=>some (mc9 (ltO n x) (.bbox (j9 x)))
  |false=>none
 |.load t x=>match Ne1 pr x with
  |some p=>some (mc9 (Nat.blt p n&&(P.underlying t).isSome) (.bload (szT P t) (agT P t) p))
  |none=>none
 |.store t x y=>match Ne1 pr x with
  |some p=>some (mc9 (Nat.blt p n&&ltO n y&&!Nat.beq (szT P t) 0) (.bstore (szT P t) p (j9 y)))
  |none=>none
 |.fieldAddr s x f=>match Ne1 pr x with
  |some p=>match P.underlying s with
   |some (.struct fs)=>match fs[f]? with
    |some fd=>some (mc9 (Nat.blt p n&&!Nat.beq (szT P fd.type) 0) (.bfld fd.offset p))
    |none=>some .bad
   |_=>some .bad
  |none=>none
 |.move x=>match Ne1 pr x with
  |some p=>some (mc9 (Nat.blt p n) (.bmv p))
  |none=>none
 |.assign x=>match Ne1 pr x with
  |some p=>some (mc9 (Nat.blt p n) (.bmv p))
  |none=>none
 |.makeMap t none=>match qf5 P t with
  |some _=>some (.mmake t)
  |none=>some .bad
 |.lookup t (.tmp m) y false=>match qf5 P t with
  |some q=>some (mc9 (Nat.blt m n&&ltO n y&&pf9 P q.el) (.mlook t (szT P q.kt) q.fl m (j9 y)))
  |none=>some .bad
 |.mapUpdate t (.tmp m) y z=>match qf5 P t with
  |some q=>some (mc9 (Nat.blt m n&&ltO n y&&ltO n z) (.mupd t (szT P q.kt) q.fl m (j9 y) (j9 z)))
  |none=>some .bad
 |.call c=>match c.callee with
  |.builtin .append=>match qf4 pr o with
   |true=>match c.args.toList,c.argTypes.toList with
    |[s,x],[t,u]=>match P.underlying t with
     |some (.slice e)=>some (mc9 (Nat.blt 0 (szT P e)&&Nat.beq t u) (.old n (.apre (szT P e) (j9 s) (j9 x))))
     |_=>some .bad
    |_,_=>some .bad
   |false=>none
  |.builtin .clear=>match c.args.toList,c.argTypes.toList with
   |[x],[t]=>match P.underlying t with
    |some (.slice e)=>match zeT P e with
     |some z=>some (mc9 (Nat.blt 0 (szT P e)) (.old n (.clr (szT P e) z (j9 x))))
     |none=>some .bad
    |_=>some .bad
   |_,_=>some .bad
  |_=>none
 |_=>none
structure Rd where
 nOut:Nat
 ps:List Nat
 asq:PC
 body:PC
abbrev HL:=List (Nat×Option (Nat×Bool))
def qf6:Option (Nat×Bool)->Option (Nat×Bool)->Bool
 |none,_=>true
 |some (d,b),some (d',b')=>Nat.beq d d'&&(b==b')
 |some _,none=>false
def qf7(S:HL)(t:Nat)(g:Option (Nat×Bool)):Bool:=S.any λp=>Nat.beq p.1 t&&qf6 p.2 g
def Sc4(ops:Array Oper)(S:HL)(o:Oper):Option (List Operand):=match o.op with
 |.call c=>match c.callee with
  |.value (.tmp t)=>match da5 ops o with
   |some g=>if qf7 S t g then some c.args.toList else none
   |none=>none
  |_=>none
 |_=>none
def Cd1(ops:Array Oper)(S:HL)(o:Oper):Option (Nat×Option (Nat×Bool)):=match o.op,o.dst with
 |.move (.tmp t),some d=>match da5 ops o with
  |some g=>if qf7 S t g then some (d,g) else none
  |none=>none
 |_,_=>none
def gOk(n:Nat):Option (Nat×Bool)->Bool
 |none=>true
 |some (d,_)=>Nat.blt d n
def dOk(n:Nat):Option Nat->Bool
 |none=>true
 |some d=>Nat.blt d n
def rmL(S:HL)(dd:List Nat):HL:=S.filter λp=>!dd.contains p.1&&match p.2 with
 |none=>true
 |some (d,_)=>!dd.contains d
def rmD(S:HL):Option Nat->HL
 |none=>S
 |some d=>rmL S [d]
def Lc7(l:List Oper):List Nat:=l.filterMap (·.dst)
def bd9(p:Oper->Bool):List Oper->Nat
 |[]=>0
 |o::r=>match p o with
  |true=>bd9 p r+1
  |false=>0
def xe0(P:Program)(n:Nat)(pr:List Nat)(ops:Array Oper)(S:HL)(o:Oper):Bool:=(cSp P n pr o).isNone&&(Sc4 ops S o).isNone&&(Cd1 ops S o).isNone
def qf8(l r:HL):Bool:=l.all λp=>qf7 r p.1 p.2
def xe1(P:Program)(n:Nat)(pr:List Nat)(yl:Option Rd)(S0:HL)(ops:Array Oper):Nat->List Oper->HL->PC
 |0,_,_=>.bad
 |_+1,[],S=>match qf8 S0 S with
  |true=>.skip
  |false=>.bad
 |f+1,o::r,S=>match Sc4 ops S o with
  |some args=>match yl,da5 ops o with
   |some rd,some g=>match gOk n g&&dOk n o.dst&&args.all (ltO n)&&Nat.beq args.length rd.ps.length with
    |true=>.seq (.round o.dst g (args.map j9) n rd.nOut rd.ps rd.asq rd.body) (xe1 P n pr yl S0 ops f r (rmD S o.dst))
    |false=>.bad
   |_,_=>.bad
  |none=>match Cd1 ops S o with
   |some (d,g)=>match Nat.blt d n with
    |true=>.seq (.mask n [d] (.ops [⟨some d,none,[],.mv (.c .unk)⟩])) (xe1 P n pr yl S0 ops f r ((d,g)::rmL S [d]))
    |false=>.bad
   |none=>match cSp P n pr o with
    |some so=>match da5 ops o with
     |some g=>match gOk n g&&dOk n o.dst with
      |true=>.seq (.sp o.dst g so) (xe1 P n pr yl S0 ops f r (rmD S o.dst))
      |false=>.bad
     |none=>.bad
    |none=>match Cc9 P ops (o::r.take (bd9 (xe0 P n pr ops S) r)) with
     |some l=>.seq (.mask n (Lc7 (o::r.take (bd9 (xe0 P n pr ops S) r))) (.ops l)) (xe1 P n pr yl S0 ops f (r.drop (bd9 (xe0 P n pr ops S) r)) (rmL S (Lc7 (o::r.take (bd9 (xe0 P n pr ops S) r)))))
     |none=>.bad
def Ka6(P:Program)(n:Nat)(pr:List Nat)(yl:Option Rd)(S0:HL)(kp:Nat->List Nat)(rf:Operand->Array Tmp->Code->Code->PC)(cur:Nat):Code->PC
 |.skip=>.skip
 |.region _ ops d=>match d with
  |false=>xe1 P n pr yl S0 ops (ops.size+1) ops.toList S0
  |true=>match qf8 S0 (rmL S0 (Lc7 ops.toList)) with
   |true=>.mask n (Lc7 ops.toList) (Ib1 P ops)
   |false=>.bad
 |.seq a b=>.seq (Ka6 P n pr yl S0 kp rf cur a) (Ka6 P n pr yl S0 kp rf cur b)
 |.cond c x y=>match ltO n c with
  |true=>.cond (j9 c) (Ka6 P n pr yl S0 kp rf cur x) (Ka6 P n pr yl S0 kp rf cur y)
  |false=>.bad
 |.block id c=>.block id (Ka6 P n pr yl S0 kp rf id c)
 |.loop c=>.loopM (kp cur) (Ka6 P n pr yl S0 kp rf cur c)
 |.label _=>.skip
 |.exit id=>.exit id
 |.ret=>.ret
 |.rangeFunc g ps asq body=>rf g ps asq body
 |_=>.bad
structure pd3 where
 pr:List Nat
 kp:List (Nat×List Nat)
 fi:FuncId
 ki:List (Nat×List Nat)
def ff7(l:List (Nat×List Nat))(id:Nat):List Nat:=match l.find? λp=>Nat.beq p.1 id with
 |some p=>p.2
 |none=>[]
def Sc5(_:Operand)(_:Array Tmp)(_ _:Code):PC:=.bad
def ng1(P:Program)(h:pd3)(n:Nat)(ps:Array Tmp)(asq body:Code):Rd :=
 ⟨n,ps.toList,Ka6 P n h.pr none [] (ff7 h.kp) Sc5 0 asq,Ka6 P n h.pr none [] (ff7 h.kp) Sc5 0 body⟩
def Ne2(P:Program)(h:pd3)(fnI:Func)(cI:Code)(n:Nat)(g:Operand)(ps:Array Tmp)(asq body:Code):PC :=
 match ltO n g&&Nat.beq fnI.results.size 0&&ps.toList.all (λp=>Nat.blt p n) with
 |true=>.inner h.fi (j9 g) fnI.ntmps (Ka6 P fnI.ntmps [] (some (ng1 P h n ps asq body)) [(0,none)] (ff7 h.ki) Sc5 0 cI)
 |false=>.bad
def gb7(P:Program)(h:pd3)(fnI fn:Func):Option PFn :=
 match fn.body,fnI.body with
 |some c,some cI =>
  if fn.results.toList.all (se4 P) then some ⟨fn.ntmps,fn.results.toList.map (yd1 P),Ka6 P fn.ntmps h.pr none [] (ff7 h.kp) (Ne2 P h fnI cI fn.ntmps) 0 c⟩ else none
 |_,_=>none
def xe2(H:List b8):Bool:=List.rec (motive:=λ_=>Bool) true (λb _ ih=>Bool.rec (motive:=λ_=>Bool) ih false (G5 b)) H
def Jb2(E:Env)(fn:PFn)(args:List b7)(blks:List b8):DT (b7×List b8) :=
 .guard (Bool.and (xe2 blks) (Nat.ble (len args) fn.ntmps)) ((R6 E (len blks) fn.body ⟨app args (List.replicate (fn.ntmps-len args) (.v (.tuple #[]))),blks⟩).bind λr =>
  match r.1 with
  |.exit _=>.fail
  |_=>match tb8 (yb2 (o8 (qa1 r.2.H) r.2.a) (q7 r.2.H)) fn.res with
   |some l=>.guard (xe2 (M7 r.2.H (len blks))) (qc9 (len blks) (q7 r.2.H) (Vb5 l))
   |none=>.fail)
section
variable{WB K:Nat->Prop}{J:List Value->World->Prop}{DF:List Deferred->Prop}{S:HL}{rv:Value}{ρ ρ0:Rho}{H H0 H':List b8}{F F0:Fz}{w w0 w':World}{W':Nat->Prop}{up:List Value}{E:Env}{a:List b7}{s s':St}{ac:Act}{x:b7}{o:Oper}{n:Nat}
def nc0(tmps:Array Value):Option (Nat×Bool)->Prop
 |none=>True
 |some (d,b)=>tmps[d]?=some (.bool b)
structure I3(P:Program)(WB K:Nat->Prop)(J:List Value->World->Prop)(n:Nat)(S:HL)(rv:Value)(DF:List Deferred->Prop)(ρ0:Rho)(H0:List b8)(F0:Fz)(w0:World)(s:St)(ac:Act)(w:World):Prop where
 inv:ff1 P WB K J n ρ0 H0 F0 w0 s ac w
 held:∀p∈S,nc0 ac.tmps p.2->ac.tmps[p.1]?=some rv
 df:DF ac.defers
theorem Ia7{b:Bool}{so:SP}(h:(gc5 E a H (mc9 b so)).run=some (x,H')):b=true/\mc9 b so=so:=by
 cases b with
 |true=>exact⟨rfl,rfl⟩
 |false=>cases h
theorem bc0{pr:List Nat}{y:Operand}{p:Nat}(h:Ne1 pr y=some p):y=.tmp p:=by
 unfold Ne1 at h
 split at h
 ·split at h
  ·injection h with h;rw[h]
  ·cases h
 ·cases h
theorem cd0{P:Program}{t:TypeId}{q:ng0}(h:qf5 P t=some q):P.underlying t=some (.map q.kt q.el)/\fa9 P 9 q.kt=some q.fl/\agT P q.kt=true/\tc3 q.fl (szT P q.kt)=true:=by
 unfold qf5 at h
 split at h
 ·rename_i kt el hu
  split at h
  ·rename_i fl hf
   split at h
   ·rename_i hc;injection h with h;subst h;rw[Qeb] at hc;exact⟨hu,hf,hc.1,hc.2⟩
   ·cases h
  ·cases h
 ·cases h
theorem Sc6{k:Nat}(h:(!Nat.beq k 0)=true):k≠0:=λe=>by subst e;cases h
theorem VR.arel(hv:VR ρ H F w a (ac.tmps.toList++up))(hn:ac.tmps.size=n):Ca8 ρ (q7 H) F w (o8 (qa1 H) (M7 a n)) ac.tmps:=by
 have hl:=hv.1;have hsz:ac.tmps.toList.length=ac.tmps.size:=Array.length_toList;rw[Qel] at hl;rw[o7,N5];refine⟨by rw[List.length_map,List.length_take];omega,λi x x' hx hx'=>?_⟩
 rw[Qeh] at hx;have hi:i<n:=hn ▸ (Qej.1 hx').1;rw[Qes,if_pos hi] at hx;cases hy:a[i]? with
 |none=>rw[hy] at hx;cases hx
 |some y =>
  rw[hy] at hx;injection hx with hx;subst hx;refine Zd0 (hv.2 i y x' hy ?_);rw[Qeg (by rw[Array.length_toList];omega)]
  simpa using hx'
theorem qf9 {px : PO} {ds : List Deferred} (hC : C2 E.P WB K J ρ0 H0 F0 w0 H ds w ρ F W' up) (hJ : Lc6 K J)
  (hop:∀H1,(evalOp E (o8 (qa1 H) (M7 a n)) (q7 H) px).run=some (x,H1)->l7 E.P o ac w (T1 W' ρ (q7 H) F w x H1)) (he:(gc5 E a H (.old n px)).run=some (x,H')):l7 E.P o ac w (ac9 E.P WB K J ρ0 H0 F0 w0 ρ H F w up ds x H'):=by
 obtain⟨⟨x1,H1⟩,h1,h2⟩:=DT.run_bind_some (show ((evalOp E (o8 (qa1 H) (M7 a n)) (q7 H) px).bind λr=>.guard (Pc3 H r.2) (.ret (r.1,B0 H r.2))).run=some (x,H') from he)
 obtain⟨hok,h2⟩:=DT.run_guard_some h2;have h2:some (x1,B0 H H1)=some (x,H'):=h2;injection h2 with h2;injection h2 with e1 e2;subst e1 e2
 intro next Q hp;refine hop H1 h1 next Q λx' w' ⟨ρ',F',k1,k2,k3⟩=>hp x' w' ?_
 obtain⟨c1,c2⟩:=hC.step hJ k1 hok k2;exact⟨_,F',W',c1,c2,.w (Me9 k1 hok k3)⟩
theorem Wf3{α:Type}{l:Array α}{a b:α}(h:l.toList=[a,b]):l=#[a,b]:=by
 apply Array.ext';simpa using h
theorem Wf4{α:Type}{l:Array α}{a:α}(h:l.toList=[a]):l=#[a]:=by
 apply Array.ext';simpa using h
theorem ng2 {pr : List Nat} {so : SP} {ds : List Deferred} (hC : C2 E.P WB K J ρ0 H0 F0 w0 H ds w ρ F W' up) (hJ : Lc6 K J) (hv : VR ρ H F w a (ac.tmps.toList ++ up)) (hn : ac.tmps.size = n) (hG : GOk E F w)
  (hs:cSp E.P n pr o=some so) (he:(gc5 E a H so).run=some (x,H')):l7 E.P o ac w (ac9 E.P WB K J ρ0 H0 F0 w0 ρ H F w up ds x H'):=by
 unfold cSp at hs
 split at hs
 ·rename_i t ho
  split at hs
  ·split at hs
   ·rename_i z hz;injection hs with hs;subst hs
    exact ff2 hC hJ ho hz he
   ·injection hs with hs;subst hs;cases he
  ·cases hs
 ·rename_i t y ho
  split at hs
  ·injection hs with hs;subst hs
   obtain⟨h1,h2⟩:=Ia7 he;rw[h2] at he;exact Kf3 hC hJ hv hn hG ho h1 he
  ·cases hs
 ·rename_i t y ho
  split at hs
  ·rename_i p hp;injection hs with hs;subst hs
   obtain⟨h1,h2⟩:=Ia7 he;rw[h2] at he;rw[Qeb] at h1;rw[bc0 hp] at ho;exact pf1 hC hv hn hG ho h1.1 (λe=>by rw[e] at h1;cases h1.2) he
  ·cases hs
 ·rename_i t y z ho
  split at hs
  ·rename_i p hp;injection hs with hs;subst hs
   obtain⟨h1,h2⟩:=Ia7 he;rw[h2] at he;rw[Qeb,Qeb] at h1;rw[bc0 hp] at ho;exact ff3 hC hJ hv hn hG ho h1.1.1 h1.1.2 (Sc6 h1.2) he
  ·cases hs
 ·rename_i st y f ho
  split at hs
  ·rename_i p hp
   split at hs
   ·rename_i fs hu
    split at hs
    ·rename_i fd hf;injection hs with hs;subst hs
     obtain⟨h1,h2⟩:=Ia7 he;rw[h2] at he;rw[Qeb] at h1;rw[bc0 hp] at ho;exact Kf5 hC hv hn hG ho h1.1 hu hf (Sc6 h1.2) he
    ·injection hs with hs;subst hs;cases he
   ·injection hs with hs;subst hs;cases he
  ·cases hs
 ·rename_i y ho
  split at hs
  ·rename_i p hp;injection hs with hs;subst hs
   obtain⟨h1,h2⟩:=Ia7 he;rw[h2] at he;rw[bc0 hp] at ho;exact pf2 hC hv hn hG (.inl ho) h1 he
  ·cases hs
 ·rename_i y ho
  split at hs
  ·rename_i p hp;injection hs with hs;subst hs
   obtain⟨h1,h2⟩:=Ia7 he;rw[h2] at he;rw[bc0 hp] at ho;exact pf2 hC hv hn hG (.inr ho) h1 he
  ·cases hs
 ·rename_i t ho
  split at hs
  ·rename_i q hq;injection hs with hs;subst hs
   obtain⟨h1,h2,_,_⟩:=cd0 hq;exact qf2 hC hJ ho h1 h2 he
  ·injection hs with hs;subst hs;cases he
 ·rename_i t m y ho
  split at hs
  ·rename_i q hq;injection hs with hs;subst hs
   obtain⟨h1,h2,h3,h4⟩:=cd0 hq;obtain⟨k1,k2⟩:=Ia7 he;rw[k2] at he;rw[Qeb,Qeb] at k1;exact qf3 hC hv hn hG ho k1.1.1 k1.1.2 h1 h3 h2 h4 k1.2 he
  ·injection hs with hs;subst hs;cases he
 ·rename_i t m y z ho
  split at hs
  ·rename_i q hq;injection hs with hs;subst hs
   obtain⟨h1,h2,h3,h4⟩:=cd0 hq;obtain⟨k1,k2⟩:=Ia7 he;rw[k2] at he;rw[Qeb,Qeb] at k1;exact Kf6 hC hJ hv hn hG ho k1.1.1 k1.1.2 k1.2 h1 h3 h2 h4 he
  ·injection hs with hs;subst hs;cases he
 ·rename_i c ho
  split at hs
  ·rename_i hcb
   split at hs
   ·split at hs
    ·rename_i y z t u hargs htys
     split at hs
     ·rename_i e hu;injection hs with hs;subst hs
      obtain⟨k1,k2⟩:=Ia7 he;rw[k2] at he;rw[Qeb,Qeq] at k1;have htu:=Qec k1.2;subst htu;obtain⟨ti,hi,hi0,hi1⟩:=vd8 (Nat.ne_of_gt k1.1);refine qf9 hC hJ (λH1 h1=>?_) he
      exact yd4 (hv.arel hn) hC.hrel hG ho hcb (Wf3 hargs) (Wf3 htys) hu hi (by omega) h1
     ·injection hs with hs;subst hs;cases he
    ·injection hs with hs;subst hs;cases he
   ·cases hs
  ·rename_i hcb
   split at hs
   ·rename_i y t hargs htys
    split at hs
    ·rename_i e hu
     split at hs
     ·rename_i z hz;injection hs with hs;subst hs
      obtain⟨k1,k2⟩:=Ia7 he;rw[k2] at he;rw[Qeq] at k1;refine qf9 hC hJ (λH1 h1=>?_) he
      exact Xd3 (hv.arel hn) hC.hrel hG ho hcb (Wf4 hargs) (Wf4 htys) hu hz k1 h1
     ·injection hs with hs;subst hs;cases he
    ·injection hs with hs;subst hs;cases he
   ·injection hs with hs;subst hs;cases he
  ·cases hs
 ·cases hs
theorem VR.putA(hv:VR ρ H F w a (ac.tmps.toList++up))(hn:ac.tmps.size=n){dst:Option Nat}(hd:dOk n dst=true){x':Value}(hx:XW ρ H F w x x'):VR ρ H F w (Ev.putA a dst x) ((ac.put dst x').tmps.toList++up):=by
 rw[Ac1];cases dst with
 |none=>exact hv
 |some d =>
  have hd:d<n:=by have:=hd;unfold dOk at this;rwa [Qeq] at this
  have e:(ac.put (some d) x').tmps.toList++up=(ac.tmps.toList++up).set d x':=by
   rw[List.set_append_left _ _ (by rw[Array.length_toList];omega)]
   simp[Act.put]
  rw[e];refine⟨by simp only[List.length_set];exact hv.1,λi y y' hy hy'=>?_⟩
  rw[List.getElem?_set] at hy hy';by_cases hi:d=i
  ·subst hi;have hl:d<(ac.tmps.toList++up).length:=by rw[Qel,Array.length_toList];omega
   rw[if_pos rfl,if_pos (hv.1 ▸ hl)] at hy;rw[if_pos rfl,if_pos hl] at hy';injection hy with hy;injection hy' with hy'
   subst hy hy';exact hx
  ·rw[if_neg hi] at hy hy';exact hv.2 i y y' hy hy'
theorem VR.tr{vs:List Value}{ρ':Rho}{F':Fz}(hv:VR ρ H F w a vs)(ht:Tr ρ H F w ρ' H' F' w'):VR ρ' H' F' w' a vs:=⟨hv.1,λi x x' hx hx'=>ht _ _ (hv.2 i x x' hx hx')⟩
theorem VR.at(hv:VR ρ H F w a (ac.tmps.toList++up))(hn:ac.tmps.size=n){t:Nat}(ht:t<n):∃x',ac.tmps[t]?=some x'/\XW ρ H F w (d7 E a (.t t)) x':=by
 have hl:=hv.1;have hsz:ac.tmps.toList.length=ac.tmps.size:=Array.length_toList;rw[Qel] at hl;have h1:t<a.length:=by omega
 have h2:t<ac.tmps.size:=by omega
 refine⟨ac.tmps[t],by simp[h2],?_⟩
 rw[Db5,Qed h1];refine hv.2 t _ _ (Qed h1) ?_;rw[Qeg (by rw[Array.length_toList];exact h2)]
 simp[h2]
theorem Gc0 {ops : Array Oper} {g : Option (Nat × Bool)} {d : St → DT St} (hg : da5 ops o = some g) (hgn : gOk n g = true) (hv : VR ρ H F w s.a (ac.tmps.toList ++ up)) (hn : ac.tmps.size = n) (he : (vd3 E s o.dst g d).run = some s') :
  (Region.wanted o (yielded ops ac.tmps)=true/\(d s).run=some s')\/(Region.wanted o (yielded ops ac.tmps)=false/\s'=⟨putA s.a o.dst (.v (.tuple #[])),s.H⟩):=by
 unfold da5 at hg;unfold Region.wanted;cases hgo:o.guard with
 |none =>
  simp only[hgo] at hg ⊢;injection hg with hg;subst hg;exact .inl ⟨trivial,he⟩
 |some jw =>
  obtain⟨j,want⟩:=jw;simp only[hgo] at hg ⊢;cases hj:ops[j]? with
  |none=>simp[hj] at hg
  |some oj =>
  simp only[hj] at hg;cases hd:oj.dst with
  |none=>simp[hd] at hg
  |some dd =>
  simp only[hd] at hg;injection hg with hg;subst hg;have hdn:dd<n:=by have:=hgn;unfold gOk at this;rwa [Qeq] at this
  obtain⟨u',hu1,hu2⟩:=hv.at (E:=E) hn hdn;have he':(match d7 E s.a (.t dd) with
   | .v (.bool b) => Bool.rec (motive := fun _ => DT St)
     (.ite b (.ret ⟨putA (setAt s.a dd (.v (.bool true))) o.dst (.v (.tuple #[])),s.H⟩) (d ⟨setAt s.a dd (.v (.bool false)),s.H⟩))
     (.ite b (d ⟨setAt s.a dd (.v (.bool true)),s.H⟩) (.ret ⟨putA (setAt s.a dd (.v (.bool false))) o.dst (.v (.tuple #[])),s.H⟩)) want
   |.v (.tuple _)=>.ret ⟨putA s.a o.dst (.v (.tuple #[])),s.H⟩
   |_=>.fail).run=some s':=he
  have hset:∀b,d7 E s.a (.t dd)=.v (.bool b)->setAt s.a dd (.v (.bool b))=s.a:=λb h=>ue7 (E:=E) (by simp) h
  revert he' hu2 hset
  generalize d7 E s.a (.t dd)=u;intro hu2 he' hset
  split at he'
  ·rename_i b;have hb:=ff4 hu2;subst hb;rw[hc6 hj hd hu1];have hs:=hset b rfl;cases want<;>cases b
   ·rw[hs] at he';exact .inl ⟨rfl,he'⟩
   ·refine .inr ⟨rfl,?_⟩;rw[hs] at he';exact (Qef he').symm
   ·refine .inr ⟨rfl,?_⟩;rw[hs] at he';exact (Qef he').symm
   ·rw[hs] at he';exact .inl ⟨rfl,he'⟩
  ·rename_i vs;have hb:=ff4 hu2;subst hb;rw[Vb7 hj hd hu1];exact .inr ⟨rfl,(Qef he').symm⟩
  ·cases he'
theorem Cd2{a a':Array Value}{dd:List Nat}(h:∀p∈S,nc0 a p.2->a[p.1]?=some rv)(hs:∀t,¬ t∈dd->a'[t]?=a[t]?):∀p∈rmL S dd,nc0 a' p.2->a'[p.1]?=some rv:=by
 intro p hp hg;simp only[rmL,List.mem_filter,Qeb] at hp;obtain⟨h1,h2,h3⟩:=hp;rw[hs p.1 (by simpa using h2)]
 refine h p h1 ?_;obtain⟨t,g⟩:=p;cases g with
 |none=>trivial
 |some q =>
  obtain⟨d,b⟩:=q;have h3:¬ d∈dd:=by simpa using h3
  exact (hs d h3).symm.trans hg
theorem Jb3{dst:Option Nat}{v:Value}(h:∀p∈S,nc0 ac.tmps p.2->ac.tmps[p.1]?=some rv):∀p∈rmD S dst,nc0 (ac.put dst v).tmps p.2->(ac.put dst v).tmps[p.1]?=some rv:=by
 cases dst with
 |none=>exact h
 |some d=>exact Cd2 h λt ht=>Sc3 λe=>by injection e with e;subst e;simp at ht
theorem Ne3{tmps:Array Value}{g g':Option (Nat×Bool)}(h:qf6 g g'=true)(hg:nc0 tmps g'):nc0 tmps g:=by
 cases g with
 |none=>trivial
 |some q =>
  obtain⟨d,b⟩:=q;cases g' with
  |none=>cases h
  |some q' =>
   obtain⟨d',b'⟩:=q';simp only[qf6,Qeb,beq_iff_eq] at h;have h1:=Qec h.1;obtain⟨_,h2⟩:=h;subst h1 h2;exact hg
theorem cd1{tmps:Array Value}{t:Nat}{g:Option (Nat×Bool)}(h:∀p∈S,nc0 tmps p.2->tmps[p.1]?=some rv)(hs:qf7 S t g=true)(hg:nc0 tmps g):tmps[t]?=some rv:=by
 simp only[qf7,List.any_eq_true,Qeb] at hs;obtain⟨p,h1,h2,h3⟩:=hs
 have:=h p h1 (Ne3 h3 hg)
 rwa [Qec h2] at this
theorem tc6{ops:Array Oper}{o:Oper}{g:Option (Nat×Bool)}{tmps:Array Value}(hg:da5 ops o=some g):Region.wanted o (yielded ops tmps)=true↔nc0 tmps g:=by
 unfold da5 at hg;unfold Region.wanted;cases hgo:o.guard with
 |none =>
  simp only[hgo] at hg ⊢;injection hg with hg;subst hg;exact⟨λ_=>trivial,λ_=>trivial⟩
 |some jw =>
  obtain⟨j,want⟩:=jw;simp only[hgo] at hg ⊢;cases hj:ops[j]? with
  |none=>simp[hj] at hg
  |some oj =>
  simp only[hj] at hg;cases hd:oj.dst with
  |none=>simp[hd] at hg
  |some d =>
  simp only[hd] at hg;injection hg with hg;subst hg;simp only[yielded,hj,Option.bind_some,hd,nc0];cases tmps[d]? with
  |none=>simp
  |some v=>cases v<;>simp
theorem dg9 {Fe : Fence} {m i : Nat} {pr : List Nat} {so : SP} {g : Option (Nat × Bool)} {ops : Array Oper} {rest : List Nat} {Q : Exit → Act → World → Prop} (hF : FW Fe) (hG0 : GOk E F0 w0) (hJ : Lc6 K J) (hi : ops[i]? = some o)
  (hs:cSp E.P n pr o=some so) (hg:da5 ops o=some g) (hgn:gOk n g=true) (hdn:dOk n o.dst=true) (hI:I3 E.P WB K J n S rv DF ρ0 H0 F0 w0 s ac w) (he:(Je2 E s o.dst g so).run=some s')
  (hQ:∀ac' w',I3 E.P WB K J n (rmD S o.dst) rv DF ρ0 H0 F0 w0 s' ac' w'->wpOpsIn Fe m E.P ops Q rest ac' w'):wpOpsIn Fe m E.P ops Q (i::rest) ac w:=by
 obtain⟨⟨ρ,F,W',up,hI2⟩,hheld,hdf⟩:=hI;simp only[wpOpsIn,hi]
 rcases Gc0 hg hgn hI2.vals hI2.size he with⟨hw,he⟩|⟨hw,rfl⟩
 ·rw[if_pos hw];obtain⟨⟨x,H'⟩,h1,h2⟩:=DT.run_bind_some he;have h2:some (⟨putA s.a o.dst x,H'⟩:St)=some s':=h2;injection h2 with h2;subst h2;have hop:=ng2 (ac:={ ac with defers:=[] }) (ds:=ac.defers) hI2.core hJ hI2.vals hI2.size (hG0.adv hI2.core.adv) hs h1
  refine hop.inAny hF m _ _ λx' w' hp=>?_
  obtain⟨ρ',F',W'',c1,c2,c3⟩:=hp;exact hQ _ _ ⟨⟨ρ',F',W'',up,by rw[D7];exact c1,(hI2.vals.tr c2).putA hI2.size hdn c3,(Aa7 _ _).trans hI2.size⟩,Jb3 hheld,by rw[D7];exact hdf⟩
 ·rw[if_neg (by simp[hw])]
  refine⟨λf _=>hF.fn f,hQ _ _ ⟨⟨ρ,F,W',up,by rw[D7];exact hI2.core,hI2.vals.putA hI2.size hdn (.w (.ofv _)),(Aa7 _ _).trans hI2.size⟩,Jb3 hheld,by rw[D7];exact hdf⟩⟩
theorem rf0 {Fe : Fence} {m i d k : Nat} {g : Option (Nat × Bool)} {ops : Array Oper} {rest : List Nat} {Q : Exit → Act → World → Prop} {xx : f8} (hF : FW Fe) (hG0 : GOk E F0 w0) (hcalls : ∀ f, i5 E.P E.G f (E.call f)) (hJ : Lc6 K J) (hi : ops[i]? = some o)
  (hc:Cd1 ops S o=some (d,g)) (hdn:d<n) (hI:I3 E.P WB K J n S rv DF ρ0 H0 F0 w0 s ac w) (he:(R6 E k (.mask n [d] (.ops [⟨some d,none,[],.mv (.c .unk)⟩])) s).run=some (xx,s'))
  (hQ:xx=.normal->∀ac' w',I3 E.P WB K J n ((d,g)::rmL S [d]) rv DF ρ0 H0 F0 w0 s' ac' w'->wpOpsIn Fe m E.P ops Q rest ac' w'):wpOpsIn Fe m E.P ops Q (i::rest) ac w:=by
 obtain⟨⟨ρ,F,W',up,hI2⟩,hheld,hdf⟩:=hI;unfold Cd1 at hc
 split at hc
 case h_2=>cases hc
 rename_i t d' ho hd
 split at hc
 case h_2=>cases hc
 rename_i g' hg
 split at hc
 case isFalse=>cases hc
 rename_i hS;injection hc with hc;injection hc with e1 e2;subst e1 e2;simp only[wpOpsIn,hi];have he':((R6 E k (.ops [⟨some d',none,[],.mv (.c .unk)⟩]) ⟨o8 (qa1 s.H) (M7 s.a n),q7 s.H⟩).bind λr=>.guard (Pc3 s.H r.2.H) (.ret (r.1,⟨za9 [d'] s.a r.2.a 0,B0 s.H r.2.H⟩))).run=some (xx,s'):=he
 obtain⟨⟨x1,s1⟩,h1,h2⟩:=DT.run_bind_some he';obtain⟨hok,h2⟩:=DT.run_guard_some h2;have h1:some (f8.normal,(⟨putA (o8 (qa1 s.H) (M7 s.a n)) (some d') .unk,q7 s.H⟩:St))=some (x1,s1):=h1;injection h1 with h1;injection h1 with e1 e2;subst e1 e2
 have h2:some (f8.normal,(⟨za9 [d'] s.a (putA (o8 (qa1 s.H) (M7 s.a n)) (some d') .unk) 0,B0 s.H (q7 s.H)⟩:St))=some (xx,s'):=h2;injection h2 with h2;injection h2 with e1 e2;subst e1 e2
 obtain⟨c1,c2⟩:=hI2.core.step hJ .refl hok hI2.core.hrel;have hvr:∀v,VR (ρsp s.H ρ ρ) (B0 s.H (q7 s.H)) F w (za9 [d'] s.a (putA (o8 (qa1 s.H) (M7 s.a n)) (some d') .unk) 0) ((ac.put o.dst v).tmps.toList++up):=λv=>by
  refine⟨by rw[tc2];have:=hI2.vals.1;rw[Qel,Array.length_toList] at this ⊢;rw[Aa7];exact this,λi y y' hy hy'=>?_⟩
  rw[tc1] at hy;cases hz:s.a[i]? with
  |none=>rw[hz] at hy;cases hy
  |some z =>
   rw[hz] at hy;injection hy with hy;rw[Qex] at hy;by_cases hid:i=d'
   ·subst hid;have hm:tb9 i [i]=true:=(Cd0 _ _).2 (by simp)
    rw[hm] at hy;have hy:((putA (o8 (qa1 s.H) (M7 s.a n)) (some i) .unk)[i]?).getD .unk=y:=hy;rw[Ac1] at hy;simp only[List.getElem?_set] at hy
    have:y=.unk:=by
     rw[<- hy];simp only[if_true]
     split<;>rfl
    subst this;exact .w (.unk _)
   ·have hm : tb9 i [d'] = false := by
     cases h:tb9 i [d'] with
     |false=>rfl
     |true=>exact absurd (by simpa using (Cd0 _ _).1 h) hid
    rw[hm] at hy;have hy:z=y:=hy;subst hy;refine c2 _ _ (hI2.vals.2 i z y' hz ?_);rw[hd] at hy';simpa [Act.put,List.getElem?_append,Array.getElem?_setIfInBounds_ne,Ne.symm hid] using hy'
 have hfin:∀v,(Region.wanted o (yielded ops ac.tmps)=true->v=rv)->(Region.wanted o (yielded ops ac.tmps)=false->v=undef)->wpOpsIn Fe m E.P ops Q rest (ac.put o.dst v) w:=λv hv1 hv2=>by
  refine hQ rfl _ _ ⟨⟨_,F,W',up,by rw[D7];exact c1,hvr v,(Aa7 _ _).trans hI2.size⟩,λp hp hgp=>?_,by rw[D7];exact hdf⟩
  have hlt:d'<ac.tmps.size:=Nat.lt_of_lt_of_eq hdn hI2.size.symm;have hset:(ac.put (some d') v).tmps[d']?=some v:=by
   show (ac.tmps.setIfInBounds d' v)[d']?=some v;exact Array.getElem?_setIfInBounds_self_of_lt hlt
  rcases List.mem_cons.1 hp with rfl|hp
  ·cases hw:Region.wanted o (yielded ops ac.tmps) with
   |true=>rw[hd,<- hv1 hw];exact hset
   |false =>
    exfalso;have hng:¬ nc0 ac.tmps g':=λh=>by rw[(tc6 hg).2 h] at hw;cases hw
    cases g' with
    |none=>exact hng trivial
    |some q =>
     obtain⟨dg,b⟩:=q;have hgq:(ac.put o.dst v).tmps[dg]?=some (.bool b):=hgp;by_cases he:dg=d'
     ·subst he;rw[hd,hset,hv2 hw] at hgq;injection hgq with hgq;cases hgq
     ·rw[Sc3 (λe=>he (by rw[hd] at e;injection e with e;exact e.symm))] at hgq
      exact hng hgq
  ·have:=Jb3 (dst:=some d') (v:=v) hheld p hp
   rw[hd] at hgp ⊢;exact this hgp
 by_cases hw:Region.wanted o (yielded ops ac.tmps)=true
 ·rw[if_pos hw];have ht:=cd1 hheld hS ((tc6 hg).1 hw);have hop:l7 E.P o { ac with defers:=[] } w (λv w'=>v=rv/\w'=w):=by
   have hev:({ ac with defers:=[] }:Act).eval (.tmp t)=rv:=by
    show ac.tmps.getD t undef=rv;have hlt:=(Qej.1 ht).1
    have:=(Qej.1 ht).2
    simp[Array.getD,hlt,this]
   exact .value (x':=rv) (w':=w) (by simp[execOp,ho,hev]) ⟨rfl,rfl⟩
  refine hop.inAny hF m _ _ λv w' hp=>?_
  obtain⟨rfl,rfl⟩:=hp;exact hfin _ (λ_=>rfl) λh=>by rw[hw] at h;cases h
 ·rw[if_neg hw];exact⟨λf _=>hF.fn f,hfin _ (λh=>absurd h hw) λ_=>rfl⟩
end
section
variable{P:Program}{k:Nat}{WB K:Nat->Prop}{J:List Value->World->Prop}{DF:List Deferred->Prop}{S:HL}{rv:Value}{ρ ρ0:Rho}{H H0 H2:List b8}{F F0:Fz}{w w0:World}{W':Nat->Prop}{up:List Value}{E:Env}{R:List Nat}{n:Nat}
def rf1(H:List b8)(x:b7)(r:List Nat):List Nat:=match x with
 |.ptr id _ _ g=>match blkAt H id g with
  |some _=>(Ma7 r id).2
  |none=>r
 |.sl id _ _ g=>match blkAt H id g with
  |some _=>(Ma7 r id).2
  |none=>r
 |_=>r
theorem rf2(H:List b8)(x:b7)(r:List Nat)(hr:TOk k r):TOk k (rf1 H x r)/\TLe r (rf1 H x r):=by
 have step:∀id,TOk k (Ma7 r id).2/\TLe r (Ma7 r id).2:=λid=>by
  obtain⟨h1,h2,_⟩:=hr.idx (id:=id) (j:=(Ma7 r id).1) (r:=(Ma7 r id).2) rfl;exact⟨h1,h2⟩
 unfold rf1;split
 ·split
  ·exact step _
  ·exact⟨hr,.refl _⟩
 ·split
  ·exact step _
  ·exact⟨hr,.refl _⟩
 ·exact⟨hr,.refl _⟩
theorem xe3(H:List b8):∀(cs:List b7) (r:List Nat),TOk k r->TOk k (Te2 H cs r)/\TLe r (Te2 H cs r)
 |[],r,hr=>⟨hr,.refl _⟩
 |x::cs,r,hr=>by
  have hx:=rf2 H x r hr;obtain⟨h1,h2⟩:=xe3 H cs _ hx.1;exact⟨h1,hx.2.trans h2⟩
def rf3(H:List b8)(id:Nat)(r:List Nat):List Nat:=match nth H id with
 |some b=>match G5 b&&Nat.beq b.et 0 with
  |true=>Te2 H (o0 b.elems 0) r
  |false=>r
 |none=>r
theorem rf4(H:List b8)(id:Nat)(r:List Nat)(hr:TOk k r):TOk k (rf3 H id r)/\TLe r (rf3 H id r):=by
 unfold rf3;split
 ·split
  ·exact xe3 H _ r hr
  ·exact⟨hr,.refl _⟩
 ·exact⟨hr,.refl _⟩
theorem xe4(H:List b8):∀(ids:List Nat) (r:List Nat),TOk k r->TOk k (Wd5 H ids r)/\TLe r (Wd5 H ids r)
 |[],r,hr=>⟨hr,.refl _⟩
 |id::ids,r,hr=>by
  have hx:=rf4 H id r hr;obtain⟨h1,h2⟩:=xe4 H ids _ hx.1;exact⟨h1,hx.2.trans h2⟩
def Ve4(b:b8):b8:=Bool.rec (motive:=λ_=>b8) b { b with dead:=true } (G5 b)
theorem cd2(H:List b8):q7 H=H.map Ve4:=Ib9 H
theorem ic5:∀{R:List Nat} {j:Nat} {H2:List b8},Wa4 k H j R=some H2->Wa4 k (q7 H) j R=some (q7 H2)
 |[],j,H2,h=>by
  simp only[Wa4] at h ⊢;injection h with h;subst h;rfl
 |id::R,j,H2,h=>by
  simp only[Wa4,D3] at h ⊢;cases hb:H[id]? with
  |none=>simp[hb] at h
  |some b =>
  simp only[hb] at h;cases hr:Wa4 k H (j+1) R with
  |none=>simp[hr] at h
  |some l =>
  simp only[hr] at h;injection h with h;subst h;have e:(q7 H)[id]?=some (Ve4 b):=by rw[cd2,Qeh,hb];rfl
  rw[e,ic5 hr];simp only[cd2,Qeaa];congr 2;unfold Ve4;cases Nat.blt j k<;>cases hs:G5 b<;>simp[G5] at hs ⊢<;>simp[hs]
theorem Kf7(x:b7):TC k H R x (lf6 k H R x):=by
 unfold lf6;split
 ·rename_i id i c g;split
  ·rename_i b hb;split
   ·rename_i j hj
    have:=(Db6 R 0 id j hj).2
    exact .ptr id i c g j b hb (by simpa using this)
   ·exact .unk _
  ·exact .unk _
 ·rename_i id off n g;split
  ·rename_i b hb;split
   ·rename_i j hj
    have:=(Db6 R 0 id j hj).2
    exact .sl id off n g j b hb (by simpa using this)
   ·exact .unk _
  ·exact .unk _
 ·rename_i h1 h2;refine .same x ?_;cases x<;>first | exact trivial | (exact (h1 _ _ _ _ rfl).elim) | (exact (h2 _ _ _ _ rfl).elim)
theorem wd2{x z:b7}{x':Value}(h:TC k H R x z)(hx:ka7 ρ (q7 H) F w x x'):TC k (q7 H) R x z:=by
 cases h with
 |unk=>exact .unk _
 |ptr id i c g j b hb hj =>
  obtain⟨hb1,hd1,hg1⟩:=A7 hb;obtain⟨ad,b2,e,m1,m2,m3,m4⟩:=gb2 (.val (.cell hx));obtain⟨n1,n2⟩:=xa9 m1 m2
  have:b2=b:=Qef (n1.symm.trans hb1)
  subst this;exact .ptr id i c g j b2 (by unfold blkAt;simp only[D3,m1,m2,hg1];simp) hj
 |sl id off n g j b hb hj =>
  obtain⟨hb1,hd1,hg1⟩:=A7 hb;obtain⟨ad,cap,b2,e,m1,m2,m3,_⟩:=cb7 (.val (.cell hx));obtain⟨n1,n2⟩:=xa9 m1 m2
  have:b2=b:=Qef (n1.symm.trans hb1)
  subst this;exact .sl id off n g j b2 (by unfold blkAt;simp only[D3,m1,m2,hg1];simp) hj
 |same x h=>exact .same x h
theorem Ve5{x z:b7}{x':Value}(h:TV k H R x z)(hx:ma1 ρ (q7 H) F w x x'):TV k (q7 H) R x z:=by
 cases h with
 |cell hb h =>
  cases hx with
  |cell hx=>exact .cell hb (wd2 h hx)
  |_=>cases hb
 |agg cs ds hl h =>
  obtain⟨vs,e,hl2,h2⟩:=La6 (.val hx);refine .agg cs ds hl λi x z hx hz=>?_
  have hi:i<vs.size:=hl2 ▸ (Qea.1 hx).1;exact wd2 (h i x z hx hz) (h2 i x _ hx (Qei hi))
 |fn f cs ds hl h =>
  obtain⟨vs,e,hl2,h2⟩:=hc3 (.val hx);refine .fn f cs ds hl λi x z hx hz=>?_
  have hi:i<vs.size:=hl2 ▸ (Qea.1 hx).1;exact wd2 (h i x z hx hz) (h2 i x _ hx (Qei hi))
 |tup l=>exact .tup l
theorem Kf8{x z:b7}{x':Value}(h:TW k H R x z)(hx:E8 ρ (q7 H) F w x x'):TW k (q7 H) R x z:=by
 cases h with
 |val hn h =>
  cases hx with
  |val hx=>exact .val hn (Ve5 h hx)
  |tup cs vs hl h2=>exact absurd rfl (hn cs)
 |tup cs ds hl h =>
  obtain⟨vs,e,hl2,h2⟩:=fe2 hx;refine .tup cs ds hl λi x z hx hz=>?_
  have hi:i<vs.size:=hl2 ▸ (Qea.1 hx).1;exact Ve5 (h i x z hx hz) (h2 i x _ hx (Qei hi))
theorem Zd4{b:b8}(h:G5 b=false):fb9 k H R b=b:=by unfold fb9;rw[h];rfl
theorem ic6(b:b8):(fb9 k H R b).et=b.et/\(fb9 k H R b).es=b.es/\(fb9 k H R b).dead=b.dead/\(fb9 k H R b).g=b.g/\(fb9 k H R b).elems.length=b.elems.length/\G5 (fb9 k H R b)=G5 b:=by
 unfold fb9;cases G5 b&&Nat.beq b.et 0
 ·exact⟨rfl,rfl,rfl,rfl,rfl,rfl⟩
 ·refine⟨rfl,rfl,rfl,rfl,by simp[o7],rfl⟩
section
variable(hR:TOk k R)(hb:Wa4 k H 0 R=some H2)
include hR hb
theorem he7{j:Nat}{c:b8}(hc:(o8 (fb9 k H R) H2)[j]?=some c):∃id b,R[j]?=some id/\(R[j]?).getD 0=id/\H[id]?=some b/\c=fb9 k H R (reG k j b):=by
 rw[o7,Qeh] at hc;cases h:H2[j]? with
 |none=>rw[h] at hc;cases hc
 |some c2 =>
  rw[h] at hc;injection hc with hc;obtain⟨id,b,h1,h2,h3,h4⟩:=Qc6 hb h;exact⟨id,b,h1,h2,h3,by rw[<- hc,h4]⟩
theorem rf5{j id:Nat}{b:b8}(hj:R[j]?=some id)(hid:H[id]?=some b):(o8 (fb9 k H R) H2)[j]?=some (fb9 k H R (reG k j b)):=by
 obtain⟨_,hat⟩:=rc8 hb;obtain⟨b',h1,h2⟩:=hat j id hj
 have:b'=b:=Qef (h1.symm.trans hid)
 subst this;rw[Qex] at h2;rw[o7,Qeh,h2];rfl
theorem Cd3(j:Nat)(b:b8):G5 (reG k j b)=G5 b:=by unfold G5;rw[Ib7]
theorem Zd5:Yd5 (λj=>ρ ((R[j]?).getD 0)) (q7 H2) (λj=>ρ ((R[j]?).getD 0)) (q7 (o8 (fb9 k H R) H2)):=λj b hb' hd=>by
 obtain⟨h1,h2⟩:=xa9 hb' hd;refine⟨b,ta6 ?_ h2,hd,Qee _,λ_=>⟨rfl,rfl,Qee _⟩⟩
 rw[o7,Qeh,h1];simp[Zd4 h2]
theorem ng3{x z:b7}{x':Value}(h:TC k H R x z)(hx:ka7 ρ (q7 H) F w x x'):ka7 (λj=>ρ ((R[j]?).getD 0)) (q7 (o8 (fb9 k H R) H2)) F w z x' :=
 (Ac0 (ic5 hb) (wd2 h hx) hx).carry (Zd5 hR hb) (λ_ _ h=>h) (λ_ _ _=>rfl)
theorem Wf5{x z:b7}{x':Value}(h:TW k H R x z)(hx:E8 ρ (q7 H) F w x x'):E8 (λj=>ρ ((R[j]?).getD 0)) (q7 (o8 (fb9 k H R) H2)) F w z x' :=
 (ge1 (ic5 hb) (Kf8 h hx) hx).carry (Zd5 hR hb) (λ_ _ h=>h) (λ_ _ _=>rfl)
theorem Ne4{x z:b7}{x':Value}(h:TC k H R x z)(hx:XC ρ H F w x x'):XW (λj=>ρ ((R[j]?).getD 0)) (o8 (fb9 k H R) H2) F w z x'/\(XC (λj=>ρ ((R[j]?).getD 0)) (o8 (fb9 k H R) H2) F w z x'):=by
 have main:XC (λj=>ρ ((R[j]?).getD 0)) (o8 (fb9 k H R) H2) F w z x':=by
  cases hx with
  |n hx=>exact .n (ng3 hR hb h hx)
  |box id c g b hb1 hd he =>
   cases h with
   |unk=>exact .n (.unk _)
   |ptr _ _ _ _ j b2 hb2 hj =>
    have e:ρ id=(λj=>ρ ((R[j]?).getD 0)) j:=by simp[hj]
    rw[e];obtain⟨q1,q2,q3,q4,q5,q6⟩:=ic6 (k:=k) (H:=H) (R:=R) (reG k j b);exact .box j c _ _ (rf5 hR hb hj hb1) (by rw[q3,Wa5];exact hd) ⟨by rw[q2,Ib7];exact he.1,by rw[q1,Lc0];exact he.2⟩
   |same _ hs=>exact hs.elim
  |map id c g b t hb1 hd he =>
   cases h with
   |unk=>exact .n (.unk _)
   |ptr _ _ _ _ j b2 hb2 hj =>
    have e:ρ id=(λj=>ρ ((R[j]?).getD 0)) j:=by simp[hj]
    rw[e];obtain⟨q1,q2,q3,q4,q5,q6⟩:=ic6 (k:=k) (H:=H) (R:=R) (reG k j b);exact .map j c _ _ t (rf5 hR hb hj hb1) (by rw[q3,Wa5];exact hd) ⟨by rw[q2,Ib7];exact he.1,by rw[q1,Lc0];exact he.2⟩
   |same _ hs=>exact hs.elim
 exact⟨.c main,main⟩
theorem eg0{x z:b7}{x':Value}(h:TW k H R x z)(hx:XW ρ H F w x x'):XW (λj=>ρ ((R[j]?).getD 0)) (o8 (fb9 k H R) H2) F w z x':=by
 cases hx with
 |w hx=>exact .w (Wf5 hR hb h hx)
 |c hx =>
  have hx0:=hx;cases hx with
  |n hx=>exact .w (Wf5 hR hb h (.val (.cell hx)))
  |box =>
   cases h with
   |val _ h=>cases h with
    |cell _ h=>exact (Ne4 hR hb h hx0).1
  |map =>
   cases h with
   |val _ h=>cases h with
    |cell _ h=>exact (Ne4 hR hb h hx0).1
theorem rf6(h:of5 P WB W' ρ H F w):of5 P WB W' (λj=>ρ ((R[j]?).getD 0)) (o8 (fb9 k H R) H2) F w:=by
 refine⟨λj c hc hs hd=>?_,λj j' c c' hc hc' hs hs' hd hd' hne=>?_⟩
 ·obtain⟨id,b,h1,h2,h3,h4⟩:=he7 hR hb hc;subst h4;obtain⟨q1,q2,q3,q4,q5,q6⟩:=ic6 (k:=k) (H:=H) (R:=R) (reG k j b);rw[q6,Cd3 hR hb] at hs;rw[q3,Wa5] at hd;obtain⟨k1,k2,k3,k4,k5⟩:=h.has id b h3 hs hd;simp only[h2];refine⟨k1,k2,k3,k4,?_⟩
  rcases k5 with⟨e,row,vs,t,m1,m2,m3,m4⟩|⟨t,K,El,fl,es,clk,m1,m2,m3,m4,m5,m6⟩
  ·refine .inl ⟨⟨by rw[q2,Ib7];exact e.1,by rw[q1,Lc0];exact e.2⟩,row.map (lf6 k H R),vs,t,?_,m2,by simpa using m3,λi z x' hz hx'=>?_⟩
   ·unfold fb9
    have:(G5 (reG k j b)&&Nat.beq (reG k j b).et 0)=true:=by rw[Cd3 hR hb,hs,Lc0,e.2];rfl
    rw[this];show o8 (o8 (lf6 k H R)) (reG k j b).elems=_;rw[db9,m1,o7];simp[o7]
   ·rw[Qeh] at hz;cases hq:row[i]? with
    |none=>rw[hq] at hz;cases hz
    |some q =>
     rw[hq] at hz;injection hz with hz;subst hz;obtain⟨g1,g2⟩:=m4 i q x' hq hx';exact⟨g1,(Ne4 hR hb (Kf7 q) g2).2⟩
  ·have hnb : fb9 k H R (reG k j b) = reG k j b := by
    unfold fb9
    have:(G5 (reG k j b)&&Nat.beq (reG k j b).et 0)=false:=by
     rw[Lc0,m1.2,Bool.and_eq_false_iff];exact .inr rfl
    rw[this]
   rw[hnb];exact .inr ⟨t,K,El,fl,es,clk,⟨by rw[Ib7];exact m1.1,by rw[Lc0];exact m1.2⟩,m2,m3,m4,by rw[db9];exact m5,by rw[db9];exact m6⟩
 ·obtain⟨id,b,h1,h2,h3,h4⟩:=he7 hR hb hc;obtain⟨id',b',h1',h2',h3',h4'⟩:=he7 hR hb hc';subst h4 h4';obtain⟨_,_,q3,_,_,q6⟩:=ic6 (k:=k) (H:=H) (R:=R) (reG k j b);obtain⟨_,_,q3',_,_,q6'⟩:=ic6 (k:=k) (H:=H) (R:=R) (reG k j' b');rw[q6,Cd3 hR hb] at hs;rw[q6',Cd3 hR hb] at hs';rw[q3,Wa5] at hd;rw[q3',Wa5] at hd';simp only[h2,h2'];refine h.apart id id' b b' h3 h3' hs hs' hd hd' λe=>hne ?_
  subst e;obtain⟨a1,a2⟩:=Qea.1 h1;obtain⟨b1,b2⟩:=Qea.1 h1';exact (List.getElem_inj hR.nodup).1 (a2.trans b2.symm)
end
theorem eg1{ds:List Deferred}(hR:TOk H0.length R)(hb:Wa4 H0.length H 0 R=some H2)(h:C2 P WB K J ρ0 H0 F0 w0 H ds w ρ F W' up):C2 P WB K J ρ0 H0 F0 w0 (o8 (fb9 H0.length H R) H2) ds w (λj=>ρ ((R[j]?).getD 0)) F W' up:=by
 have hAd:=Qc7 hR hb h.adv;have hat:∀(j:Nat) c,H2[j]?=some c->(o8 (fb9 H0.length H R) H2)[j]?=some (fb9 H0.length H R c):=λj c hc=>by rw[o7,Qeh,hc];rfl
 refine⟨h.sub,⟨hAd.ext,λid b hid=>?_,hAd.more,hAd.new,λid b' hb' hn=>?_⟩,?_,rf6 hR hb h.srel,h.kept,λj c hc hs hd=>?_,h.jot,h.marks⟩
 ·obtain⟨b',k1,k2,k3,k4⟩:=hAd.heap id b hid;obtain⟨q1,q2,q3,q4,q5,q6⟩:=ic6 (k:=H0.length) (H:=H) (R:=R) b';exact⟨_,hat id b' k1,q3.trans k2,by rw[q4];exact k3,λhg=>by rw[q2,q5];exact k4 (q4 ▸ hg)⟩
 ·rw[o7,Qeh] at hb';cases hq:H2[id]? with
  |none=>rw[hq] at hb';cases hb'
  |some c =>
   rw[hq] at hb';injection hb' with hb';subst hb';obtain⟨_,_,_,q4,_,_⟩:=ic6 (k:=H0.length) (H:=H) (R:=R) c;exact hAd.fresh id c hq λb hb1=>by rw[<- q4];exact hn b hb1
 ·refine (zc9 hR h.hrel (ic5 hb)).pull (λi=>i) (λi b hb1 hd=>?_) (λ_ _ _ _ _ _ _ _ e=>e)
  obtain⟨h1,h2⟩:=xa9 hb1 hd;rw[o7,Qeh] at h1;cases hq:H2[i]? with
  |none=>rw[hq] at h1;cases h1
  |some c =>
   rw[hq] at h1;injection h1 with h1;have hsc:G5 c=false:=by
    obtain⟨_,_,_,_,_,q6⟩:=ic6 (k:=H0.length) (H:=H) (R:=R) c;rw[<- q6,h1];exact h2
   rw[Zd4 hsc] at h1;subst h1;exact⟨ta6 hq hsc,rfl⟩
 ·obtain⟨id,b,h1,h2,h3,h4⟩:=he7 hR hb hc;subst h4;obtain⟨_,_,q3,_,_,q6⟩:=ic6 (k:=H0.length) (H:=H) (R:=R) (reG H0.length j b);rw[q6,Cd3 hR hb] at hs;rw[q3,Wa5] at hd;simp only[h2];exact h.far id b h3 hs hd
theorem I3.tidyM{s s':St}{ac:Act}{keep:List Nat}(h:I3 P WB K J n S rv DF ρ0 H0 F0 w0 s ac w)(he:(Ev.tidyM H0.length ⟨R9 keep s.a 0,s.H⟩).run=some s'):I3 P WB K J n S rv DF ρ0 H0 F0 w0 s' ac w:=by
 obtain⟨⟨ρ,F,W',up,hI⟩,hheld,hdf⟩:=h;unfold Ev.tidyM at he;cases ht:Pc2 H0.length s.H (R9 keep s.a 0) (List.range H0.length) with
 |mk a roots =>
 simp only[ht] at he;cases hb:Wa4 H0.length s.H 0 (Wd5 s.H roots roots) with
 |none=>simp[hb] at he
 |some H2 =>
 simp only[hb] at he;have he':some (⟨a,o8 (fb9 H0.length s.H (Wd5 s.H roots roots)) H2⟩:St)=some s':=he;injection he' with he';subst he';obtain⟨k1,_,k3,k4⟩:=zd3 (TOk.start _) ht;obtain⟨m1,m2⟩:=xe4 s.H roots roots k1;obtain⟨g1,g2⟩:=rc9 keep s.a 0;refine⟨⟨_,F,W',up,eg1 m1 hb hI.core,⟨(k3.trans g1).trans hI.vals.1,λi x x' hx hx'=>?_⟩,hI.size⟩,hheld,hdf⟩
 have hi:i<(R9 keep s.a 0).length:=k3 ▸ (Qea.1 hx).1;have hk:=k4 i _ x (Qed hi) hx;refine eg0 m1 hb (hk.le m2) ?_
 rcases g2 i _ (Qed hi) with e|e
 ·rw[e];exact .w (.unk _)
 ·exact hI.vals.2 i _ x' e hx'
end
section
variable{DS:Nat->Prop}{tm:Array Value}{ds:List Deferred}{Fe:Fence}{nn:Nat}
variable{W:Nat->Prop}{ρ0:Rho}{H0:List b8}{F0:Fz}{w0 w:World}
variable{tr:Nat}{E:Env}{ops:Array Oper}{M:List Nat}{ks:List (Nat×PI)}{s:St}{U T:Nat->St}
structure tc7(DS:Nat->Prop)(tm:Array Value)(ds:List Deferred)(W:Nat->Prop)(ρ0:Rho)(H0:List b8)(F0:Fz)(w0:World)(tr:Nat)(E:Env)(ops:Array Oper)(a0:List b7)(U T:Nat->St)(m:Nat)(listed:Array Bool)(ac:Act)(w:World):Prop where
 size:listed.size=ops.size
 closed:∀j,j<ops.size->xa8 listed j->∀i∈Ca9 (Sa1 ops j),xa8 listed i
 hm:m<=ops.size
 heavy:∀j,j<ops.size->M6 tr E.P ops j=2->(xa8 listed j↔j<m)
 inv:ic3 DS tm ds W ρ0 H0 F0 w0 ⟨eb0 (T ops.size).a a0 (R7 ops listed),ia1 (T m).H (N4 tr E.P ops U listed)⟩ ac w
variable(hD:DC tr E.P ops M ks)(hT:ge3 E ops ks s U T)(hin:∀j,j<ops.size->M6 tr E.P ops j=0->∀d,qa2 ops j=some d->d<s.a.length)
include hD
theorem cb8{m:Nat}{listed:Array Bool}{ac:Act}(hR:tc7 DS tm ds W ρ0 H0 F0 w0 tr E ops s.a U T m listed ac w){j:Nat}(hj:j<ops.size)(hd:∀i∈Ca9 (Sa1 ops j),xa8 listed i){i:Nat}(hi:i<ops.size)(hb:z7 M i j=true):xa8 listed i :=
 ld8 hD.rows (xa8 listed) (λj' o ho hx i hi=>by
  have hj':=(Qej.1 ho).1
  have:o=Sa1 ops j':=Qef (ho.symm.trans (Da0 hj'))
  subst this;exact hR.closed j' hj' hx i hi) j _ (Da0 hj) hd i hi hb
include hT
theorem Cd4 {m : Nat} {listed : Array Bool} {ac : Act} (hR : tc7 DS tm ds W ρ0 H0 F0 w0 tr E ops s.a U T m listed ac w) {j : Nat} (hj : j < ops.size) (hnx : ¬ xa8 listed j) (hd : ∀ i ∈ Ca9 (Sa1 ops j), xa8 listed i) :
  Agr (T j).a (eb0 (T ops.size).a s.a (R7 ops listed)) (Kc3 (Dc0 ops j)++Rb6 (Ka3 tr E.P ops j)):=λt ht=>by
 have huniq:∀{i i':Nat},i<ops.size->i'<ops.size->qa2 ops i=some t->qa2 ops i'=some t->i=i':=λ{i i'} h1 h2 e1 e2=>((hD.slots h1 h2 e1).2).resolve_right λh=>h e2
 have hend:(∀i,j<=i->i<ops.size->qa2 ops i≠some t)->(T j).a[t]?=(T ops.size).a[t]?:=λh=>by
  have:=Lc3 hD hT (t:=t) (ops.size-j) j (by omega) λi h1 h2 _=>h i h1 (by omega)
  rw[show j+(ops.size-j)=ops.size by omega] at this
  exact this.symm
 by_cases hw:∃i,i<ops.size/\qa2 ops i=some t
 ·obtain⟨i,hi,hdi⟩:=hw
  rcases (hD.slots hi hj hdi).1 ht with hb|⟨_,hna,hb⟩
  ·have hxi:=cb8 hD hR hj hd hi hb;rw[nb4]
   ·refine hend λk h1 h2 he=>?_
    have:=huniq hi h2 hdi he
    have:=ac8 hD hj hi hb
    omega
   ·rintro⟨k,h1,h2,h3⟩
    have:=huniq hi h1 hdi h2
    subst this;exact h3 hxi
  ·have hxi : ¬ xa8 listed i := fun hx => by
    rcases hb with hb|hb
    ·exact hnx (cb8 hD hR hi (hR.closed i hi hx) hj hb)
    ·subst hb;exact hnx hx
   have hji:j<=i:=by
    rcases hb with hb|hb
    ·have:=ac8 hD hi hj hb;omega
    ·omega
   have h1:=Lc3 hD hT (t:=t) j 0 (by omega) λk _ h2 _ he=>by
    have:=huniq hi (by omega) hdi he
    omega
   have h2:=ge6 hD hT (t:=t) ops.size 0 (by omega) λk _ h2 hk he=>by
    have:=huniq hi (by omega) hdi he
    subst this
    have:=Ad2 hk
    rw[hna] at this;cases this
   rw[Qex] at h1 h2;rw[h1,hT.t0,h2,hT.u0]
   rcases Qer t (T ops.size).a.length with hlt|hge
   ·rw[Rc2 ⟨i,hi,hdi,hxi⟩ hlt];rw[(sc5 hD hT ops.size (Qee _)).2] at hlt;rw[Qed hlt];rfl
   ·rw[Qep (by rw[<- (sc5 hD hT ops.size (Qee _)).2];exact hge),Qep (by rw[nb3];exact hge)]
 ·rw[nb4]
  ·exact hend λk _ h2 he=>hw ⟨k,h2,he⟩
  ·rintro⟨k,h1,h2,_⟩;exact hw ⟨k,h1,h2⟩
end
section
variable{DS:Nat->Prop}{tm:Array Value}{ds:List Deferred}{Fe:Fence}{nn:Nat}
variable{W:Nat->Prop}{ρ0:Rho}{H0:List b8}{F0:Fz}{w0 w:World}
variable{tr:Nat}{E:Env}{ops:Array Oper}{M:List Nat}{ks:List (Nat×PI)}{s:St}{U T:Nat->St}
variable(hD:DC tr E.P ops M ks)(hT:ge3 E ops ks s U T)(hin:∀j,j<ops.size->M6 tr E.P ops j=0->∀d,qa2 ops j=some d->d<s.a.length)
variable(hpairs:qb7 E (T ops.size).a (gb1 ops.size M ks)=true)
variable(hF:FW Fe)(hDS:∀j d,j<ops.size->qa2 ops j=some d->DS d)
variable(hG0:GOk E F0 w0)(hcalls:∀f,i5 E.P E.G f (E.call f))
include hD
theorem tc7.next {m m' : Nat} {listed : Array Bool} {ac ac' : Act} {w' : World} (hR : tc7 DS tm ds W ρ0 H0 F0 w0 tr E ops s.a U T m listed ac w) {i : Nat} (hi : i < ops.size) (hdi : ∀ j ∈ Ca9 (Sa1 ops i), xa8 listed j)
  (hm':m'<=ops.size) (hheavy:∀j,j<ops.size->M6 tr E.P ops j=2->(xa8 (listed.setIfInBounds i true) j↔j<m'))
  {x:b7} (hx:∀d,qa2 ops i=some d->d<(T ops.size).a.length->(T ops.size).a[d]?=some x)
  (hI:ic3 DS tm ds W ρ0 H0 F0 w0 ⟨putA (eb0 (T ops.size).a s.a (R7 ops listed)) (qa2 ops i) x,ia1 (T m').H (N4 tr E.P ops U (listed.setIfInBounds i true))⟩ ac' w') :
  tc7 DS tm ds W ρ0 H0 F0 w0 tr E ops s.a U T m' (listed.setIfInBounds i true) ac' w':=by
 refine⟨by simpa using hR.size,λj hj hx k hk=>?_,hm',hheavy,by rw[Yd6 hD hR.size hi hx];exact hI⟩
 have his:i<listed.size:=by rw[hR.size];exact hi
 rcases (Ma9 his).1 hx with h|h
 ·exact (Ma9 his).2 (.inl (hR.closed j hj h k hk))
 ·subst h;exact (Ma9 his).2 (.inl (hdi k hk))
omit hD in
theorem ic3.puts{ac:Act}{j:Nat}(hDS:∀j d,j<ops.size->qa2 ops j=some d->DS d)(hj:j<ops.size)(hsm:∀t,¬ DS t->ac.tmps[t]?=tm[t]?)(v:Value)(t:Nat)(ht:¬ DS t):(ac.put (qa2 ops j) v).tmps[t]?=tm[t]?:=(Sc3 λe=>ht (hDS j t hj e)).trans (hsm t ht)
include hG0 hcalls hF hDS in
theorem cd3 {ac : Act} {i : Nat} {a : List b7} {H H' : List b8} {b : Bool} {x : b7} {Q : Exit → Act → World → Prop} {K : Act → World → Prop} (hi : i < ops.size)
  (hI:ic3 DS tm ds W ρ0 H0 F0 w0 ⟨a,H⟩ ac w) (hg:bd5 E a (Dc0 ops i)=some b)
  (h1:b=true->(evalOp E a H (Ka3 tr E.P ops i)).run=some (x,H')) (h2:b=false->x=.v (.tuple #[])/\H'=H)
  (hK:∀ac' w',ic3 DS tm ds W ρ0 H0 F0 w0 ⟨putA a (qa2 ops i) x,H'⟩ ac' w'->K ac' w'):wpOpIn Fe nn E.P ops Q i K ac w:=by
 obtain⟨hd,hsz,hsm,ρ,F,hAdv,hH,hA⟩:=hI;have hw:=ve1 (hD.guard i hi) hA hg;unfold wpOpIn;simp only[Da0 hi,hw];cases b with
 |true =>
  rw[if_pos rfl];refine (df4 (ac:={ ac with defers:=[] }) tr hA hH (hG0.adv hAdv) hcalls (h1 rfl)).inAny hF nn _ _ λx' w' hp=>?_
  obtain⟨ρ',F',a1,a2,a3⟩:=hp;exact hK _ _ ⟨(D7 _ _).trans hd,(Aa7 _ _).trans hsz,ic3.puts hDS hi hsm _,ρ',F',hAdv.trans a1,a2,(hA.adv a1).putA _ a3⟩
 |false =>
  rw[if_neg (by simp)]
  obtain⟨e1,e2⟩:=h2 rfl;subst e1 e2;exact⟨λf _=>hF.fn f,hK _ _ ⟨(D7 _ _).trans hd,(Aa7 _ _).trans hsz,ic3.puts hDS hi hsm _,ρ,F,hAdv,hH,hA.putA _ (.ofv _)⟩⟩
include hT hin hpairs hG0 hcalls hF hDS
theorem xe5 {m : Nat} {listed : Array Bool} {ac : Act} (hR : tc7 DS tm ds W ρ0 H0 F0 w0 tr E ops s.a U T m listed ac w) {i : Nat} (hi : i < ops.size) (hk : M6 tr E.P ops i = 1) (hnx : ¬ xa8 listed i) (hdi : ∀ j ∈ Ca9 (Sa1 ops i), xa8 listed j)
  {Q:Exit->Act->World->Prop} {K:Act->World->Prop} (hK:∀ac' w',tc7 DS tm ds W ρ0 H0 F0 w0 tr E ops s.a U T m (listed.setIfInBounds i true) ac' w'->K ac' w'):wpOpIn Fe nn E.P ops Q i K ac w:=by
 obtain⟨b,x,g1,g2,g3,g4⟩:=wd1 hD hT hi hk;have hread:=Cd4 hD hT hR hi hnx hdi;have hne:M6 tr E.P ops i≠0:=by omega
 refine cd3 hD hF hDS hG0 hcalls (H':=ia1 (T m).H (N4 tr E.P ops U listed)) hi hR.inv ((Lc2 hread.left).symm.trans g1) (λhb=>?_) (λhb=>⟨g4 hb,rfl⟩) λac' w' hI'=>hK ac' w' ?_
 ·have he:=g3 hb;rw[Qc8 _ hread.right] at he;refine (Qc9 (ve2 hk) he).2 _ λid hid=>?_
  -- the block that is looked at stands in the heap at hand
  have hlive:∃b',(ia1 (T m).H (N4 tr E.P ops U listed))[id]?=some b'/\b'.dead=false:=by
   obtain⟨hd0,_,_,ρ,F,hAdv,hH,hA⟩:=hR.inv;have harg:∀(y:Arg),vd6 y=true->id∈ua5 (d7 E (eb0 (T ops.size).a s.a (R7 ops listed)) y)->∃b',(ia1 (T m).H (N4 tr E.P ops U listed))[id]?=some b'/\b'.dead=false:=λy hy hm=>by
    cases y with
    |c z =>
     exfalso;have hm':id∈ua5 z:=hm;cases z<;>first | (cases hm';done) | (cases hy;done)
    |g n =>
     exfalso;have hm':id∈ua5 (.tptr (o8 .v (E.G n))):=hm;cases hm'
    |t n =>
     rw[Db5] at hm;cases hn:(eb0 (T ops.size).a s.a (R7 ops listed))[n]? with
     |none=>rw[hn] at hm;cases hm
     |some u =>
     rw[hn] at hm;simp only[Option.getD_some] at hm;have hlt:n<ac.tmps.size:=hA.1 ▸ (Qea.1 hn).1;have hW:=hA.2 n u _ hn (Qei hlt);cases u with
     |ptr id' i c g =>
      have:id=id':=by simpa [ua5] using hm
      subst this;obtain⟨_,b',_,h1,h2,_⟩:=gb2 hW;exact⟨b',h1,h2⟩
     |sl id' off n g =>
      have:id=id':=by simpa [ua5] using hm
      subst this;obtain⟨_,_,b',_,h1,h2,_⟩:=cb7 hW;exact⟨b',h1,h2⟩
     |_=>cases hm
   have hbare:=hD.bare hi
   revert hbare hid
   generalize Ka3 tr E.P ops i=q;intro hid hbare;cases q with
   |load ks n agg y=>exact harg y hbare hid
   |idxS es y z=>exact harg y hbare hid
   |slice es y lo hi=>exact harg y hbare hid
   |_=>cases hid
  obtain⟨b',hb1,hb2⟩:=hlive;obtain⟨hnD,hb3⟩:=Le4 hb1 hb2;have huse:id∈cb6 E (T ops.size).a (Ka3 tr E.P ops i):=by
   rw[<- nf5 hD hT hi,Rc8 hread.right];exact hid
  -- nobody between touches it
  have hbetween:∀j,j<ops.size->M6 tr E.P ops j=2->z7 M i j=false->z7 M j i=false->id∉W5 E (T ops.size).a (Ka3 tr E.P ops j):=λj hj hkj h1 h2 =>
   Ad3 hpairs (hD.pair hj hi hk hkj h2 h1) id huse
  have hlike:V1 (T i).H (T m).H id:=by
   rcases Qer i m with him|him
   ·have := Me2 hD hT hin (id := id) (m - i) i (by have := hR.hm; omega) fun j h1 h2 hkj => by
     have hj:j<ops.size:=by have:=hR.hm;omega
     have hxj:=(hR.heavy j hj hkj).2 (by omega)
     refine hbetween j hj hkj ?_ ?_
     ·cases hc:z7 M i j with
      |false=>rfl
      |true=>exact absurd (cb8 hD hR hj (hR.closed j hj hxj) hi hc) hnx
     ·cases hc:z7 M j i with
      |false=>rfl
      |true=>have:=ac8 hD hi hj hc;omega
    rwa [show i+(m-i)=m by omega] at this
   ·have := Me2 hD hT hin (id := id) (i - m) m (by omega) fun j h1 h2 hkj => by
     have hj:j<ops.size:=by omega
     have hxj:¬ xa8 listed j:=λh=>by have:=(hR.heavy j hj hkj).1 h;omega
     refine hbetween j hj hkj ?_ ?_
     ·cases hc:z7 M i j with
      |false=>rfl
      |true=>have:=ac8 hD hj hi hc;omega
     ·cases hc:z7 M j i with
      |false=>rfl
      |true=>exact absurd (cb8 hD hR hi hdi hj hc) hxj
    rw[show m+(i-m)=i by omega] at this
    intro b0 hb0;obtain⟨b2,h3,h4⟩:=this b' hb3
    have:b2=b0:=Qef (h3.symm.trans hb0)
    subst this;exact⟨b',hb3,h4.1.symm,h4.2.1.symm,h4.2.2.1.symm,h4.2.2.2.1.symm,h4.2.2.2.2.symm⟩
  refine hlike.trans λb0 hb0=>⟨b0,?_,.refl b0⟩
  rw[V4 hnD];exact hb0
 ·refine tc7.next hD hR hi hdi hR.hm (λj hj hkj=>?_) (x:=x) (λd hd hlt=>?_) ?_
  ·rw[Ma9 (hR.size ▸ hi)];rw[<- hR.heavy j hj hkj];exact⟨λh=>h.resolve_right λe=>by subst e;omega,.inl⟩
  ·rw[Wf1 hD hT hi hd,g2,hd];refine wd0 ?_;rw[(sc5 hD hT i (by omega)).2,<- (sc5 hD hT ops.size (Qee _)).2]
   exact hlt
  ·rw[Yd7 hR.size hi hne];exact hI'
omit hpairs in
theorem xe6 {m : Nat} {listed : Array Bool} {ac : Act} (hR : tc7 DS tm ds W ρ0 H0 F0 w0 tr E ops s.a U T m listed ac w) {i : Nat} (hi : i < ops.size) (hk : M6 tr E.P ops i = 2) (hnx : ¬ xa8 listed i) (hdi : ∀ j ∈ Ca9 (Sa1 ops i), xa8 listed j)
  {Q:Exit->Act->World->Prop} {K:Act->World->Prop} (hK:∀ac' w',tc7 DS tm ds W ρ0 H0 F0 w0 tr E ops s.a U T (i+1) (listed.setIfInBounds i true) ac' w'->K ac' w'):wpOpIn Fe nn E.P ops Q i K ac w:=by
 obtain⟨b,x,g1,g2,g3,g4⟩:=ge9 hD hT hin hi hk;have hread:=Cd4 hD hT hR hi hnx hdi;have hne:M6 tr E.P ops i≠0:=by omega
 have hmi:m<=i:=by
  rcases Qer i m with h|h
  ·exact absurd ((hR.heavy i hi hk).2 h) hnx
  ·exact h
 have hno:∀j,m<=j->j<i->M6 tr E.P ops j≠2:=λj h1 h2 hkj=>by
  have hj:j<ops.size:=by omega
  have:=(hR.heavy j hj hkj).1 (cb8 hD hR hi hdi hj (hD.chain h2 hi hkj hk).1)
  omega
 have hsame:(T m).H=(T i).H:=by
  have:=Me1 hD hT (i-m) m (by omega) λj h1 h2=>hno j h1 (by omega)
  rw[show m+(i-m)=i by omega] at this
  exact this.symm
 have hfin:∀{H':List b8} {ac':Act} {w':World},H'=ia1 (T (i+1)).H (N4 tr E.P ops U listed)->ic3 DS tm ds W ρ0 H0 F0 w0 ⟨putA (eb0 (T ops.size).a s.a (R7 ops listed)) (qa2 ops i) x,H'⟩ ac' w'->K ac' w':=λ{H' ac' w'} e hI'=>by
  refine hK ac' w' (tc7.next hD hR hi hdi (by omega) (λj hj hkj=>?_) (x:=x) (λd hd hlt=>?_) ?_)
  ·rw[Ma9 (hR.size ▸ hi)];constructor
   ·rintro (h|h)
    ·have:=(hR.heavy j hj hkj).1 h;omega
    ·omega
   ·intro h;by_cases e:j=i
    ·exact .inr e
    ·refine .inl ((hR.heavy j hj hkj).2 ?_)
     rcases Qer j m with h'|h'
     ·exact h'
     ·exact absurd hkj (hno j h' (by omega))
  ·rw[Wf1 hD hT hi hd,g2,hd];refine wd0 ?_;rw[(sc5 hD hT i (by omega)).2,<- (sc5 hD hT ops.size (Qee _)).2]
   exact hlt
  ·rw[Yd7 hR.size hi hne,<- e];exact hI'
 cases b with
 |false =>
  obtain⟨h1,h2⟩:=g4 rfl;exact cd3 hD hF hDS hG0 hcalls (x:=x) (H':=ia1 (T m).H (N4 tr E.P ops U listed)) hi hR.inv ((Lc2 hread.left).symm.trans g1) (λh=>by cases h) (λ_=>⟨h1,rfl⟩) λac' w' hI'=>hfin (by rw[h2,hsame]) hI'
 |true =>
  obtain⟨hid,H',h5,h6,h7⟩:=g3 rfl;rw[Qc8 _ hread.right] at h6;have hall:∀id∈hid,id<(T i).H.length:=λid hid'=>by
   obtain⟨b',k1,k2,k3,rfl⟩:=(h5 id).1 hid';exact nf6 hD hT hin hi hk k1 k2 k3
  have hsub:∀id,N4 tr E.P ops U listed id->id∈hid:=λid ⟨b',k1,k2,k3,k4⟩=>by
   refine (h5 id).2 ⟨b',k1,k2,?_,k4⟩;cases hc:z7 M b' i with
   |false=>rfl
   |true=>exact absurd (cb8 hD hR hi hdi k1 hc) k3
  have hMono:K5 (·∈hid) (ia1 (T i).H (·∈hid)) (ia1 (T i).H (N4 tr E.P ops U listed)) (ia1 (T i).H (·∈hid)) (ia1 (T i).H (N4 tr E.P ops U listed)):=by
   refine⟨by rw[Gb9,Gb9],λid hn=>?_,λid b hm hb=>?_,λ_ _=>rfl,λ_ _=>rfl,λid h=>by rw[Gb9];exact hall id h⟩
   ·rw[V4 (D:=(·∈hid)) hn,V4 λh=>hn (hsub id h)]
   ·rw[Aa6 (D:=(·∈hid)) hm] at hb;simp only[Qen] at hb;obtain⟨c,_,rfl⟩:=hb;rfl
  obtain⟨H2',h8,h9⟩:=hMono.evalOp (Rc4 hk) h6;refine cd3 hD hF hDS hG0 hcalls (x:=x) (H':=H2') hi hR.inv ((Lc2 hread.left).symm.trans g1) (λ_=>by rw[hsame];exact h8) (λh=>by cases h) λac' w' hI'=>hfin ?_ hI'
  refine List.ext_getElem? λid=>?_
  rw[h7];by_cases hm:id∈hid
  ·rw[h9.at2 id hm];have hr:=bd4 (H0:=(T i).H) (H:=H') hm (hall id hm) (h9.bound id hm);by_cases hd:N4 tr E.P ops U listed id
   ·rw[Aa6 hd,Aa6 hd,hr]
   ·rw[V4 hd,V4 hd,hr]
  ·rw[<- h9.same id hm,V4 λh=>hm (hsub id h),zd8 hm]
end
section
variable{DS:Nat->Prop}{tm:Array Value}{ds:List Deferred}{Fe:Fence}{nn:Nat}
variable{W:Nat->Prop}{ρ0:Rho}{H0:List b8}{F0:Fz}{w0 w:World}
variable{tr:Nat}{E:Env}{ops:Array Oper}{M:List Nat}{ks:List (Nat×PI)}{s:St}{U T:Nat->St}
variable(hD:DC tr E.P ops M ks)(hT:ge3 E ops ks s U T)(hin:∀j,j<ops.size->M6 tr E.P ops j=0->∀d,qa2 ops j=some d->d<s.a.length)(hlen:H0.length<=s.H.length)
variable(hF:FW Fe)(hDS:∀j d,j<ops.size->qa2 ops j=some d->DS d)
include hD hT hin hlen
include hF hDS in
theorem xe7 {m : Nat} {listed : Array Bool} {ac : Act} (hR : tc7 DS tm ds W ρ0 H0 F0 w0 tr E ops s.a U T m listed ac w) {i : Nat} (hi : i < ops.size) (hk : M6 tr E.P ops i = 0) (hnx : ¬ xa8 listed i) (hdi : ∀ j ∈ Ca9 (Sa1 ops i), xa8 listed j)
  {Q:Exit->Act->World->Prop} {K:Act->World->Prop} (hK:∀ac' w',tc7 DS tm ds W ρ0 H0 F0 w0 tr E ops s.a U T m (listed.setIfInBounds i true) ac' w'->K ac' w'):wpOpIn Fe nn E.P ops Q i K ac w:=by
 obtain⟨t,z,d,ho,hgn,hz,hd,hU⟩:=Sb0 hD hT hi hk;obtain⟨hd0,hsz,hsm,ρ,F,hAdv,hH,hA⟩:=hR.inv
 simp only at hAdv hH hA
 generalize hHS:ia1 (T m).H (N4 tr E.P ops U listed)=HS at hAdv hH hA;have hHSlen:HS.length=(T m).H.length:=by rw[<- hHS,Gb9]
 have his:i<listed.size:=by rw[hR.size];exact hi
 -- the block stands in the text's heap,asq it was made
 have hblk:(T m).H[(U i).H.length]?=some (ab1 z):=by
  have h1:=he0 hD hT hin hi hk m hR.hm λh h1 h2=>by
   cases hc:z7 M i h with
   |false=>rfl
   |true =>
    have hh:h<ops.size:=by have:=hR.hm;omega
    exact absurd (cb8 hD hR hh (hR.closed h hh ((hR.heavy h hh h2).2 h1)) hi hc) hnx
  obtain⟨t',z',h2,h3,h4⟩:=Me0 hD hT hi hk
  have:t'=t:=by rw[ho] at h2;injection h2 with h2;exact h2.symm
  subst this
  have:z'=z:=Qef (h3.symm.trans hz)
  subst this;rw[h1,h4]
 have hidlt:(U i).H.length<HS.length:=by rw[hHSlen];exact (Qea.1 hblk).1
 have hidge:s.H.length<=(U i).H.length:=(Le9 hD hT (by omega)).1
 have hdead:N4 tr E.P ops U listed (U i).H.length:=⟨i,hi,hk,hnx,rfl⟩;have hinj:∀b,b<ops.size->M6 tr E.P ops b=0->(U i).H.length=(U b).H.length->b=i:=λb hb hkb he=>by
  rcases Nat.lt_trichotomy b i with h|h|h
  ·have:=mg2 hD hT h (by omega) hkb;omega
  ·exact h
  ·have:=mg2 hD hT h (by omega) hk;omega
 have hdead':∀id,N4 tr E.P ops U (listed.setIfInBounds i true) id↔N4 tr E.P ops U listed id/\id≠(U i).H.length:=λid=>by
  constructor
  ·rintro⟨b,h1,h2,h3,h4⟩;refine⟨⟨b,h1,h2,λh=>h3 ((Ma9 his).2 (.inl h)),h4⟩,λe=>h3 ((Ma9 his).2 (.inr ?_))⟩
   exact hinj b h1 h2 (e.symm.trans h4)
  ·rintro⟨⟨b,h1,h2,h3,h4⟩,h5⟩;refine⟨b,h1,h2,λh=>?_,h4⟩
   rcases (Ma9 his).1 h with h|h
   ·exact h3 h
   ·subst h;exact h5 h4
 generalize hHS':ia1 (T m).H (N4 tr E.P ops U (listed.setIfInBounds i true))=HS';have hoff:∀id,id≠(U i).H.length->HS'[id]?=HS[id]?:=λid hne=>by
  rw[<- hHS',<- hHS];by_cases h:N4 tr E.P ops U listed id
  ·rw[Aa6 h,Aa6 ((hdead' id).2 ⟨h,hne⟩)]
  ·rw[V4 h,V4 λh'=>h ((hdead' id).1 h').1]
 have hon:HS'[(U i).H.length]?=some (ab1 z):=by
  rw[<- hHS',V4 λh'=>((hdead' _).1 h').2 rfl]
  exact hblk
 have hHSdead:∀b,HS[(U i).H.length]?=some b->b.dead=true:=λb hb=>by
  rw[<- hHS,Aa6 hdead] at hb;simp only[Qen] at hb;obtain⟨c,_,rfl⟩:=hb;rfl
 -- the operation
 have hev:(evalOp E (eb0 (T ops.size).a s.a (R7 ops listed)) HS (.alloc z)).run=some (.ptr HS.length 0 0 0,HS++[ab1 z]):=by
  simp only[evalOp,DT.run_ret,o3,Ca7,J0,ab1]
 unfold wpOpIn;have hw:Region.wanted (Sa1 ops i) (yielded ops ac.tmps)=true:=by simp[Region.wanted,hgn]
 simp only[Da0 hi,hw];rw[if_pos trivial];refine (ld3 (ac:={ ac with defers:=[] }) hH ho hz hev).inAny hF nn _ _ (λx' w' hp=>hK _ _ (tc7.next hD hR hi hdi hR.hm (λj hj hkj=>?_) (x:=.ptr (U i).H.length 0 0 0) (λd' hd' hlt=>?_) ?_))
 ·rw[Ma9 his,<- hR.heavy j hj hkj];exact⟨λh=>h.resolve_right λe=>by subst e;omega,.inl⟩
 ·refine ge7 hD hT hi hk hd' ?_ (Qee _);rw[<- (sc5 hD hT ops.size (Qee _)).2];exact hlt
 ·obtain⟨ρ',F',a1,a2,a3⟩:=hp;rw[hHS'];have hadv:=hAdv.trans a1
  let ρ2:Rho:=λid=>if id=(U i).H.length then ρ' HS.length else ρ' id
  have hρ2:∀id,id≠(U i).H.length->ρ2 id=ρ' id:=λid h=>if_neg h
  have hρ2':ρ2 (U i).H.length=ρ' HS.length:=if_pos rfl;have hold:∀id b,HS'[id]?=some b->id≠(U i).H.length->(HS++[ab1 z])[id]?=some b:=λid b hb hne=>by
   rw[hoff id hne] at hb;rw[Qeg (Qea.1 hb).1];exact hb
  have hN:(HS++[ab1 z])[HS.length]?=some (ab1 z):=by simp
  refine⟨(D7 _ _).trans hd0,(Aa7 _ _).trans hsz,ic3.puts hDS hi hsm _,ρ2,F',⟨hadv.ext,λid b hb=>?_,hadv.more,hadv.new,λid b' hb' hn=>?_⟩,?_,?_⟩
  ·have hidH:id<s.H.length:=by have:=(Qea.1 hb).1;omega
   have hne:id≠(U i).H.length:=by omega
   obtain⟨b',h1,h2⟩:=hadv.heap id b hb;rw[Qeg (by omega)] at h1
   refine⟨b',by rw[hoff id hne];exact h1,?_⟩
   rw[hρ2 id hne];exact h2
  ·by_cases he:id=(U i).H.length
   ·subst he;rw[hρ2'];exact hadv.fresh HS.length _ hN λb hb=>by have:=(Qea.1 hb).1;omega
   ·rw[hρ2 id he];exact hadv.fresh id b' (hold id b' hb' he) hn
  ·refine a2.pull (λid=>if id=(U i).H.length then HS.length else id) (λid b hb hdd=>?_) λid id' b b' hb hdd hb' hdd' he=>?_
   ·by_cases e:id=(U i).H.length
    ·subst e;simp only[if_true]
     have:b=ab1 z:=Qef (hb.symm.trans hon)
     subst this;exact⟨hN,hρ2'⟩
    ·simp only[if_neg e];exact⟨hold id b hb e,hρ2 id e⟩
   ·have hlt : ∀ id b, HS'[id]? = some b → id ≠ (U i).H.length → id < HS.length := fun id b hb hne => by
     rw[hoff id hne] at hb;exact (Qea.1 hb).1
    by_cases e:id=(U i).H.length
    ·by_cases e':id'=(U i).H.length
     ·rw[e,e']
     ·simp only[if_pos e,if_neg e'] at he
      have:=hlt id' b' hb' e'
      omega
    ·by_cases e':id'=(U i).H.length
     ·simp only[if_neg e,if_pos e'] at he
      have:=hlt id b hb e
      omega
     ·simpa only[if_neg e,if_neg e'] using he
  ·have hA2 : Ca8 ρ2 HS' F' w' (eb0 (T ops.size).a s.a (R7 ops listed)) ac.tmps := by
    refine hA.carry (λid b hb hdd=>?_) a1.more a1.ext.cells
    have hne:id≠(U i).H.length:=λe=>by
     subst e;rw[hHSdead b hb] at hdd;cases hdd
    obtain⟨b',h1,h2,h3,h4⟩:=a1.heap id b hb;rw[Qeg (Qea.1 hb).1] at h1;refine⟨b',by rw[hoff id hne];exact h1,h2.trans hdd,h3,λhg=>?_⟩
    rw[hρ2 id hne];exact h4 hg
   have hW:E8 ρ2 HS' F' w' (.ptr (U i).H.length 0 0 0) x':=by
    obtain⟨ad,b,e,h1,h2,h3,h4⟩:=gb2 a3
    have:b=ab1 z:=Qef (h1.symm.trans hN)
    subst this;rw[e];refine .val (.cell (.ptr _ 0 0 0 ad _ hon rfl (Qee _) λ_=>?_))
    rw[hρ2'];exact h4 rfl
   exact hA2.putA (qa2 ops i) hW
omit hin in
theorem xe8 {ac : Act} (hI : ic3 DS tm ds W ρ0 H0 F0 w0 s ac w) :
  tc7 DS tm ds W ρ0 H0 F0 w0 tr E ops s.a U T 0 (Array.replicate ops.size false) ac { w with drawn:=w.drawn+1 }:=by
 have hnx:∀j,j<ops.size->¬ xa8 (Array.replicate ops.size false) j:=λj hj h=>by
  unfold xa8 at h;simp[Array.getD,hj] at h
 obtain⟨hd0,hsz,hsm,ρ,F,hAdv,hH,hA⟩:=hI;have hdead:∀id,N4 tr E.P ops U (Array.replicate ops.size false) id->s.H.length<=id:=λid ⟨b,h1,_,_,h4⟩=>by
  have:=(Le9 hD hT (j:=b) (by omega)).1
  omega
 have hlow:∀id,id<s.H.length->(ia1 (T 0).H (N4 tr E.P ops U (Array.replicate ops.size false)))[id]?=s.H[id]?:=λid hid=>by
  rw[V4 λh=>by have:=hdead id h;omega,hT.t0]
  exact (Le9 hD hT (Qee _)).2 id hid
 have hhigh:∀id b,(ia1 (T 0).H (N4 tr E.P ops U (Array.replicate ops.size false)))[id]?=some b->s.H.length<=id->b.dead=true:=λid b hb hge=>by
  have hlt:id<(T 0).H.length:=by
   have:=(Qea.1 hb).1
   rwa [Gb9] at this
  rw[hT.t0] at hlt;obtain⟨j,h1,h2,h3⟩:=nf4 hD hT ops.size (Qee _) id hge hlt;rw[Aa6 (show N4 tr E.P ops U (Array.replicate ops.size false) id from ⟨j,h1,h2,hnx j h1,h3⟩)] at hb
  simp only[Qen] at hb;obtain⟨c,_,rfl⟩:=hb;rfl
 have hH':B4 W ρ s.H F { w with drawn:=w.drawn+1 }:=hH.same rfl
 have hAdv':Adv W ρ0 H0 F0 w0 ρ s.H F { w with drawn:=w.drawn+1 }:=hAdv.trans (.same rfl rfl rfl rfl (Nat.le_succ _))
 let ρ1:Rho:=λid=>if id<s.H.length then ρ id else ⟨w.heap.size,0,0⟩
 have hρ1:∀id,id<s.H.length->ρ1 id=ρ id:=λid h=>if_pos h
 have hlive:∀id b,(ia1 (T 0).H (N4 tr E.P ops U (Array.replicate ops.size false)))[id]?=some b->b.dead=false->id<s.H.length:=λid b hb hd=>by
  rcases Qer id s.H.length with h|h
  ·exact h
  ·rw[hhigh id b hb h] at hd;cases hd
 refine⟨by simp,λj hj hx=>absurd hx (hnx j hj),Nat.zero_le _,λj hj _=>⟨λh=>absurd h (hnx j hj),λh=>by omega⟩,hd0,hsz,hsm,ρ1,F,⟨hAdv'.ext,λid b hb=>?_,hAdv'.more,hAdv'.new,λid b hb hn=>?_⟩,?_,?_⟩
 ·have hid:id<s.H.length:=by have:=(Qea.1 hb).1;omega
  obtain⟨b',h1,h2⟩:=hAdv'.heap id b hb;refine⟨b',(hlow id hid).trans h1,?_⟩;rw[hρ1 id hid];exact h2
 ·simp only at hb
  by_cases hid:id<s.H.length
  ·rw[hlow id hid] at hb;rw[hρ1 id hid];exact hAdv'.fresh id b hb hn
  ·show W (if id<s.H.length then ρ id else ⟨w.heap.size,0,0⟩).blk
   rw[if_neg hid];exact hH.new _ (Qee _)
 ·refine hH'.pull (λid=>id) (λid b hb hd=>?_) λ_ _ _ _ _ _ _ _ h=>h
  have hid:=hlive id b hb hd;rw[<- hlow id hid];exact⟨hb,hρ1 id hid⟩
 ·have hcarry : Yd5 ρ s.H ρ1 (ia1 (T 0).H (N4 tr E.P ops U (Array.replicate ops.size false))) := fun id b hb hd => by
   have hid:=(Qea.1 hb).1;exact⟨b,(hlow id hid).trans hb,hd,Qee _,λ_=>⟨hρ1 id hid,rfl,Qee _⟩⟩
  refine⟨by rw[nb3,(sc5 hD hT ops.size (Qee _)).2];exact hA.1,λt x x' hx hx'=>?_⟩
  simp only at hx
  by_cases ht:R7 ops (Array.replicate ops.size false) t
  ·have hlt : t < (T ops.size).a.length := by
    have:=(Qea.1 hx).1
    rwa [nb3] at this
   rw[Rc2 ht hlt] at hx;injection hx with hx;rw[(sc5 hD hT ops.size (Qee _)).2] at hlt;rw[Qed hlt,Option.getD_some] at hx;exact E8.carry (w:=w) (w':={ w with drawn:=w.drawn+1 }) hcarry (λ_ _ h=>h) (λ_ _ _=>rfl) (hA.2 t x x' (by rw[<- hx];exact Qed hlt) hx')
  ·rw[nb4 ht] at hx;have hno:∀j,j<ops.size->qa2 ops j≠some t:=λj hj he=>ht ⟨j,hj,he,hnx j hj⟩
   have h1:=Lc3 hD hT (t:=t) ops.size 0 (by omega) λj _ h2 _=>hno j (by omega)
   have h2:=ge6 hD hT (t:=t) ops.size 0 (by omega) λj _ h2 _=>hno j (by omega)
   rw[Qex] at h1 h2;rw[h1,hT.t0,h2,hT.u0] at hx;exact E8.carry (w:=w) (w':={ w with drawn:=w.drawn+1 }) hcarry (λ_ _ h=>h) (λ_ _ _=>rfl) (hA.2 t x x' hx hx')
omit hin hlen in
theorem Zd6{m:Nat}{listed:Array Bool}{ac:Act}(hR:tc7 DS tm ds W ρ0 H0 F0 w0 tr E ops s.a U T m listed ac w)(hall:∀j,j<ops.size->xa8 listed j):ic3 DS tm ds W ρ0 H0 F0 w0 (T ops.size) ac w:=by
 have h1:eb0 (T ops.size).a s.a (R7 ops listed)=(T ops.size).a:=Le5 λt ⟨j,h1,_,h3⟩=>h3 (hall j h1)
 have h2:ia1 (T m).H (N4 tr E.P ops U listed)=(T ops.size).H:=by
  rw[Le6 λid ⟨b,h1,_,h3,_⟩=>h3 (hall b h1)]
  have:=Me1 hD hT (ops.size-m) m (by have:=hR.hm;omega) λj h3 h4 hk=>by
   have hj:j<ops.size:=by have:=hR.hm;omega
   have:=(hR.heavy j hj hk).1 (hall j hj)
   omega
  rw[show m+(ops.size-m)=ops.size by have:=hR.hm;omega] at this
  exact this.symm
 have h3:=hR.inv;rw[h1,h2] at h3;exact h3
variable(hpairs:qb7 E (T ops.size).a (gb1 ops.size M ks)=true)(hG0:GOk E F0 w0)(hcalls:∀f,i5 E.P E.G f (E.call f))
include hpairs hG0 hcalls hF hDS
theorem Ac6{Q:Exit->Act->World->Prop}(hQ:∀ac' w',ic3 DS tm ds W ρ0 H0 F0 w0 (T ops.size) ac' w'->Q .normal ac' w'):∀(fuel m:Nat) (listed:Array Bool) (ac:Act) (w:World),tc7 DS tm ds W ρ0 H0 F0 w0 tr E ops s.a U T m listed ac w->Hb0 listed<=fuel->wpAnyIn Fe nn E.P .any ops Q fuel listed ac w
 |0,m,listed,ac,w,hR,hc=>by
  have hall:∀j,xa8 listed j:=Ad7 (by omega)
  refine⟨?_,hQ _ _ (Zd6 hD hT hR λj _=>hall j)⟩
  rw[List.eq_nil_iff_forall_not_mem];intro i hi;exact (Ad6 hi).2.1 (hall i)
 |fuel+1,m,listed,ac,w,hR,hc=>by
  refine⟨λh=>hQ _ _ (Zd6 hD hT hR (df8 hD hR.size h)),λi hi=>?_⟩
  obtain⟨h1,h2,h3⟩:=Ad6 hi;have hdi:∀j∈Ca9 (Sa1 ops i),xa8 listed j:=λj hj=>h3 hR.size j hj (by have:=Rc3 hD.rows (Da0 h1) hj;omega)
  have hcount:Hb0 (listed.setIfInBounds i true)<=fuel:=by
   have his:i<listed.size:=by rw[hR.size];exact h1
   have hf:listed.toList[i]?=some false:=by
    have:listed.getD i true=false:=by unfold xa8 at h2;simpa using h2
    simp only[Array.getD,his,dite_true] at this;rw[Qed (by simpa using his)]
    congr 1
   have:=Fc8 listed.toList i hf
   unfold Hb0 at hc ⊢;rw[Array.toList_setIfInBounds];omega
  rcases sc4 (tr:=tr) (P:=E.P) (ops:=ops) i with hk|hk|hk
  ·exact xe7 hD hT hin hlen hF hDS hR h1 hk h2 hdi λac' w' hR'=>Ac6 hQ fuel m _ ac' w' hR' hcount
  ·exact xe5 hD hT hin hpairs hF hDS hG0 hcalls hR h1 hk h2 hdi λac' w' hR'=>Ac6 hQ fuel m _ ac' w' hR' hcount
  ·exact xe6 hD hT hin hF hDS hG0 hcalls hR h1 hk h2 hdi λac' w' hR'=>Ac6 hQ fuel (i+1) _ ac' w' hR' hcount
end
section
variable{DS:Nat->Prop}{tm:Array Value}{ds:List Deferred}{Fe:Fence}{nn:Nat}{E:Env}
theorem Ve6 (hF : FW Fe) (hm : E.P.follows .mixedOrders = true) (hcalls : ∀ f, i5 E.P E.G f (E.call f)) {W : Nat → Prop} {ρ0 : Rho} {H0 : List b8} {F0 : Fz} {w0 : World} {k : Nat} (hG0 : GOk E F0 w0)
  {id:Nat} {ops:Array Oper} {s:St} {x:f8} {s':St} (hDS:∀j d,j<ops.size->qa2 ops j=some d->DS d) (hlen:H0.length<=s.H.length)
  (he:(R6 E k (Ib1 E.P ops) s).run=some (x,s')) {ac:Act} {w:World} {Q:Exit->Act->World->Prop} (hI:ic3 DS tm ds W ρ0 H0 F0 w0 s ac w)
  (hQ:∀ac' w',ic3 DS tm ds W ρ0 H0 F0 w0 s' ac' w'->Q (toX x) ac' w'):(Code.region id ops true).wpIn Fe nn E.P Q ac w:=by
 have hdr:∃dsts asq l ps,Ib1 E.P ops=.draw dsts asq l ps:=by
  unfold Ib1 at he ⊢;have hT:∀tr,(∃a b c d,Ib0 tr E.P ops=.draw a b c d)\/Ib0 tr E.P ops=.bad:=λtr=>by
   unfold Ib0
   simp only
   cases Je7 tr E.P ops (Region.before ops).toList 0 ops.toList with
   |none=>exact .inr rfl
   |some ks =>
    simp only[fe0];split
    ·exact .inl ⟨_,_,_,_,rfl⟩
    ·exact .inr rfl
  revert he
  rcases hT 0 with⟨a,b,c,d,h0⟩|h0<;>rw[h0]<;>intro he
  ·exact⟨_,_,_,_,rfl⟩
  ·revert he
   rcases hT 1 with⟨a,b,c,d,h1⟩|h1<;>rw[h1]<;>intro he
   ·exact⟨_,_,_,_,rfl⟩
   ·revert he
    rcases hT 2 with⟨a,b,c,d,h2⟩|h2<;>rw[h2]<;>intro he
    ·exact⟨_,_,_,_,rfl⟩
    ·cases he
 obtain⟨dsts,asq,l,ps,hc⟩:=hdr;rw[hc] at he;obtain⟨tr,M,ks,hD,rfl,rfl,rfl,rfl⟩:=mf8 hc
 have he' : ((T0 E ((List.range ops.size).filterMap (rc3 ks)) s).bind fun s => (T0 E ((List.range ops.size).filterMap (Pc7 ks)) s).bind fun s =>
   Bool.rec (motive:=λ_=>DT (f8×St)) .fail (Bool.rec (motive:=λ_=>DT (f8×St)) .fail (.ret (.normal,s)) (zc3 s.a ((List.range ops.size).filterMap (rc3 ks)))) (qb7 E s.a (gb1 ops.size M ks))).run=some (x,s'):=he
 obtain⟨s1,h1,h2⟩:=DT.run_bind_some he';obtain⟨s2,h3,h4⟩:=DT.run_bind_some h2;obtain⟨U,u0,u1,u2⟩:=hc9 _ _ _ _ h1;obtain⟨T,t0,t1,t2⟩:=hc9 _ _ _ _ h3;have hT:ge3 E ops ks s U T:=⟨u0,u2,t0.trans u1.symm,t2⟩;cases hp:qb7 E s2.a (gb1 ops.size M ks) with
 |false=>rw[hp] at h4;cases h4
 |true =>
 rw[hp] at h4
 simp only at h4
 cases hs:zc3 s2.a ((List.range ops.size).filterMap (rc3 ks)) with
 |false=>rw[hs] at h4;cases h4
 |true =>
 rw[hs] at h4;have h4':some (f8.normal,s2)=some (x,s'):=h4;injection h4' with h4';injection h4' with e1 e2;subst e1 e2
 rw[<- t1] at hp hs hQ;have hin:∀j,j<ops.size->M6 tr E.P ops j=0->∀d,qa2 ops j=some d->d<s.a.length:=λj hj hk d hd=>by
  rw[<- (sc5 hD hT ops.size (Qee _)).2];refine Ad4 hs (Dc1 tr E.P ops M j) ?_ d hd;rw[Qet];exact⟨j,List.mem_range.2 hj,(Le8 hD hj hk).1⟩
 refine wpIn_region_any hm (Ac6 hD hT hin hlen hF hDS hp hG0 hcalls hQ ops.size 0 _ ac _ (xe8 hD hT hlen hI) ?_);unfold Hb0;simp
end
section
variable{P:Program}{WB K:Nat->Prop}{J:List Value->World->Prop}{ρ0:Rho}{H0:List b8}{F0:Fz}{w w0:World}{s:St}{ac:Act}{E:Env}
theorem rf7 {Fe : Fence} {n m kk id : Nat} (hm : E.P.follows .mixedOrders = true) (hF : FW Fe) (hG0 : GOk E F0 w0) (hcalls : ∀ f, i5 E.P E.G f (E.call f)) (hJ : Lc6 K J) {ops : Array Oper} {Q : Exit → Act → World → Prop} {x : f8} {s' : St}
  (hI:ff1 E.P WB K J n ρ0 H0 F0 w0 s ac w) (he:(R6 E kk (.mask n (ops.toList.filterMap (·.dst)) (Ib1 E.P ops)) s).run=some (x,s'))
  (hQ:∀ac' w',ff1 E.P WB K J n ρ0 H0 F0 w0 s' ac' w'->ac'.defers=ac.defers->(∀t,¬ t∈ops.toList.filterMap (·.dst)->ac'.tmps[t]?=ac.tmps[t]?)->Q (toX x) ac' w'):(Code.region id ops true).wpIn Fe m E.P Q ac w:=by
 obtain⟨ρ,F,W',up,hI⟩:=hI;have he':((R6 E kk (Ib1 E.P ops) ⟨o8 (qa1 s.H) (M7 s.a n),q7 s.H⟩).bind λr=>.guard (Pc3 s.H r.2.H) (.ret (r.1,⟨za9 (ops.toList.filterMap (·.dst)) s.a r.2.a 0,B0 s.H r.2.H⟩))).run=some (x,s'):=he
 obtain⟨⟨x1,s1⟩,h1,h2⟩:=DT.run_bind_some he';obtain⟨ho,h2⟩:=DT.run_guard_some h2;have h2:some (x1,(⟨za9 (ops.toList.filterMap (·.dst)) s.a s1.a 0,B0 s.H s1.H⟩:St))=some (x,s'):=h2;injection h2 with h2;injection h2 with e1 e2;subst e1 e2
 have hG:GOk E F w:=hG0.adv hI.core.adv;refine Ve6 (DS:=(·∈ops.toList.filterMap (·.dst))) (tm:=ac.tmps) (ds:=ac.defers) (W:=W') (ρ0:=ρ) (H0:=q7 s.H) (F0:=F) (w0:=w) hF hm hcalls hG (λj d hj hd=>?_) (Qee _) h1 ⟨rfl,rfl,λ_ _=>rfl,ρ,F,.refl,hI.core.hrel,hI.arel⟩ λac' w' hM=>?_
 ·refine Qet.2 ⟨Sa1 ops j,?_,hd⟩
  have:=Da0 hj
  exact Array.mem_toList_iff.2 (Array.mem_of_getElem? this)
 ·obtain⟨k1,k2,k3⟩:=Zd1 hJ hI ho hM;exact hQ ac' w' k1 k2 k3
end
section
variable{WB K:Nat->Prop}{J:List Value->World->Prop}{DF:List Deferred->Prop}{S S0:HL}{rv:Value}{ρ ρ0:Rho}{H H0 H':List b8}{F F0:Fz}{w w0 w':World}{W':Nat->Prop}{up:List Value}{E:Env}{n m:Nat}{Fe:Fence}{pr:List Nat}{yl:Option Rd}{kp:Nat->List Nat}{rf:Operand->Array Tmp->Code->Code->PC}
def YOk(E:Env)(Fe:Fence)(m n k:Nat)(rd:Rd)(I:HL->St->Act->World->Prop):Prop :=
 ∀(ops:Array Oper) (i:Nat) (o:Oper) (S:HL) (args:List Operand) (g:Option (Nat×Bool)) (s s':St) (xx:f8) (ac:Act) (w:World) (rest:List Nat) (Q:Exit->Act->World->Prop),
  ops[i]?=some o->Sc4 ops S o=some args->da5 ops o=some g->gOk n g=true->dOk n o.dst=true->args.all (ltO n)=true->args.length=rd.ps.length->I S s ac w ->
  (R6 E k (.round o.dst g (args.map j9) n rd.nOut rd.ps rd.asq rd.body) s).run=some (xx,s')->(xx=.normal->∀ac' w',I (rmD S o.dst) s' ac' w'->wpOpsIn Fe m E.P ops Q rest ac' w')->wpOpsIn Fe m E.P ops Q (i::rest) ac w
def ng4(E:Env)(Fe:Fence)(m k:Nat)(rf:Operand->Array Tmp->Code->Code->PC)(I:St->Act->World->Prop):Prop :=
 ∀(g:Operand) (ps:Array Tmp) (asq body:Code) (s s':St) (x:f8) (ac:Act) (w:World) (Q:Exit->Act->World->Prop),(R6 E k (rf g ps asq body) s).run=some (x,s')->I s ac w ->
  (∀ac' w',I s' ac' w'->Q (toX x) ac' w')->(Code.rangeFunc g ps asq body).wpIn Fe m E.P Q ac w
theorem I3.less{P:Program}{s:St}{ac:Act}(h:I3 P WB K J n S rv DF ρ0 H0 F0 w0 s ac w)(hs:qf8 S0 S=true):I3 P WB K J n S0 rv DF ρ0 H0 F0 w0 s ac w:=by
 refine⟨h.inv,λp hp hg=>?_,h.df⟩
 unfold qf8 at hs;rw[Qeo] at hs;exact cd1 h.held (hs p hp) hg
theorem xe9{k:Nat}{l:List PI}{dd:List Nat}{s s':St}{x:f8}(he:(R6 E k (.mask n dd (.ops l)) s).run=some (x,s')):x=.normal:=by
 have he':((R6 E k (.ops l) ⟨o8 (qa1 s.H) (M7 s.a n),q7 s.H⟩).bind λr=>.guard (Pc3 s.H r.2.H) (.ret (r.1,⟨za9 dd s.a r.2.a 0,B0 s.H r.2.H⟩))).run=some (x,s'):=he
 obtain⟨⟨x1,s1⟩,h1,h2⟩:=DT.run_bind_some he';obtain⟨_,h2⟩:=DT.run_guard_some h2;have h2:some (x1,(⟨za9 dd s.a s1.a 0,B0 s.H s1.H⟩:St))=some (x,s'):=h2;injection h2 with h2;injection h2 with e1 _;subst e1
 obtain⟨s2,_,h4⟩:=DT.run_bind_some (show ((T0 E l ⟨o8 (qa1 s.H) (M7 s.a n),q7 s.H⟩).bind λs=>.ret (f8.normal,s)).run=some (x1,s1) from h1)
 have h4:some (f8.normal,s2)=some (x1,s1):=h4;injection h4 with h4;injection h4 with e1 _
 exact e1.symm
theorem Sc7{k:Nat}{a b:PC}{s s':St}{x:f8}(he:(R6 E k (.seq a b) s).run=some (x,s')):∃x1 s1,(R6 E k a s).run=some (x1,s1)/\(x1=.normal->(R6 E k b s1).run=some (x,s'))/\(x1≠.normal->x1=x/\s1=s'):=by
 obtain⟨⟨x1,s1⟩,h1,h2⟩:=DT.run_bind_some (show ((R6 E k a s).bind λr=>f8.rec (motive:=λ_=>DT (f8×St)) (R6 E k b r.2) (λid=>.ret (.exit id,r.2)) (.ret (.ret,r.2)) r.1).run=some (x,s') from he)
 refine⟨x1,s1,h1,λe=>by subst e;exact h2,λe=>?_⟩
 cases x1 with
 |normal=>exact absurd rfl e
 |exit id =>
  have h2:some (f8.exit id,s1)=some (x,s'):=h2;injection h2 with h2;injection h2 with e1 e2;exact⟨e1,e2⟩
 |ret =>
  have h2:some (f8.ret,s1)=some (x,s'):=h2;injection h2 with h2;injection h2 with e1 e2;exact⟨e1,e2⟩
section
variable(hF:FW Fe)(hG0:GOk E F0 w0)(hcalls:∀f,i5 E.P E.G f (E.call f))(hJ:Lc6 K J)(hyl:∀rd,yl=some rd->YOk E Fe m n H0.length rd λS=>I3 E.P WB K J n S rv DF ρ0 H0 F0 w0)
include hF hG0 hcalls hJ hyl
theorem bc1 {ops : Array Oper} {Q : Exit → Act → World → Prop} : ∀ (f : Nat) (r : List Oper) (S : HL) (k : Nat) (s : St) (x : f8) (s' : St) (ac : Act) (w : World), ops.toList.drop k = r → I3 E.P WB K J n S rv DF ρ0 H0 F0 w0 s ac w →
  (R6 E H0.length (xe1 E.P n pr yl S0 ops f r S) s).run=some (x,s')->(∀ac' w',I3 E.P WB K J n S0 rv DF ρ0 H0 F0 w0 s' ac' w'->Q (toX x) ac' w')->wpOpsIn Fe m E.P ops Q (List.range' k r.length) ac w
 |0,r,S,k,s,x,s',ac,w,hr,hI,he,hQ=>by cases he
 |f+1,[],S,k,s,x,s',ac,w,hr,hI,he,hQ=>by
  simp only[xe1] at he;cases hs:qf8 S0 S with
  |false=>rw[hs] at he;cases he
  |true =>
   rw[hs] at he;have he:some (f8.normal,s)=some (x,s'):=he;injection he with he;injection he with e1 e2;subst e1 e2
   exact hQ ac w (hI.less hs)
 |f+1,o::r,S,k,s,x,s',ac,w,hr,hI,he,hQ=>by
  have hi:ops[k]?=some o:=by
   have:(ops.toList.drop k)[0]?=some o:=by rw[hr];rfl
   simpa using this
  have hr1:ops.toList.drop (k+1)=r:=by rw[<- List.drop_drop,hr];rfl
  have hrange:List.range' k (o::r).length=k::List.range' (k+1) r.length:=by
   rw[show (o::r).length=r.length+1 from rfl,List.range'_succ]
  simp only[xe1] at he;cases hy:Sc4 ops S o with
  |some args =>
   rw[hy] at he
   simp only at he
   cases hyl':yl with
   |none=>rw[hyl'] at he;cases he
   |some rd =>
   cases hg:da5 ops o with
   |none=>rw[hyl',hg] at he;cases he
   |some g =>
   rw[hyl',hg] at he
   simp only at he
   split at he
   case h_2=>cases he
   rename_i hc;simp only[Qeb] at hc;obtain⟨x1,s1,h1,h2,h3⟩:=Sc7 he;rw[hrange];refine hyl rd hyl' ops k o S args g s s1 x1 ac w _ Q hi hy hg hc.1.1.1 hc.1.1.2 hc.1.2 (Qec hc.2) hI h1 λhx ac' w' hI'=>?_
   have h4:=h2 hx;rw[<- hyl'] at h4;exact bc1 f r _ (k+1) s1 x s' ac' w' hr1 hI' h4 hQ
  |none =>
  rw[hy] at he
  simp only at he
  cases hcp:Cd1 ops S o with
  |some dg =>
   obtain⟨d,g⟩:=dg;rw[hcp] at he
   simp only at he
   split at he
   case h_2=>cases he
   rename_i hd;rw[Qeq] at hd;obtain⟨x1,s1,h1,h2,h3⟩:=Sc7 he;rw[hrange];refine rf0 hF hG0 hcalls hJ hi hcp hd hI h1 λhx ac' w' hI'=>?_
   exact bc1 f r _ (k+1) s1 x s' ac' w' hr1 hI' (h2 hx) hQ
  |none =>
  rw[hcp] at he
  simp only at he
  cases hsp:cSp E.P n pr o with
  |some so =>
   rw[hsp] at he
   simp only at he
   cases hg:da5 ops o with
   |none=>rw[hg] at he;cases he
   |some g =>
   rw[hg] at he
   simp only at he
   split at he
   case h_2=>cases he
   rename_i hc;rw[Qeb] at hc;obtain⟨x1,s1,h1,h2,h3⟩:=Sc7 he;obtain⟨s2,k1,k2⟩:=DT.run_bind_some (show ((Je2 E s o.dst g so).bind λs=>.ret (f8.normal,s)).run=some (x1,s1) from h1)
   have k2:some (f8.normal,s2)=some (x1,s1):=k2;injection k2 with k2;injection k2 with e1 e2;subst e1 e2
   rw[hrange];refine dg9 hF hG0 hJ hi hsp hg hc.1 hc.2 hI k1 λac' w' hI'=>?_
   exact bc1 f r _ (k+1) s2 x s' ac' w' hr1 hI' (h2 rfl) hQ
  |none =>
  rw[hsp] at he
  simp only at he
  generalize hm:bd9 (xe0 E.P n pr ops S) r=q at he;cases hl:Cc9 E.P ops (o::r.take q) with
  |none=>rw[hl] at he;cases he
  |some l =>
  rw[hl] at he
  simp only at he
  obtain⟨x1,s1,h1,h2,h3⟩:=Sc7 he;have hx1:=xe9 h1;subst hx1;have hsplit:o::r=(o::r.take q)++r.drop q:=by rw[List.cons_append,List.take_append_drop]
  have hlen:(o::r).length=(o::r.take q).length+(r.drop q).length:=by rw[<- Qel,<- hsplit]
  have hrange2:List.range' k (o::r).length=List.range' k (o::r.take q).length++List.range' (k+(o::r.take q).length) (r.drop q).length:=by
   rw[hlen,<- List.range'_append_1]
  rw[hrange2];obtain⟨hinv,hheld,hdf⟩:=hI;refine (Kf2 (x:=.normal) (s':=s1) hF hG0 hcalls hJ (r:=o::r.take q) (l:=l) (dd:=Lc7 (o::r.take q)) ⟨r.drop q,by rw[hr];exact hsplit⟩ (λo' ho' d hd=>?_) hl hinv h1 λac' w' hI' hd' hsm=>?_).2
  ·unfold Lc7;exact Qet.2 ⟨o',ho',hd⟩
  ·refine bc1 f (r.drop q) _ (k+(o::r.take q).length) s1 x s' ac' w' ?_ ⟨hI',Cd2 hheld hsm,by rw[hd'];exact hdf⟩ (h2 rfl) hQ
   ·rw[<- List.drop_drop,hr,hsplit,List.drop_left]
theorem md1 {c : Code} {y : PC} {keep : List Nat} (ih : ∀ (s : St) (x : f8) (s' : St), (R6 E H0.length y s).run = some (x, s') → ∀ (ac : Act) (w : World) (Q : Exit → Act → World → Prop), I3 E.P WB K J n S0 rv DF ρ0 H0 F0 w0 s ac w →
  (∀ac' w',I3 E.P WB K J n S0 rv DF ρ0 H0 F0 w0 s' ac' w'->Q (toX x) ac' w')->c.wpIn Fe m E.P Q ac w) :
  ∀(nn:Nat) (s:St) (x:f8) (s':St),(pc4 (λs=>tidyM H0.length ⟨R9 keep s.a 0,s.H⟩) (R6 E H0.length y) nn s).run=some (x,s')->∀(ac:Act) (w:World) (Q:Exit->Act->World->Prop),I3 E.P WB K J n S0 rv DF ρ0 H0 F0 w0 s ac w ->
  (∀ac' w',I3 E.P WB K J n S0 rv DF ρ0 H0 F0 w0 s' ac' w'->Q (toX x) ac' w')->Code.roundsIn Fe m E.P c Q nn ac w
 |0,s,x,s',he,ac,w,Q,hI,hQ=>by cases he
 |nn+1,s,x,s',he,ac,w,Q,hI,hQ=>by
  have he':((tidyM H0.length ⟨R9 keep s.a 0,s.H⟩).bind λs=>(R6 E H0.length y s).bind λr =>
   f8.rec (motive:=λ_=>DT (f8×St)) (pc4 (λs=>tidyM H0.length ⟨R9 keep s.a 0,s.H⟩) (R6 E H0.length y) nn r.2) (λid=>.ret (.exit id,r.2)) (.ret (.ret,r.2)) r.1).run=some (x,s'):=he
  obtain⟨s1,h1,h2⟩:=DT.run_bind_some he';obtain⟨⟨x2,s2⟩,h3,h4⟩:=DT.run_bind_some h2;have hI1:=hI.tidyM h1;rw[roundsIn_succ];refine ih s1 x2 s2 h3 ac w _ hI1 λac' w' hI2=>?_
  cases x2 with
  |normal=>exact md1 ih nn s2 x s' h4 ac' w' Q hI2 hQ
  |exit id =>
   have h4':some (f8.exit id,s2)=some (x,s'):=h4;injection h4' with h4';injection h4' with e1 e2;subst e1 e2
   exact hQ _ _ hI2
  |ret =>
   have h4':some (f8.ret,s2)=some (x,s'):=h4;injection h4' with h4';injection h4' with e1 e2;subst e1 e2
   exact hQ _ _ hI2
theorem Lc8 (hm : E.P.follows .mixedOrders = true) (hrf : ng4 E Fe m H0.length rf (I3 E.P WB K J n S0 rv DF ρ0 H0 F0 w0)) : ∀ (c : Code) (cur : Nat) (s : St) (x : f8) (s' : St), (R6 E H0.length (Ka6 E.P n pr yl S0 kp rf cur c) s).run = some (x, s') → ∀ (ac : Act) (w : World) (Q : Exit → Act → World → Prop), I3 E.P WB K J n S0 rv DF ρ0 H0 F0 w0 s ac w →
  (∀ac' w',I3 E.P WB K J n S0 rv DF ρ0 H0 F0 w0 s' ac' w'->Q (toX x) ac' w')->c.wpIn Fe m E.P Q ac w:=by
 intro c
 induction c with
 |skip =>
  intro cur s x s' he ac w Q hI hQ;have he':some (f8.normal,s)=some (x,s'):=he;injection he' with he';injection he' with e1 e2;subst e1 e2
  exact wpIn_skip (hQ _ _ hI)
 |region id ops d =>
  intro cur s x s' he ac w Q hI hQ;cases d with
  |true =>
   simp only[Ka6] at he
   split at he
   case h_2=>cases he
   rename_i hc;obtain⟨hinv,hheld,hdf⟩:=hI;exact rf7 hm hF hG0 hcalls hJ hinv he λac' w' hI' hd' hsm=>hQ ac' w' (I3.less (S:=rmL S0 (Lc7 ops.toList)) ⟨hI',Cd2 hheld hsm,by rw[hd'];exact hdf⟩ hc)
  |false =>
   refine wpIn_region ?_;rw[List.range_eq_range']
   have:=bc1 (Q:=Q) hF hG0 hcalls hJ hyl (ops.size+1) ops.toList S0 0 s x s' ac w rfl hI he hQ
   simpa using this
 |seq a b iha ihb =>
  intro cur s x s' he ac w Q hI hQ;obtain⟨x1,s1,h1,h2,h3⟩:=Sc7 he;refine wpIn_seq (iha cur s x1 s1 h1 ac w _ hI λac' w' hI'=>?_)
  cases x1 with
  |normal=>exact ihb cur s1 x s' (h2 rfl) ac' w' Q hI' hQ
  |exit id =>
   obtain⟨rfl,rfl⟩:=h3 (by simp)
   exact hQ _ _ hI'
  |ret =>
   obtain⟨rfl,rfl⟩:=h3 (by simp)
   exact hQ _ _ hI'
 |cond c a b iha ihb =>
  intro cur s x s' he ac w Q hI hQ;simp only[Ka6] at he
  split at he
  case h_2=>cases he
  rename_i hc;have he':(match d7 E s.a (j9 c) with
   |.v (.bool t)=>DT.ite t (R6 E H0.length (Ka6 E.P n pr yl S0 kp rf cur a) s) (R6 E H0.length (Ka6 E.P n pr yl S0 kp rf cur b) s)
   |_=>DT.fail).run=some (x,s'):=he
  obtain⟨ρ,F,W',up,hI2⟩:=hI.inv;have hr:=Sb1 hI2.vals hI2.size (hG0.adv hI2.core.adv) c hc
  revert he' hr
  generalize d7 E s.a (j9 c)=u;intro he' hr
  split at he'
  ·rename_i t;have ht:=ff4 hr
   rcases DT.run_ite_some he' with⟨rfl,h⟩|⟨rfl,h⟩
   ·exact wpIn_cond_true ht (iha cur s x s' h ac w Q hI hQ)
   ·exact wpIn_cond_false ht (ihb cur s x s' h ac w Q hI hQ)
  ·cases he'
 |block id a ih =>
  intro cur s x s' he ac w Q hI hQ;obtain⟨⟨x1,s1⟩,h1,h2⟩:=DT.run_bind_some (show ((R6 E H0.length (Ka6 E.P n pr yl S0 kp rf id a) s).bind λr=>f8.rec (motive:=λ_=>DT (f8×St)) (.ret (.normal,r.2))
   (λid'=>Bool.rec (.ret (.exit id',r.2)) (.ret (.normal,r.2)) (Nat.beq id' id)) (.ret (.ret,r.2)) r.1).run=some (x,s') from he)
  refine wpIn_block (ih id s x1 s1 h1 ac w _ hI λac' w' hI'=>?_)
  cases x1 with
  |normal =>
   have h2':some (f8.normal,s1)=some (x,s'):=h2;injection h2' with h2';injection h2' with e1 e2;subst e1 e2
   exact hQ _ _ hI'
  |ret =>
   have h2':some (f8.ret,s1)=some (x,s'):=h2;injection h2' with h2';injection h2' with e1 e2;subst e1 e2
   exact hQ _ _ hI'
  |exit id' =>
   have h2':(Bool.rec (motive:=λ_=>DT (f8×St)) (.ret (.exit id',s1)) (.ret (.normal,s1)) (Nat.beq id' id)).run=some (x,s'):=h2
   show if id'=id then Q .normal ac' w' else Q (.exit id') ac' w'
   cases hb:Nat.beq id' id with
   |true =>
    rw[hb] at h2';have h3:some (f8.normal,s1)=some (x,s'):=h2';injection h3 with h3;injection h3 with e1 e2;subst e1 e2
    rw[if_pos (Qec hb)];exact hQ _ _ hI'
   |false =>
    rw[hb] at h2';have h3:some (f8.exit id',s1)=some (x,s'):=h2';injection h3 with h3;injection h3 with e1 e2;subst e1 e2
    rw[if_neg (Nat.ne_of_beq_eq_false hb)];exact hQ _ _ hI'
 |loop a ih =>
  intro cur s x s' he ac w Q hI hQ;exact wpIn_loop_rounds E.N (md1 hF hG0 hcalls hJ hyl (ih cur) E.N s x s' he ac w Q hI hQ)
 |rangeFunc g ps asq body _ _ =>
  intro cur s x s' he ac w Q hI hQ;exact hrf g ps asq body s s' x ac w Q he hI hQ
 |exit id =>
  intro cur s x s' he ac w Q hI hQ;have he':some (f8.exit id,s)=some (x,s'):=he;injection he' with he';injection he' with e1 e2;subst e1 e2
  exact wpIn_exit (hQ _ _ hI)
 |ret =>
  intro cur s x s' he ac w Q hI hQ;have he':some (f8.ret,s)=some (x,s'):=he;injection he' with he';injection he' with e1 e2;subst e1 e2
  exact wpIn_ret (hQ _ _ hI)
 |label l =>
  intro cur s x s' he ac w Q hI hQ;have he':some (f8.normal,s)=some (x,s'):=he;injection he' with he';injection he' with e1 e2;subst e1 e2
  exact wpIn_label (hQ _ _ hI)
 |_ =>
  intro cur s x s' he;cases he
end
end
def tc8(st:LoopState)(pe:Option Code)(fn:FuncId)(tm:List Value)(ps:Array Tmp)(asq body:Code)(D:Nat):Obj :=
 .loop { state:=st,pending:=pe,fn,tmps:=tm.toArray,params:=ps,assign:=asq,body,defers:=D }
def cd4:Option Code->Option Value
 |none=>some (.int .i64 (.ofNat 0))
 |some .ret=>some (.int .i64 (.ofNat 1))
 |some (.exit id)=>some (.int .i64 (.ofNat (id+2)))
 |_=>none
def KR(l:Nat)(Ds:List Nat):Nat->Prop:=λk=>k=l\/k∈Ds
def ff8(Ds:List Nat)(w:World):Prop:=∀d∈Ds,w.heap[d]?=some (.deferred (some []))
def JI(l D:Nat)(Ds:List Nat)(fn:FuncId)(tm:List Value)(ps:Array Tmp)(asq body:Code)(up:List Value)(w:World):Prop :=
 ∃pe v,cd4 pe=some v/\up=v::tm/\w.heap[l]?=some (tc8 (if pe.isNone then .ready else .done) pe fn tm ps asq body D)/\ff8 Ds w
def JR(l D:Nat)(Ds:List Nat)(fn:FuncId)(tm:List Value)(ps:Array Tmp)(asq body:Code)(st:LoopState)(inn:List Value)(up:List Value)(w:World):Prop :=
 up=inn++Value.int .i64 (.ofNat 0)::tm/\w.heap[l]?=some (tc8 st none fn tm ps asq body D)/\ff8 Ds w
def noD:List Deferred->Prop:=λds=>ds=[]
theorem Kf9(l D:Nat)(Ds:List Nat)(fn:FuncId)(tm:List Value)(ps:Array Tmp)(asq body:Code):Lc6 (KR l Ds) (JI l D Ds fn tm ps asq body):=λup w w' h ⟨pe,v,h1,h2,h3,h4⟩ =>
 ⟨pe,v,h1,h2,(h l (.inl rfl)).trans h3,λd hd=>(h d (.inr hd)).trans (h4 d hd)⟩
theorem Lf0(l D:Nat)(Ds:List Nat)(fn:FuncId)(tm:List Value)(ps:Array Tmp)(asq body:Code)(st:LoopState)(inn:List Value):Lc6 (KR l Ds) (JR l D Ds fn tm ps asq body st inn):=λup w w' h ⟨h1,h2,h3⟩ =>
 ⟨h1,(h l (.inl rfl)).trans h2,λd hd=>(h d (.inr hd)).trans (h3 d hd)⟩
section
variable{P:Program}{WB K:Nat->Prop}{J J':List Value->World->Prop}{DF:List Deferred->Prop}{S S0:HL}{rv:Value}{ρ ρ0:Rho}{H H0 H':List b8}{F F0:Fz}{w w0 w':World}{W':Nat->Prop}{up up':List Value}{E:Env}{n m:Nat}{Fe:Fence}{a:List b7}{ac:Act}{ds ds':List Deferred}
theorem C2.re(h:C2 P WB K J ρ0 H0 F0 w0 H ds w ρ F W' up)(hJ:J' up' w)(hM:Fc9 WB W' ds' w):C2 P WB K J' ρ0 H0 F0 w0 H ds' w ρ F W' up' :=
 ⟨h.sub,h.adv,h.hrel,h.srel,h.kept,h.far,hJ,hM⟩
theorem ff8.turn{w:World}{l:Nat}{r:Loop}{Ds:List Nat}(h:ff8 Ds w)(hl:w.heap[l]?=some (.loop r))(o:Obj):ff8 Ds (w.putObj l o):=λd hd=>by
 have hne:d≠l:=λe=>by
  have:=h d hd
  rw[e,hl] at this;cases this
 rw[World.putObj_heap_other hne];exact h d hd
theorem Ac7:Fc9 WB W' [] w:=⟨λd hd=>by simp at hd,List.nodup_nil⟩
theorem ff9{k:Nat}{o:Obj}(hk:w.heap[k]?=some o)(ho:∀cc t fr,o≠.cells cc t fr)(b:Nat):w.cell? ⟨k,b,none⟩=none:=by
 cases o with
 |cells=>exact (ho _ _ _ rfl).elim
 |_=>simp[World.cell?,hk]
theorem C2.turn (h : C2 P WB K J ρ0 H0 F0 w0 H ds w ρ F W' up) (k : Nat) (o o' : Obj) (hk : w.heap[k]? = some o) (ho : ∀ cc t fr, o ≠ .cells cc t fr) (hm : ∀ es clk, o ≠ .map es clk) (hWB : WB k) (hnW : ¬ W' k)
  (hJ:J' up' (w.putObj k o')) (hM:Fc9 WB W' ds' (w.putObj k o')):C2 P WB K J' ρ0 H0 F0 w0 H ds' (w.putObj k o') ρ F W' up'/\Tr ρ H F w ρ H F (w.putObj k o'):=by
 have hlt:=(Qej.1 hk).1;have hnF:∀b,¬ F k b:=λb hf=>by
  have:=h.hrel.frz k b hf
  rw[ff9 hk ho b] at this;cases this
 have hbase:C2 P WB K (λ_ _=>True) ρ0 H0 F0 w0 H [] w ρ F W' up':=h.re trivial Ac7
 obtain⟨c1,c2⟩:=hbase.change (w':=w.putObj k o') (H':=H) (up':=up') k hWB hnW hnF rfl rfl rfl (Qee _) (by simp) (λj hj=>World.putObj_heap_other hj)
  (λcc t fr hc=>by rw[hk] at hc;injection hc with hc;exact (ho _ _ _ hc).elim) rfl (λid b hb=>⟨b,hb,rfl,rfl,rfl,rfl,Qee _,λ_=>rfl⟩) (λid b hb _ _ _=>hb)
  (λ_ id b hb hs hd e=>by
   obtain⟨_,_,_,_,hc⟩:=h.srel.has id b hb hs hd;rw[e] at hc
   rcases hc with⟨_,row,vs,t,_,m2,_⟩|⟨t,Kt,El,fl,es,clk,_,_,_,m4,_⟩
   ·rw[hk] at m2;injection m2 with m2;exact (ho _ _ _ m2).elim
   ·rw[hk] at m4;injection m4 with m4;exact (hm _ _ m4).elim)
  trivial (λD hD=>by simp at hD)
 exact⟨c1.re hJ hM,c2⟩
end
end Go.Ev
