/- Own work. -/
import Derived.Test.YtkfaiccnekeklaaGreatDoorEvSp3
import Derived.MapKept
import GoSem.Instr.MapUpdate
import Derived.OrdersIn
set_option linter.all false
noncomputable section
def Qea:=@List.getElem?_eq_some_iff
def Qeb:=@List.getElem?_eq_getElem
def Qec:=@Nat.le_refl
def Qed:=@Option.some.inj
def Qee:=@List.getElem?_append_left
def Qef:=@Bool.and_eq_true
def Qeg:=@Nat.eq_of_beq_eq_true
def Qeh:=@List.getElem?_map
def Qei:=@Array.getElem?_eq_getElem
def Qej:=@List.getElem?_set_ne
def Qek:=@Array.getElem?_eq_some_iff
def Qel:=@Array.getElem?_push
def Qem:=@List.length_append
def Qen:=@Nat.ne_of_lt
def Qeo:=@List.getElem?_eq_none
def Qep:=@List.getElem?_append_right
def Qeq:=@Nat.lt_or_ge
def Qer:=@Option.map_eq_some_iff
def Qes:=@Nat.eq_zero_or_pos
def Qet:=@List.getElem?_take
def Qeu:=@Nat.blt_eq
def Qev:=@Classical.byContradiction
def Qew:=@List.all_eq_true
def Qex:=@Nat.zero_add
def Qey:=@Nat.le_of_ble_eq_true
def Qez:=@List.mem_append_right
def Qeaa:=@Nat.lt_irrefl
def Qeab:=@List.map_cons
namespace Go.Ev
open Go
section
variable{P:Program}{WB K:Nat->Prop}{J:List Value->World->Prop}{ρ ρ0 ρ':Rho}{H H0 H':List c8}{F F0 F':Fz}{w w0 w':World}{W':Nat->Prop}{up up':List Value}{ds:List Deferred}
theorem lb7{a:Addr}(h:w'.heap[a.block]?=w.heap[a.block]?):w'.cell? a=w.cell? a:=by simp[World.cell?,h]
theorem bc2{id:Nat}{b:c8}(hE:∀(id:Nat) b,H[id]?=some b->∃b',H'[id]?=some b'/\b'.et=b.et/\b'.dead=b.dead/\b'.g=b.g/\b'.es=b.es/\b.elems.length<=b'.elems.length/\(A9 b=false->b'=b))(hl:H'.length=H.length)(hb:(n8 H')[id]?=some b)(hd:b.dead=false):(n8 H)[id]?=some b:=by
 obtain⟨h1,h2⟩:=da8 hb hd;have hlt:id<H.length:=hl ▸ (Qea.1 h1).1;obtain⟨b',k1,k2,_,_,k5,_,k6⟩:=hE id _ (Qeb hlt);obtain rfl:b'=b:=Qed (k1.symm.trans h1);have hs:A9 H[id]=false:=by
  unfold A9 at h2 ⊢;rw[<- k5];exact h2
 have:=k6 hs
 subst this;exact ba2 (Qeb hlt) hs
theorem C2.alloc (h : C2 P WB K J ρ0 H0 F0 w0 H ds w ρ F W' up) (hJ : Mb9 K J) (o : Obj) :
  C2 P WB K J ρ0 H0 F0 w0 H ds (w.alloc o) ρ F (λk=>W' k/\k≠w.heap.size) up/\Tr ρ H F w ρ H F (w.alloc o)/\WB w.heap.size/\(∀b,F w.heap.size b->False):=by
 have hold:∀k,k<w.heap.size->(w.alloc o).heap[k]?=w.heap[k]?:=λk hk=>by
  simp only[World.alloc,Qel];rw[if_neg (Qen hk)]
 have hsz:(w.alloc o).heap.size=w.heap.size+1:=by simp
 have hF:∀b o',F b o'->b<w.heap.size:=λb o' hf=>kb5 (h.hrel.frz b o' hf)
 have hcells:∀b o',F b o'->(w.alloc o).cell? ⟨b,o',none⟩=w.cell? ⟨b,o',none⟩:=λb o' hf=>lb7 (a:=⟨b,o',none⟩) (hold b (hF b o' hf))
 have hxc:∀x x',XC ρ H F w x x'->XC ρ H F (w.alloc o) x x':=λx x' hx=>by
  cases hx with
  |n hx=>exact .n (hx.carry (λid b hb hd=>⟨b,hb,hd,Qec _,λ_=>⟨rfl,rfl,Qec _⟩⟩) (λ_ _ h=>h) hcells)
  |box id c g b hb hd he=>exact .box id c g b hb hd he
  |map id c g b t hb hd he=>exact .map id c g b t hb hd he
 refine⟨⟨λk hk=>h.sub k hk.1,h.adv.trans ⟨⟨rfl,rfl,rfl,by omega,λk hk _=>hold k hk,hcells,Qec _⟩,.refl,λ_ _ h=>h,λ_ _ h=>.inl h,λid b hb hn=>absurd rfl (hn b hb)⟩,?_,?_,λk hk=>?_,h.far,?_,?_⟩,λx x' hx=>?_,h.sub _ (h.hrel.new _ (Qec _)),λb hf=>Qeaa _ (hF _ _ hf)⟩
 ·refine⟨λid b hb hd=>?_,h.hrel.apart,λb o' hf=>by rw[hcells b o' hf];exact h.hrel.frz b o' hf,λk hk=>⟨h.hrel.new k (by omega),by omega⟩⟩
  obtain⟨cc,t,fr,hB⟩:=h.hrel.blk id b hb hd;have hk:=hB.keep (w':=w.alloc o) (hold _ hB.lt) hcells;exact⟨cc,t,fr,hk.obj,hk.room,hk.len,hk.rows,hk.cell,λho=>by
   obtain⟨g1,g2,g3⟩:=hk.own ho;exact⟨g1,⟨g2,Qen hB.lt⟩,g3⟩,hk.kept⟩
 ·refine⟨λid b hb hs hd=>?_,h.srel.apart⟩
  obtain⟨k1,k2,k3,k4,k5⟩:=h.srel.has id b hb hs hd;refine⟨k1,λhk=>k2 hk.1,k3,by omega,?_⟩
  rcases k5 with⟨e,row,vs,t,m1,m2,m3,m4⟩|⟨t,K,El,fl,es,clk,m1,m2,m3,m4,m5⟩
  ·exact .inl ⟨e,row,vs,t,m1,(hold _ k4).trans m2,m3,λc x x' hx hx'=>⟨(m4 c x x' hx hx').1,hxc _ _ (m4 c x x' hx hx').2⟩⟩
  ·exact .inr ⟨t,K,El,fl,es,clk,m1,m2,m3,(hold _ k4).trans m4,m5⟩
 ·exact⟨λhw=>(h.kept k hk).1 hw.1,by have:=(h.kept k hk).2;omega⟩
 ·exact hJ up w _ (λk hk=>hold k (h.kept k hk).2) h.jot
 ·refine⟨λd hd=>?_,h.marks.2⟩
  obtain⟨D,h1,h2,h3,h4,h5⟩:=h.marks.1 d hd;exact⟨D,h1,(hold D h4).trans h2,λhw=>h3 hw.1,by omega,h5⟩
 ·cases hx with
  |w hx=>exact .w (hx.carry (λid b hb hd=>⟨b,hb,hd,Qec _,λ_=>⟨rfl,rfl,Qec _⟩⟩) (λ_ _ h=>h) hcells)
  |c hx=>exact .c (hxc _ _ hx)
theorem C2.adopt (h : C2 P WB K J ρ0 H0 F0 w0 H ds w ρ F W' up) (k sz : Nat) (hk : WB k) (hkW : ¬ W' k) (hkF : ∀ o, ¬ F k o) (hks : k < w.heap.size) (hap : ∀ (id : Nat) b, H[id]? = some b → A9 b = true → b.dead = false → (ρ id).blk ≠ k)
  (hkK:¬ K k) (b:c8) (hb:A9 b=true) (hbd:b.dead=false) (hc:oe7 (ρnew ρ H ⟨k,0,sz⟩) (H++[b]) F w b k\/oe8 P w b k) :
  C2 P WB K J ρ0 H0 F0 w0 (H++[b]) ds w (ρnew ρ H ⟨k,0,sz⟩) F W' up/\Tr ρ H F w (ρnew ρ H ⟨k,0,sz⟩) (H++[b]) F w:=by
 have hρ:∀id,id<H.length->ρnew ρ H ⟨k,0,sz⟩ id=ρ id:=λid hid=>by simp[ρnew,Qen hid]
 have hρn:ρnew ρ H ⟨k,0,sz⟩ H.length=⟨k,0,sz⟩:=by simp[ρnew]
 have hlook:∀(id:Nat) c,(H++[b])[id]?=some c->(id<H.length/\H[id]?=some c)\/(id=H.length/\c=b):=λid c hc=>by
  rcases Qeq id H.length with hh|hh
  ·rw[Qee hh] at hc;exact .inl ⟨hh,hc⟩
  ·rw[Qep hh] at hc;have h0:id-H.length=0:=by
    rcases Qes (id-H.length) with h0|h0
    ·exact h0
    ·rw[Qeo (by simp;omega)] at hc;cases hc
   rw[h0] at hc;exact .inr ⟨by omega,by simpa using hc.symm⟩
 have hleft:∀{id:Nat} {c:c8},H[id]?=some c->(H++[b])[id]?=some c/\id<H.length:=λ{id c} hc=>by
  have hlt:=(Qea.1 hc).1;exact⟨by rw[Qee hlt];exact hc,hlt⟩
 have hlive:∀(id:Nat) c,(n8 (H++[b]))[id]?=some c->c.dead=false->(n8 H)[id]?=some c/\id<H.length:=λid c hc hd=>by
  obtain⟨h1,h2⟩:=da8 hc hd
  rcases hlook id c h1 with⟨hh,h3⟩|⟨_,rfl⟩
  ·exact⟨ba2 h3 h2,hh⟩
  ·rw[hb] at h2;cases h2
 have hcar:Oc5 ρ (n8 H) (ρnew ρ H ⟨k,0,sz⟩) (n8 (H++[b])):=λid c hc hd=>by
  obtain⟨h1,h2⟩:=da8 hc hd;exact⟨c,ba2 (hleft h1).1 h2,hd,Qec _,λ_=>⟨hρ id (hleft h1).2,rfl,Qec _⟩⟩
 have hxc:∀x x',XC ρ H F w x x'->XC (ρnew ρ H ⟨k,0,sz⟩) (H++[b]) F w x x':=λx x' hx=>by
  cases hx with
  |n hx=>exact .n (hx.carry hcar (λ_ _ h=>h) (λ_ _ _=>rfl))
  |box id c g b' hb' hd he=>rw[<- hρ id (hleft hb').2];exact .box id c g b' (hleft hb').1 hd he
  |map id c g b' t hb' hd he=>rw[<- hρ id (hleft hb').2];exact .map id c g b' t (hleft hb').1 hd he
 refine⟨⟨h.sub,h.adv.trans ⟨.refl,λid c hc=>⟨c,(hleft hc).1,rfl,Qec _,λ_=>⟨hρ id (hleft hc).2,rfl,Qec _⟩⟩,λ_ _ h=>h,λ_ _ h=>.inl h,λid c hc hn=>?_⟩,?_,?_,h.kept,λid c hc hs hd=>?_,h.jot,h.marks⟩,λx x' hx=>?_⟩
 ·rcases hlook id c hc with⟨_,h1⟩|⟨rfl,rfl⟩
  ·exact absurd rfl (hn c h1)
  ·rw[hρn];exact hk
 ·exact h.hrel.pull (λi=>i) (λi c hc hd=>⟨(hlive i c hc hd).1,hρ i (hlive i c hc hd).2⟩) (λ_ _ _ _ _ _ _ _ e=>e)
 ·refine⟨λid c hc' hs hd=>?_,λid id' c c' hc1 hc1' hs hs' hd hd' hne=>?_⟩
  ·rcases hlook id c hc' with⟨hlt,h1⟩|⟨rfl,rfl⟩
   ·obtain⟨k1,k2,k3,k4,k5⟩:=h.srel.has id c h1 hs hd;rw[hρ id hlt];refine⟨k1,k2,k3,k4,?_⟩
    rcases k5 with⟨e,row,vs,t,m1,m2,m3,m4⟩|k5
    ·exact .inl ⟨e,row,vs,t,m1,m2,m3,λc x x' hx hx'=>⟨(m4 c x x' hx hx').1,hxc _ _ (m4 c x x' hx hx').2⟩⟩
    ·exact .inr k5
   ·rw[hρn];exact⟨hk,hkW,hkF,hks,hc⟩
  ·rcases hlook id c hc1 with⟨hlt,h1⟩|⟨rfl,rfl⟩<;>rcases hlook id' c' hc1' with⟨hlt',h1'⟩|⟨rfl,rfl⟩
   ·rw[hρ id hlt,hρ id' hlt'];exact h.srel.apart id id' c c' h1 h1' hs hs' hd hd' hne
   ·rw[hρ id hlt,hρn];exact hap id c h1 hs hd
   ·rw[hρ id' hlt',hρn];exact (hap id' c' h1' hs' hd').symm
   ·exact absurd rfl hne
 ·rcases hlook id c hc with⟨hlt,h1⟩|⟨rfl,rfl⟩
  ·rw[hρ id hlt];exact h.far id c h1 hs hd
  ·rw[hρn];exact hkK
 ·cases hx with
  |w hx=>exact .w (hx.carry hcar (λ_ _ h=>h) (λ_ _ _=>rfl))
  |c hx=>exact .c (hxc _ _ hx)
theorem C2.change (h : C2 P WB K J ρ0 H0 F0 w0 H ds w ρ F W' up) (k : Nat) (hk : WB k) (hkW : ¬ W' k) (hkF : ∀ o, ¬ F k o)
  (hos:w'.os=w.os) (htape:w'.tape=w.tape) (hout:w'.output=w.output) (hdrawn:w.drawn<=w'.drawn) (hsize:w'.heap.size=w.heap.size) (hold:∀j,j≠k->w'.heap[j]?=w.heap[j]?)
  (hcc:∀cc t fr,w.heap[k]?=some (.cells cc t fr)->∃cc',w'.heap[k]?=some (.cells cc' t fr)/\cc'.size=cc.size)
  (hl:H'.length=H.length) (hE:∀(id:Nat) b,H[id]?=some b->∃b',H'[id]?=some b'/\b'.et=b.et/\b'.dead=b.dead/\b'.g=b.g/\b'.es=b.es/\b.elems.length<=b'.elems.length/\(A9 b=false->b'=b))
  (hsame:∀(id:Nat) b,H[id]?=some b->A9 b=true->b.dead=false->(ρ id).blk≠k->H'[id]?=some b)
  (hnew:(∀x x',XC ρ H F w x x'->XC ρ H' F w' x x')->∀(id:Nat) b,H'[id]?=some b->A9 b=true->b.dead=false->(ρ id).blk=k->oe7 ρ H' F w' b k\/oe8 P w' b k)
  (hJ:J up' w') (hM:∀D,({ target:=.collected D,args:=#[] }:Deferred)∈ds->w.heap[D]?=some (.deferred (some []))->D=k->w'.heap[D]?=some (.deferred (some []))) :
  C2 P WB K J ρ0 H0 F0 w0 H' ds w' ρ F W' up'/\Tr ρ H F w ρ H' F w':=by
 have hne:∀b o,F b o->b≠k:=λb o hf e=>hkF o (e ▸ hf)
 have hcells:∀b o,F b o->w'.cell? ⟨b,o,none⟩=w.cell? ⟨b,o,none⟩:=λb o hf=>lb7 (a:=⟨b,o,none⟩) (hold b (hne b o hf))
 have hback:∀(id:Nat) b',H'[id]?=some b'->∃b,H[id]?=some b/\b'.et=b.et/\b'.dead=b.dead/\A9 b=A9 b':=λid b' hb'=>by
  have hlt:id<H.length:=hl ▸ (Qea.1 hb').1;obtain⟨b2,k1,k2,k3,k4,k5,_⟩:=hE id _ (Qeb hlt);obtain rfl:b2=b':=Qed (k1.symm.trans hb');exact⟨_,Qeb hlt,k2,k3,by unfold A9;rw[k5]⟩
 have hcar:Oc5 ρ (n8 H) ρ (n8 H'):=λid b hb hd=>by
  obtain⟨h1,h2⟩:=da8 hb hd;obtain⟨b',k1,_,_,_,_,_,k6⟩:=hE id b h1
  have:=k6 h2
  subst this;exact⟨b',ba2 k1 h2,hd,Qec _,λ_=>⟨rfl,rfl,Qec _⟩⟩
 have hxc:∀x x',XC ρ H F w x x'->XC ρ H' F w' x x':=λx x' hx=>by
  cases hx with
  |n hx=>exact .n (hx.carry hcar (λ_ _ h=>h) hcells)
  |box id c g b hb hd he =>
   obtain⟨b',k1,k2,k3,k4,k5,_⟩:=hE id b hb;exact .box id c g b' k1 (k3.trans hd) ⟨k5.trans he.1,k2.trans he.2⟩
  |map id c g b t hb hd he =>
   obtain⟨b',k1,k2,k3,k4,k5,_⟩:=hE id b hb;exact .map id c g b' t k1 (k3.trans hd) ⟨k5.trans he.1,k2.trans he.2⟩
 refine⟨⟨h.sub,h.adv.trans ⟨⟨hos,htape,hout,by omega,λj _ hj=>hold j λe=>hj (e ▸ hk),hcells,hdrawn⟩,λid b hb=>?_,λ_ _ h=>h,λ_ _ h=>.inl h,λid b' hb' hn=>?_⟩,?_,?_,λj hj=>⟨(h.kept j hj).1,by rw[hsize];exact (h.kept j hj).2⟩,λid b hb hs hd=>?_,hJ,⟨λd hd=>?_,h.marks.2⟩⟩,λx x' hx=>?_⟩
 ·obtain⟨b',k1,k2,k3,k4,k5,k6,_⟩:=hE id b hb;exact⟨b',k1,k3,Nat.le_of_eq k4.symm,λ_=>⟨rfl,k5,k6⟩⟩
 ·have hlt:id<H.length:=hl ▸ (Qea.1 hb').1;obtain⟨b2,k1,_,_,k4,_⟩:=hE id _ (Qeb hlt);obtain rfl:b2=b':=Qed (k1.symm.trans hb');exact absurd k4 (hn _ (Qeb hlt))
 ·refine⟨λid b hb hd=>?_,λid id' b b' hb hb' hd hd' ho hne'=>h.hrel.apart id id' b b' (bc2 hE hl hb hd) (bc2 hE hl hb' hd') hd hd' ho hne',λb o hf=>by rw[hcells b o hf];exact h.hrel.frz b o hf,λj hj=>h.hrel.new j (by rw[<- hsize];exact hj)⟩
  obtain⟨cc,t,fr,hB⟩:=h.hrel.blk id b (bc2 hE hl hb hd) hd;by_cases e:(ρ id).blk=k
  ·obtain⟨cc',h1,h2⟩:=hcc cc t fr (e ▸ hB.obj);have hno:b.own=false:=by
    cases ho:b.own with
    |false=>rfl
    |true=>exact absurd (e ▸ (hB.own ho).2.1) hkW
   have hz:b.elems.length*b.es=0:=by
    rcases Qes (b.elems.length*b.es) with h0|h0
    ·exact h0
    ·exact absurd (e ▸ hB.kept hno 0 h0) (hkF _)
   refine⟨cc',t,fr,e ▸ h1,by rw[h2];exact hB.room,hB.len,hB.rows,λi r c x hr hx=>?_,(λho=>by rw[hno] at ho;cases ho),hB.kept⟩
   have hi:=(Qea.1 hr).1;have hc:=(Qea.1 hx).1;rw[hB.rows i r hr] at hc
   have:=Nat.mul_pos (show 0<b.elems.length by omega) (show 0<b.es by omega)
   omega
  ·exact⟨cc,t,fr,hB.keep (hold _ e) hcells⟩
 ·refine⟨λid b hb hs hd=>?_,λid id' b b' hb hb' hs hs' hd hd' hne'=>?_⟩
  ·obtain⟨b0,h1,h2,h3,h4⟩:=hback id b hb;obtain⟨k1,k2,k3,k4,k5⟩:=h.srel.has id b0 h1 (by rw[h4];exact hs) (by rw[<- h3];exact hd)
   refine⟨k1,k2,k3,by rw[hsize];exact k4,?_⟩
   by_cases e:(ρ id).blk=k
   ·rw[e];exact hnew hxc id b hb hs hd e
   ·have hb0:b0=b:=Qed ((hsame id b0 h1 (by rw[h4];exact hs) (by rw[<- h3];exact hd) e).symm.trans hb)
    subst hb0
    rcases k5 with⟨e',row,vs,t,m1,m2,m3,m4⟩|⟨t,K,El,fl,es,clk,m1,m2,m3,m4,m5⟩
    ·exact .inl ⟨e',row,vs,t,m1,(hold _ e).trans m2,m3,λc x x' hx hx'=>⟨(m4 c x x' hx hx').1,hxc _ _ (m4 c x x' hx hx').2⟩⟩
    ·exact .inr ⟨t,K,El,fl,es,clk,m1,m2,m3,(hold _ e).trans m4,m5⟩
  ·obtain⟨b0,h1,h2,h3,h4⟩:=hback id b hb;obtain⟨b0',h1',h2',h3',h4'⟩:=hback id' b' hb';exact h.srel.apart id id' b0 b0' h1 h1' (by rw[h4];exact hs) (by rw[h4'];exact hs') (by rw[<- h3];exact hd) (by rw[<- h3'];exact hd') hne'
 ·obtain⟨b0,h1,h2,h3,h4⟩:=hback id b hb;exact h.far id b0 h1 (by rw[h4];exact hs) (by rw[<- h3];exact hd)
 ·obtain⟨D,h1,h2,h3,h4,h5⟩:=h.marks.1 d hd;refine⟨D,h1,?_,h3,by rw[hsize];exact h4,h5⟩
  by_cases e:D=k
  ·exact hM D (h1 ▸ hd) h2 e
  ·exact (hold D e).trans h2
 ·cases hx with
  |w hx=>exact .w (hx.carry hcar (λ_ _ h=>h) hcells)
  |c hx=>exact .c (hxc _ _ hx)
end
section
variable{WB K:Nat->Prop}{J:List Value->World->Prop}{ρ ρ0:Rho}{H H0 H':List c8}{F F0:Fz}{w w0 w':World}{W':Nat->Prop}{up:List Value}{E:Env}{a:List c7}{ac:Act}{x:c7}{o:Oper}
def gb2(P:Program)(WB K:Nat->Prop)(J:List Value->World->Prop)(ρ0:Rho)(H0:List c8)(F0:Fz)(w0:World)(ρ:Rho)(H:List c8)(F:Fz)(w:World)(up:List Value)(ds:List Deferred)(x:c7)(H':List c8)(x':Value)(w':World):Prop :=
 ∃ρ' F' W'',C2 P WB K J ρ0 H0 F0 w0 H' ds w' ρ' F' W'' up/\Tr ρ H F w ρ' H' F' w'/\XW ρ' H' F' w' x x'
def ltO(n:Nat):Operand->Bool
 |.tmp t=>Nat.blt t n
 |_=>true
theorem Ya8{n:Nat}(hv:VR ρ H F w a (ac.tmps.toList++up))(hn:ac.tmps.size=n)(hG:GOk E F w)(y:Operand)(hy:ltO n y=true):XW ρ H F w (d6 E a (g9 y)) (ac.eval y):=by
 cases y with
 |tmp t =>
  show XW ρ H F w (d6 E a (.t t)) (ac.tmps.getD t undef);have hlt:t<n:=by have:=hy;unfold ltO at this;rwa [Qeu] at this
  rw[Oa4];have hl:=hv.1;rw[Qem] at hl;have hsz:ac.tmps.toList.length=ac.tmps.size:=Array.length_toList;have hlt':t<ac.tmps.size:=hn ▸ hlt;have ha:t<a.length:=by rw[hl,hsz];exact Nat.lt_of_lt_of_le hlt' (Nat.le_add_right _ _)
  have h1:a[t]?=some a[t]:=Qeb ha;have h2:(ac.tmps.toList++up)[t]?=some ac.tmps[t]:=by
   rw[Qee (by rw[hsz];exact hlt')]
   simp[hlt']
  have:=hv.2 t _ _ h1 h2
  simpa [h1,Array.getD,hlt'] using this
 |const v=>exact .w (z7.ofVal v)
 |func f=>exact .w (.val (.cell (.mem (.fn f))))
 |global g =>
  have:ga9 (λ_=>⟨0,0,0⟩) [] F w [] #[]:=⟨rfl,λi x x' hx=>by simp at hx⟩
  have h:=l6 (ρ:=ρ) (H:=n8 H) (a:=[]) (ac:=⟨#[],[]⟩) ⟨rfl,λi x x' hx=>by simp at hx⟩ hG (.global g)
  exact .w h
theorem Db0{t:Nat}{b:c8}(h:id8 b)(h':id9 t b):False:=by
 have h1:b.et=0:=h.2;have h2:b.et=t+1:=h'.2;rw[h1] at h2;cases h2
theorem bc3{id c g:Nat}{b:c8}{v:Value}(hs:Pb8 0 H x=some (id,c,g,b))(hx:XW ρ H F w x v):x=.ptr id 0 c g/\H[id]?=some b/\b.dead=false/\id8 b/\v=.pointer (some ⟨(ρ id).blk,c,none⟩):=by
 revert hs hx
 cases x with
 |ptr id' i' c' g' =>
  intro hs hx;simp only[Pb8,u9] at hs;cases hb:H[id']? with
  |none=>simp[hb] at hs
  |some b' =>
  simp only[hb] at hs;cases hd:b'.dead with
  |true=>simp[hd] at hs
  |false =>
  simp only[hd] at hs;cases he:(A9 b'&&Nat.beq b'.et 0) with
  |false=>simp[he] at hs
  |true =>
  simp only[he] at hs;cases hg:Nat.beq b'.g g' with
  |false=>simp[hg] at hs
  |true =>
  simp only[hg] at hs;cases hi:Nat.beq i' 0 with
  |false=>simp[hi] at hs
  |true =>
  simp only[hi] at hs;injection hs with hs;injection hs with e1 hs;injection hs with e2 hs;injection hs with e3 e4
  subst e1 e2 e3 e4;rw[Qef] at he;have he:=And.intro (Qeg he.1) (Qeg he.2);have hi:=Qeg hi;subst hi;refine⟨rfl,hb,hd,he,?_⟩;have hdead:∀q,(n8 H)[id']?=some q->q.dead=true:=λq hq=>by
   rw[xc0 hb (Ta7 he)] at hq;injection hq with hq;rw[<- hq]
  have hno:∀{v},U5 ρ (n8 H) F w (.ptr id' 0 c' g') v->False:=λ{v} h=>by
   cases h with
   |mem h=>cases h
   |ptr _ _ _ _ ad q hq hd'=>rw[hdead q hq] at hd';cases hd'
  cases hx with
  |w h=>cases h with
   |val h=>cases h with
    |cell h=>exact (hno h).elim
  |c h =>
   cases h with
   |n h=>exact (hno h).elim
   |box=>rfl
   |map _ _ _ b2 t hb2 _ he2 =>
    have:b2=b':=Qed (hb2.symm.trans hb)
    subst this;exact (Db0 he he2).elim
 |_=>intro hs;cases hs
theorem Pc1{t id c g:Nat}{b:c8}{v:Value}(hs:Pb8 (t+1) H x=some (id,c,g,b))(hx:XW ρ H F w x v):x=.ptr id 0 c g/\H[id]?=some b/\b.dead=false/\id9 t b/\v=.map (some (ρ id).blk):=by
 revert hs hx
 cases x with
 |ptr id' i' c' g' =>
  intro hs hx;simp only[Pb8,u9] at hs;cases hb:H[id']? with
  |none=>simp[hb] at hs
  |some b' =>
  simp only[hb] at hs;cases hd:b'.dead with
  |true=>simp[hd] at hs
  |false =>
  simp only[hd] at hs;cases he:(A9 b'&&Nat.beq b'.et (t+1)) with
  |false=>simp[he] at hs
  |true =>
  simp only[he] at hs;cases hg:Nat.beq b'.g g' with
  |false=>simp[hg] at hs
  |true =>
  simp only[hg] at hs;cases hi:Nat.beq i' 0 with
  |false=>simp[hi] at hs
  |true =>
  simp only[hi] at hs;injection hs with hs;injection hs with e1 hs;injection hs with e2 hs;injection hs with e3 e4
  subst e1 e2 e3 e4;rw[Qef] at he;have he:=And.intro (Qeg he.1) (Qeg he.2);have hi:=Qeg hi;subst hi;refine⟨rfl,hb,hd,he,?_⟩;have hdead:∀q,(n8 H)[id']?=some q->q.dead=true:=λq hq=>by
   rw[xc0 hb (Ta8 he)] at hq;injection hq with hq;rw[<- hq]
  have hno:∀{v},U5 ρ (n8 H) F w (.ptr id' 0 c' g') v->False:=λ{v} h=>by
   cases h with
   |mem h=>cases h
   |ptr _ _ _ _ ad q hq hd'=>rw[hdead q hq] at hd';cases hd'
  cases hx with
  |w h=>cases h with
   |val h=>cases h with
    |cell h=>exact (hno h).elim
  |c h =>
   cases h with
   |n h=>exact (hno h).elim
   |map=>rfl
   |box _ _ _ b2 hb2 _ he2 =>
    have:b2=b':=Qed (hb2.symm.trans hb)
    subst this;exact (Db0 he2 he).elim
 |_=>intro hs;cases hs
theorem jd0(H:List c8)(et:Nat)(elems:List (List c7)):Pb9 H et elems=H++[{ et,es:=0,elems,own:=true,dead:=false,g:=0 }]:=by simp[Pb9,E5]
theorem jd1 {y : c7} {y' : Value} (hy : XW ρ H F w y y') (hp : Fa1 y = true) (hb : Pb4 Gd6 (A8 y) = true) :
  (A8 y).length=y'.cells.toList.length/\∀(i:Nat) z z',(A8 y)[i]?=some z->y'.cells.toList[i]?=some z'->z'.oneCell'=true/\XC ρ H F w z z':=by
 have hone:∀{i:Nat} {z:c7} {z':Value},(A8 y)[i]?=some z->XC ρ H F w z z'->z'.oneCell'=true/\XC ρ H F w z z':=λ{i z z'} hz hx=>⟨hx.one (Uc9 hb z (List.mem_of_getElem? hz)),hx⟩
 cases hy with
 |w h =>
  obtain⟨h1,h2⟩:=Cb1 h hp;exact⟨h1,λi z z' hz hz'=>hone hz (.n (h2 i z z' hz hz'))⟩
 |c h =>
  have h0:=h;cases h with
  |n h =>
   obtain⟨h1,h2⟩:=Cb1 (.val (.cell h)) hp;exact⟨h1,λi z z' hz hz'=>hone hz (.n (h2 i z z' hz hz'))⟩
  |box id c g b h1 h2 h3 =>
   refine⟨rfl,λi z z' hz hz'=>?_⟩
   cases i with
   |zero=>simp[A8,Value.cells] at hz hz';subst hz hz';exact⟨rfl,h0⟩
   |succ i=>simp[A8] at hz
  |map id c g b t h1 h2 h3 =>
   refine⟨rfl,λi z z' hz hz'=>?_⟩
   cases i with
   |zero=>simp[A8,Value.cells] at hz hz';subst hz hz';exact⟨rfl,h0⟩
   |succ i=>simp[A8] at hz
section
variable{ds:List Deferred}(hC:C2 E.P WB K J ρ0 H0 F0 w0 H ds w ρ F W' up)(hJ:Mb9 K J)
include hC hJ
theorem Rd6 (row : List c7) (vs : Array Value) (t : TypeId) (hl : row.length = vs.size) (hc : ∀ (c : Nat) x x', row[c]? = some x → vs[c]? = some x' → x'.oneCell' = true ∧ XC ρ H F w x x') :
  gb2 E.P WB K J ρ0 H0 F0 w0 ρ H F w up ds (.ptr H.length 0 0 0) (Pb9 H 0 [row]) (.pointer (some ⟨w.heap.size,0,none⟩)) (w.alloc (.cells vs t)):=by
 obtain⟨c1,c2,c3,c4⟩:=hC.alloc hJ (.cells vs t);have hap:∀(id:Nat) b,H[id]?=some b->A9 b=true->b.dead=false->(ρ id).blk≠w.heap.size:=λid b hb hs hd=>Qen (hC.srel.has id b hb hs hd).2.2.2.1
 rw[jd0];have hnew:(w.alloc (.cells vs t)).heap[w.heap.size]?=some (.cells vs t (0,0)):=by simp only[World.alloc,Qel];simp
 have hfirst:∀{x x'},XC ρ H F (w.alloc (.cells vs t)) x x'->XC (ρnew ρ H ⟨w.heap.size,0,0⟩) (H++[{ et:=0,es:=0,elems:=[row],own:=true,dead:=false,g:=0 }]) F (w.alloc (.cells vs t)) x x':=λ{x x'} hx=>by
  have hlt:∀{id:Nat} {b:c8},H[id]?=some b->id<H.length:=λh=>(Qea.1 h).1
  have hρ:∀id,id<H.length->ρnew ρ H ⟨w.heap.size,0,0⟩ id=ρ id:=λid hid=>by simp[ρnew,Qen hid]
  cases hx with
  |n hx =>
   refine .n (hx.carry (λid b hb hd=>?_) (λ_ _ h=>h) (λ_ _ _=>rfl))
   obtain⟨k1,k2⟩:=da8 hb hd;exact⟨b,ba2 (by rw[Qee (hlt k1)];exact k1) k2,hd,Qec _,λ_=>⟨hρ id (hlt k1),rfl,Qec _⟩⟩
  |box id c g b hb hd he =>
   rw[<- hρ id (hlt hb)];exact .box id c g b (by rw[Qee (hlt hb)];exact hb) hd he
  |map id c g b t hb hd he =>
   rw[<- hρ id (hlt hb)];exact .map id c g b t (by rw[Qee (hlt hb)];exact hb) hd he
 obtain⟨d1,d2⟩:=c1.adopt w.heap.size 0 c3 (λh=>h.2 rfl) (λo hf=>c4 o hf) (by simp) hap (λhk=>Qeaa _ (hC.kept _ hk).2) { et:=0,es:=0,elems:=[row],own:=true,dead:=false,g:=0 } (Ta7 ⟨rfl,rfl⟩) rfl
  (.inl ⟨⟨rfl,rfl⟩,row,vs,t,rfl,hnew,hl,λc x x' hx hx'=>by
   obtain⟨k1,k2⟩:=hc c x x' hx hx';have k3:=c2 x x' (.c k2);refine⟨k1,hfirst ?_⟩;cases k3 with
   |c h=>exact h
   |w h =>
    cases k2 with
    |n k2 =>
     cases h with
     |val h =>
      cases h with
      |cell h=>exact .n h
      |agg=>cases k1
      |fn f caps vs' hl' h' =>
       exact .n (k2.carry (λid b hb hd=>⟨b,hb,hd,Qec _,λ_=>⟨rfl,rfl,Qec _⟩⟩) (λ_ _ h=>h) λb o hf=>lb7 (a:=⟨b,o,none⟩) (by
        have:=kb5 (hC.hrel.frz b o hf)
        simp only[World.alloc,Qel];rw[if_neg (Qen this)]))
     |tup=>cases k1
    |box id c g b hb hd he=>exact .box id c g b hb hd he
    |map id c g b t hb hd he=>exact .map id c g b t hb hd he⟩)
 refine⟨_,F,_,d1,λx x' hx=>d2 _ _ (c2 _ _ hx),.c ?_⟩
 have hρn:(ρnew ρ H ⟨w.heap.size,0,0⟩ H.length).blk=w.heap.size:=by simp[ρnew]
 have:=XC.box (ρ:=ρnew ρ H ⟨w.heap.size,0,0⟩) (F:=F) (w:=w.alloc (.cells vs t)) H.length 0 0 { et:=0,es:=0,elems:=[row],own:=true,dead:=false,g:=0 } (H:=H++[{ et:=0,es:=0,elems:=[row],own:=true,dead:=false,g:=0 }]) (by simp) rfl ⟨rfl,rfl⟩
 rwa [hρn] at this
theorem Kd0 {t : TypeId} {z : List c7} (ho : o.op = .alloc t) (hz : zeT E.P t = some z) (he : (kb3 E a H (.balloc z)).run = some (x, H')) :
  i4 E.P o ac w (gb2 E.P WB K J ρ0 H0 F0 w0 ρ H F w up ds x H'):=by
 have he':some (c7.ptr (len H) 0 0 0,Pb9 H 0 [z])=some (x,H'):=he;injection he' with he';injection he' with e1 e2;subst e1 e2
 rw[m8];obtain⟨ti,zv,hi,hzz,rfl,hone⟩:=Sa6 hz;refine .value (x':=.pointer (some ⟨w.heap.size,0,none⟩)) (w':=w.alloc (.cells zv.cells t)) (by simp[execOp,ho,Instr.alloc,zeroValue,typeInfo,hi,hzz,newVar,newRow]) ?_
 refine Rd6 hC hJ _ zv.cells t (by simp) λc y y' hy hy'=>?_
 rw[Qeh] at hy;have hy'':zv.cells.toList[c]?=some y':=by simpa using hy'
 rw[hy''] at hy
 simp at hy
 subst hy;exact⟨hone y' (List.mem_of_getElem? hy''),.n (.v _)⟩
theorem de7 {n : Nat} {t : TypeId} {y : Operand} (hv : VR ρ H F w a (ac.tmps.toList ++ up)) (hn : ac.tmps.size = n) (hG : GOk E F w) (ho : o.op = .box t y) (hy : ltO n y = true) (he : (kb3 E a H (.bbox (g9 y))).run = some (x, H')) :
  i4 E.P o ac w (gb2 E.P WB K J ρ0 H0 F0 w0 ρ H F w up ds x H'):=by
 have hyr:=Ya8 hv hn hG y hy;simp only[kb3] at he;cases hc:(Fa1 (d6 E a (g9 y))&&Pb4 Gd6 (A8 (d6 E a (g9 y)))) with
 |false=>rw[hc] at he;cases he
 |true =>
 rw[hc] at he;have he':some (c7.ptr (len H) 0 0 0,Pb9 H 0 [A8 (d6 E a (g9 y))])=some (x,H'):=he;injection he' with he';injection he' with e1 e2;subst e1 e2
 rw[Qef] at hc;rw[m8];obtain⟨h1,h2⟩:=jd1 hyr hc.1 hc.2;refine .value (x':=.pointer (some ⟨w.heap.size,0,none⟩)) (w':=w.alloc (.cells (ac.eval y).cells t)) (by simp[execOp,ho,Instr.box,newVar,newRow]) ?_
 exact Rd6 hC hJ _ (ac.eval y).cells t (by simpa using h1) λc y y' hy hy'=>h2 c y y' hy (by simpa using hy')
end
end
section
variable{WB K:Nat->Prop}{J:List Value->World->Prop}{ρ ρ0:Rho}{H H0 H':List c8}{F F0:Fz}{w w0 w':World}{W':Nat->Prop}{up:List Value}{E:Env}{a:List c7}{ac:Act}{x:c7}{o:Oper}
variable{ds:List Deferred}{n:Nat}(hC:C2 E.P WB K J ρ0 H0 F0 w0 H ds w ρ F W' up)(hJ:Mb9 K J)(hv:VR ρ H F w a (ac.tmps.toList++up))(hn:ac.tmps.size=n)(hG:GOk E F w)
theorem de8{x:c7}{x':Value}(h:XC ρ H F w x x'):U5 ρ (n8 H) F w (Z0 H x) x':=by
 cases h with
 |n h =>
  unfold Z0;split
  ·split
   ·rename_i b hb;cases A9 b with
    |true=>exact .unk _
    |false=>exact h
   ·exact .unk _
  ·exact h
 |box id c g b hb hd he =>
  unfold Z0;simp only[u9,hb,Ta7 he];exact .unk _
 |map id c g b t hb hd he =>
  unfold Z0;simp only[u9,hb,Ta8 he];exact .unk _
include hC hJ hv hn hG
omit hJ in
theorem Rd7 {t : TypeId} {p : Nat} (ho : o.op = .load t (.tmp p)) (hp : Nat.blt p n = true) (hu : E.P.underlying t ≠ none) (he : (kb3 E a H (.bload (szT E.P t) (agT E.P t) p)).run = some (x, H')) :
  i4 E.P o ac w (gb2 E.P WB K J ρ0 H0 F0 w0 ρ H F w up ds x H'):=by
 have hyr:=Ya8 hv hn hG (.tmp p) hp;simp only[kb3] at he;cases hs:Pb8 0 H (d6 E a (.t p)) with
 |none=>rw[hs] at he;cases he
 |some q =>
 obtain⟨id,c,g,b⟩:=q;rw[hs] at he
 simp only at he
 obtain⟨h1,h2,h3,h4,h5⟩:=bc3 hs hyr;cases hle:Nat.ble (c+szT E.P t) (len (i8 b.elems 0)) with
 |false=>rw[hle] at he;cases he
 |true =>
 rw[hle] at he;obtain⟨z,hz1,hz2⟩:=Ha8 he;obtain⟨e0,rfl⟩:x=z/\H=H':=by injection hz2 with e1 e2;exact⟨e1,e2.symm⟩
 rw[e0]
 clear e0 hz2
 obtain⟨_,_,_,_,hcont⟩:=hC.srel.has id b h2 (Ta7 h4) h3
 rcases hcont with⟨_,row,vs,tt,m1,m2,m3,m4⟩|⟨t',K',El,fl,es,clk,m1,_⟩
 case inr=>exact (Db0 h4 m1).elim
 have hrow:i8 b.elems 0=row:=by rw[m1];rfl
 rw[hrow] at hle hz1;rw[m8] at hle;have hle:=Qey hle;have hti:∃i,E.P.info? t=some i/\i.size=szT E.P t:=by
  cases hd:E.P.underlying t with
  |none=>exact absurd hd hu
  |some d=>exact Sa4 hd
 obtain⟨ti,hi1,hi2⟩:=hti;generalize hsz:szT E.P t=k at *
 have hcell:∀j,j<k->w.cell? ⟨(ρ id).blk,c+j,none⟩=some (vs.getD (c+j) undef):=λj hj=>by
  have hlt:c+j<vs.size:=by omega
  simp[World.cell?,m2,hlt]
 have hrel:∀j,j<k->∀y,row[c+j]?=some y->XC ρ H F w y (vs.getD (c+j) undef):=λj hj y hy=>by
  have hlt:c+j<vs.size:=by omega
  exact (m4 (c+j) y _ hy (by simp[hlt])).2
 have hvals:∀(j:Nat) v,((List.range k).map λj=>vs.getD (c+j) undef)[j]?=some v->w.cell? (Addr.add ⟨(ρ id).blk,c,none⟩ j)=some v:=λj v hj=>by
  obtain⟨hj1,hj2⟩:=za5 hj;rw[R7 rfl];rw[<- hj2];exact hcell j hj1
 have hev:ac.eval (.tmp p)=.pointer (some ⟨(ρ id).blk,c,none⟩):=h5;cases hag:agT E.P t with
 |true =>
  rw[hag] at hz1;have hz1:some (c7.agg (p7 (Z0 H) (I1 (j6 row c) k)))=some z:=hz1;injection hz1 with hz1;subst hz1;have hlc:(Go.loadCells ⟨(ρ id).blk,c,none⟩ k).run E.P w=.ok ((List.range k).map λj=>vs.getD (c+j) undef).toArray w:=by
   have:=run_loadCells_list (P:=E.P) w ⟨(ρ id).blk,c,none⟩ ((List.range k).map λj=>vs.getD (c+j) undef) hvals
   simpa using this
  refine .value (x':=.agg ((List.range k).map λj=>vs.getD (c+j) undef).toArray) (w':=w) ?_ ⟨ρ,F,W',hC,λ_ _ h=>h,.w (.val (.agg _ _ ?_ λi y y' hy hy'=>?_))⟩
  ·simp[execOp,ho,hev,Instr.loadAt,Instr.sureAddr,loadVar,Ra2 hag,sizeOf,typeInfo,hi1,hi2,hlc]
  ·rw[m9,I8,F7];simp;omega
  ·rw[m9,I8,F7,Qeh] at hy;have hy':((List.range k).map λj=>vs.getD (c+j) undef)[i]?=some y':=by simpa using hy'
   obtain⟨hj1,hj2⟩:=za5 hy';rw[Qet,if_pos hj1,List.getElem?_drop] at hy;cases hq:row[c+i]? with
   |none=>rw[hq] at hy;cases hy
   |some q =>
    rw[hq] at hy;injection hy with hy;subst hy;rw[<- hj2];exact de8 (hrel i hj1 q hq)
 |false =>
  rw[hag] at hz1;have hz1:(match I1 (j6 row c) k with | [x]=>some x | _=>none:Option c7)=some z:=hz1
  rw[I8,F7] at hz1;have hk1:k=1/\row[c]?=some z:=by
   have hl:((row.drop c).take k).length=k:=by simp;omega
   split at hz1
   ·rename_i y hy;injection hz1 with hz1;subst hz1;rw[hy] at hl;have hk:k=1:=by simpa using hl.symm
    refine⟨hk,?_⟩;have h0:((row.drop c).take k)[0]?=some y:=by rw[hy];rfl
    rw[Qet,if_pos (by omega),List.getElem?_drop] at h0
    simpa using h0
   ·cases hz1
  obtain⟨hk,hz⟩:=hk1;subst hk;have hc0:=hcell 0 (by omega)
  rw[Nat.add_zero] at hc0;refine .value (x':=vs.getD c undef) (w':=w) ?_ ⟨ρ,F,W',hC,λ_ _ h=>h,.c ?_⟩
  ·simp[execOp,ho,hev,Instr.loadAt,Instr.sureAddr,loadVar,Fa3 hag hu,hc0]
  ·have:=hrel 0 (by omega) z (by rw[Nat.add_zero];exact hz)
   rwa [Nat.add_zero] at this
omit hJ in
theorem de9 {s : TypeId} {p f : Nat} {fs : Array Field} {fd : Field} (ho : o.op = .fieldAddr s (.tmp p) f) (hp : Nat.blt p n = true) (hs' : E.P.underlying s = some (.struct fs)) (hf : fs[f]? = some fd) (hz : szT E.P fd.type ≠ 0)
  (he:(kb3 E a H (.bfld fd.offset p)).run=some (x,H')):i4 E.P o ac w (gb2 E.P WB K J ρ0 H0 F0 w0 ρ H F w up ds x H'):=by
 have hyr:=Ya8 hv hn hG (.tmp p) hp;simp only[kb3] at he;cases hs:Pb8 0 H (d6 E a (.t p)) with
 |none=>rw[hs] at he;cases he
 |some q =>
 obtain⟨id,c,g,b⟩:=q;rw[hs] at he;have he':some (c7.ptr id 0 (c+fd.offset) g,H)=some (x,H'):=he;obtain⟨rfl,rfl⟩:x=c7.ptr id 0 (c+fd.offset) g/\H=H':=by injection he' with he';injection he' with e1 e2;exact⟨e1.symm,e2⟩
 obtain⟨h1,h2,h3,h4,h5⟩:=bc3 hs hyr;obtain⟨ti,hi,hi0,hi1⟩:=rc4 hz;have hev:ac.eval (.tmp p)=.pointer (some ⟨(ρ id).blk,c,none⟩):=h5;refine .value (x':=.pointer (some (Addr.add ⟨(ρ id).blk,c,none⟩ fd.offset))) (w':=w) (by simp[execOp,ho,hev,Instr.fieldAt,Instr.sureAddr,run_underlying hs',hf,fieldPlace,sizeOf,typeInfo,hi,hi1]) ⟨ρ,F,W',hC,λ_ _ h=>h,.c ?_⟩
 rw[R7 rfl];exact .box id (c+fd.offset) g b h2 h3 h4
omit hJ in
theorem Rd8 {p : Nat} (ho : o.op = .move (.tmp p) ∨ o.op = .assign (.tmp p)) (hp : Nat.blt p n = true)
  (he:(kb3 E a H (.bmv p)).run=some (x,H')):i4 E.P o ac w (gb2 E.P WB K J ρ0 H0 F0 w0 ρ H F w up ds x H'):=by
 have hyr:=Ya8 hv hn hG (.tmp p) hp;have he':some (d6 E a (.t p),H)=some (x,H'):=he;injection he' with he';injection he' with e1 e2;subst e1 e2;refine .value (x':=ac.eval (.tmp p)) (w':=w) (by rcases ho with ho | ho<;>simp[execOp,ho]) ⟨ρ,F,W',hC,λ_ _ h=>h,hyr⟩
theorem Kd1 {t : TypeId} {p : Nat} {y : Operand} (ho : o.op = .store t (.tmp p) y) (hp : Nat.blt p n = true) (hy : ltO n y = true) (h0 : szT E.P t ≠ 0) (he : (kb3 E a H (.bstore (szT E.P t) p (g9 y))).run = some (x, H')) :
  i4 E.P o ac w (gb2 E.P WB K J ρ0 H0 F0 w0 ρ H F w up ds x H'):=by
 have hpr:=Ya8 hv hn hG (.tmp p) hp;have hyr:=Ya8 hv hn hG y hy;simp only[kb3] at he;cases hs:Pb8 0 H (d6 E a (.t p)) with
 |none=>rw[hs] at he;cases he
 |some q =>
 obtain⟨id,c,g,b⟩:=q;rw[hs] at he
 simp only at he
 obtain⟨h1,h2,h3,h4,h5⟩:=bc3 hs hpr;generalize hcs:A8 (d6 E a (g9 y))=cs at *
 cases hcc:(Nat.ble (c+szT E.P t) (len (i8 b.elems 0))&&Nat.beq (len cs) (szT E.P t)&&(Fa1 (d6 E a (g9 y))&&Pb4 Gd6 cs)) with
 |false=>rw[hcc] at he;cases he
 |true =>
 rw[hcc] at he;have he':some (c7.v (.tuple #[]),setAt H id { b with elems:=[C9 (i8 b.elems 0) c cs] })=some (x,H'):=he
 injection he' with he';injection he' with e1 e2;subst e1 e2
 simp only[Qef,m8] at hcc;obtain⟨⟨hle,hlen⟩,hpo,hbo⟩:=hcc;have hle:=Qey hle;have hlen:=Qeg hlen;rw[<- hcs] at hbo;obtain⟨k1,k2⟩:=jd1 hyr hpo hbo;rw[hcs] at k1 k2;obtain⟨hWB,hnW,hnF,hlt,hcont⟩:=hC.srel.has id b h2 (Ta7 h4) h3
 rcases hcont with⟨_,row,vs,tt,m1,m2,m3,m4⟩|⟨t',K',El,fl,es,clk,m1,_⟩
 case inr=>exact (Db0 h4 m1).elim
 have hrow:i8 b.elems 0=row:=by rw[m1];rfl
 rw[hrow] at hle ⊢;generalize hys:(ac.eval y).cells.toList=ys at *
 have hl2:ys.length=cs.length:=k1.symm;have hone:∀v∈ys,v.oneCell'=true:=λv hv'=>by
  obtain⟨j,hj,rfl⟩:=List.mem_iff_getElem.1 hv';have hj':j<cs.length:=by omega
  exact (k2 j _ _ (Qeb hj') (Qeb hj)).1
 have hfits:c+ys.length<=vs.size:=by omega
 have hstore:=run_storeCells_at (P:=E.P) (ρ id).blk c tt ys 0 vs w m2 (by simpa using hfits) hone
 simp only[Nat.add_zero] at hstore;obtain⟨ti,hi1,hi2⟩:=ed3 h0;have hsz0:(ac.eval y).cells.size=ti.size:=by
  have:(ac.eval y).cells.toList.length=ys.length:=by rw[hys]
  rw[Array.length_toList] at this;omega
 have hev:ac.eval (.tmp p)=.pointer (some ⟨(ρ id).blk,c,none⟩):=h5;have hid:=(Qea.1 h2).1;rw[w8];refine .skip (w':=w.setRow (ρ id).blk (vs.toList.take c++ys++vs.toList.drop (c+ys.length)).toArray) ?_ ?_
 ·simp[execOp,ho,hev,Instr.storeAt,Instr.sureAddr,storeVar,sizeOf,typeInfo,hi1,hsz0,hys,hstore]
 ·have hheap:=setRow_heap w (ρ id).blk vs (vs.toList.take c++ys++vs.toList.drop (c+ys.length)).toArray tt (0,0) m2;have hsize:((vs.toList.take c++ys++vs.toList.drop (c+ys.length)).toArray).size=vs.size:=by simp;omega
  have hK:=λk (hk:K k)=>hC.kept k hk
  have hnK:∀k,K k->k≠(ρ id).blk:=λk hk e=>hC.far id b h2 (Ta7 h4) h3 (e ▸ hk)
  obtain⟨c1,c2⟩:=hC.change (w':=w.setRow (ρ id).blk (vs.toList.take c++ys++vs.toList.drop (c+ys.length)).toArray) (H':=H.set id { b with elems:=[C9 row c cs] }) (up':=up) (ρ id).blk hWB hnW hnF rfl rfl rfl (Qec _) (by simp[World.setRow]) (λj hj=>setRow_other w _ j _ hj)
   (λcc t' fr hcc=>by rw[m2] at hcc;cases hcc;exact⟨_,hheap,hsize⟩) (by simp)
   (λid' b' hb'=>by
    by_cases e:id=id'
    ·subst e;obtain rfl:b'=b:=Qed (hb'.symm.trans h2);exact⟨{ b' with elems:=[C9 row c cs] },by simp[hid],rfl,rfl,rfl,rfl,by rw[m1];simp,λhs0=>by rw[Ta7 h4] at hs0;cases hs0⟩
    ·exact⟨b',by rw[Qej e];exact hb',rfl,rfl,rfl,rfl,Qec _,λ_=>rfl⟩)
   (λid' b' hb' hs' hd' hne=>by
    have e:id≠id':=λe=>hne (by rw[e])
    rw[Qej e];exact hb')
   (λhx id' b' hb' hs' hd' hblk=>by
    have e:id=id':=Qev λhne=>by
     rw[Qej hne] at hb';exact hC.srel.apart id id' b b' h2 hb' (Ta7 h4) hs' h3 hd' hne hblk.symm
    subst e
    have:b'={ b with elems:=[C9 row c cs] }:=by simpa [hid] using hb'.symm
    subst this;have hfit:c+cs.length<=row.length:=by omega
    refine .inl ⟨h4,_,_,tt,rfl,hheap,by rw[Ia0 hfit,hsize];exact m3,λj u u' hu hu'=>?_⟩
    rw[kb8 hfits] at hu'
    rcases Lb5 hfit hu with⟨g1,g2,g3⟩|⟨g1,g3⟩
    ·rw[if_pos (by omega)] at hu'
     obtain⟨q1,q2⟩:=k2 (j-c) u u' g3 hu';exact⟨q1,hx _ _ q2⟩
    ·rw[if_neg (by omega)] at hu'
     obtain⟨q1,q2⟩:=m4 j u u' g3 hu';exact⟨q1,hx _ _ q2⟩)
   (hJ up w _ (λk hk=>setRow_other w _ k _ (hnK k hk)) hC.jot)
   (λD _ hD e=>by rw[e,m2] at hD;cases hD)
  exact⟨ρ,F,W',c1,c2,.w (.ofv _)⟩
end
section
variable{P:Program}{w:World}
def Rd9(P:Program)(w:World)(em:Bool)(m:Nat)(t:TypeId)(l:List (Nat×CK)):Prop :=
 ∀v:Value,(agT P t=true->v=.agg v.cells)->(agT P t=false->v.cells=#[v])->(∀p∈l,pa7 v.cells p)->(Instr.checkKey em m t v).run P w=.ok () w
theorem Rd9.step {em : Bool} {m : Nat} {t : TypeId} {l : List (Nat × CK)} (h : Rd9 P w em m t l) (hf : be8 P w 0 t l ∨ True) (hu : P.underlying t ≠ none) (hone : agT P t = false → l ≠ [] ∧ ∀ p ∈ l, p.1 = 0) {xs : Array Value} {off : Nat} (hl : ∀ p ∈ l, p.1 < szT P t) (hx : ∀ p ∈ l.map fun p => (off + p.1, p.2), pa7 xs p) :
  ∃a,(part t xs off).run P w=.ok a w/\(Instr.checkKey em m t a).run P w=.ok () w:=by
 have hx':∀p∈l,pa7 xs (off+p.1,p.2):=λp hp=>hx _ (List.mem_map.2 ⟨p,hp,rfl⟩)
 obtain⟨a,a1,a2,a4,a3⟩:=uc0 (w:=w) hu hone hl hx';refine⟨a,a1,h a a2 a4 λp hp=>?_⟩
 have:=hx' p hp;unfold pa7 at this ⊢;rw[a3 p hp];exact this
theorem xc5(em:Bool):∀(d:Nat) (t:TypeId) (l:List (Nat×CK)),V0 P d t=some l->∀m,d<=m->Rd9 P w em m t l
 |0,_,_,h,_,_=>by cases h
 |d+1,t,l,h,0,hm=>by omega
 |d+1,t,l,h,m+1,hm=>by
  intro v hv1 hv2 hv3;unfold V0 at h;cases hu:P.underlying t with
  |none=>simp[hu] at h
  |some u =>
  cases u with
  |int k =>
   simp only[hu] at h;injection h with h;subst h
   have hag:agT P t=false:=rc3 (by simp[hu]) (by simp[hu])
   obtain⟨n,e1⟩:=hv3 (0,.int k) (by simp)
   rw[hv2 hag] at e1;have e1':v=.int k n:=by simpa using e1
   subst e1';simp[Instr.checkKey,run_underlying hu]
  |bool =>
   simp only[hu] at h;injection h with h;subst h
   have hag:agT P t=false:=rc3 (by simp[hu]) (by simp[hu])
   obtain⟨n,e1⟩:=hv3 (0,.bool) (by simp)
   rw[hv2 hag] at e1;have e1':v=.bool n:=by simpa using e1
   subst e1';simp[Instr.checkKey,run_underlying hu]
  |struct fs =>
   simp only[hu] at h
   split at h
   ·cases h
   have hag:agT P t=true:=by simp[agT,hu]
   rw[hv1 hag];generalize v.cells=xs at *
   rw[Instr.checkKey];simp only[Sem.run_bind,run_underlying hu,Result.andThen_ok];rw[<- Array.forIn_toList]
   clear hu hv1 hv2 hag
   generalize fs.toList=fl at *
   induction fl generalizing l with
   |nil=>simp
   |cons f fl ih =>
    simp only[Qeab,da7] at h
    split at h
    ·rename_i l1 l2 e1 e2;injection h with h;subst h
     split at e1
     ·cases e1
     rename_i hnm;obtain⟨l',g1,g2,g3⟩:=xa4 e1;subst g3;have hfl:=Ya4 (w:=w) d f.type l' g1;obtain⟨a,p1,p2⟩:=(xc5 em d f.type l' g1 m (by omega)).step (w:=w) (.inr trivial) hfl.und hfl.one g2 (λp hp=>hv3 p (List.mem_append_left _ hp))
     simp only[List.forIn_cons,Sem.run_bind,hnm,ne_eq,not_false_eq_true,if_true,Result.andThen_ok,p1,p2,Sem.run_pure];exact ih l2 (λp hp=>hv3 p (Qez _ hp)) e2
    ·cases h
  |array n e =>
   simp only[hu] at h
   split at h
   case isFalse=>cases h
   rename_i hi;obtain⟨ti,hi⟩:=Option.isSome_iff_exists.1 hi;have hag:agT P t=true:=by simp[agT,hu]
   rw[hv1 hag];generalize v.cells=xs at *
   rw[Instr.checkKey];simp only[Sem.run_bind,run_underlying hu,Result.andThen_ok];simp only[Std.Legacy.Range.forIn_eq_forIn_range',Std.Legacy.Range.size,Nat.sub_zero,Nat.add_one_sub_one,Nat.div_one];rw[List.range_eq_range'] at h;have hsz:∀w:World,(sizeOf e).run P w=.ok (szT P e) w:=λw=>by simp[sizeOf,typeInfo,hi,szT]
   clear hu hv1 hv2 hag
   generalize List.range' 0 n=fl at *
   induction fl generalizing l with
   |nil=>simp
   |cons f fl ih =>
    simp only[Qeab,da7] at h
    split at h
    ·rename_i l1 l2 e1 e2;injection h with h;subst h
     obtain⟨l',g1,g2,g3⟩:=xa4 e1;subst g3;have hfl:=Ya4 (w:=w) d e l' g1;obtain⟨a,p1,p2⟩:=(xc5 em d e l' g1 m (by omega)).step (w:=w) (.inr trivial) hfl.und hfl.one g2 (λp hp=>hv3 p (List.mem_append_left _ hp))
     simp only[List.forIn_cons,Sem.run_bind,hsz,Result.andThen_ok,p1,p2,Sem.run_pure];exact ih l2 (λp hp=>hv3 p (Qez _ hp)) e2
    ·cases h
  |_=>simp[hu] at h
theorem vd1 {fl : List (Nat × CK)} (hk : ∀ p ∈ fl, (∃ i, p.2 = .int i) ∨ p.2 = .bool) {vs us : Array Value} (h1 : ∀ p ∈ fl, pa7 vs p) (h2 : ∀ p ∈ fl, pa7 us p) {cs ds : List c7} (hc : ∀ (i : Nat) v, vs[i]? = some v → hdA (j6 cs i) = .v v) (hd : ∀ (i : Nat) v, us[i]? = some v → hdA (j6 ds i) = .v v) :
  fl.all (La6 vs us)=Fb2 fl cs ds:=by
 induction fl with
 |nil=>rfl
 |cons p fl ih =>
  have e:Fb2 (p::fl) cs ds=(me2 p.2 (hdA (j6 cs p.1)) (hdA (j6 ds p.1))&&Fb2 fl cs ds):=rfl;rw[List.all_cons,ih (λq hq=>hk q (by simp[hq])) (λq hq=>h1 q (by simp[hq])) (λq hq=>h2 q (by simp[hq])),e]
  congr 1;have g1:=h1 p (by simp)
  have g2:=h2 p (by simp)
  obtain⟨n,kk⟩:=p;unfold pa7 at g1 g2;unfold La6
  rcases hk (n,kk) (by simp) with⟨i,hi⟩|hi
  ·simp only at hi;subst hi
   obtain⟨m,hm⟩:=g1;obtain⟨m',hm'⟩:=g2
   simp only at hm hm' ⊢
   rw[hc n _ hm,hd n _ hm',hm,hm'];rfl
  ·simp only at hi;subst hi
   obtain⟨m,hm⟩:=g1;obtain⟨m',hm'⟩:=g2
   simp only at hm hm' ⊢
   rw[hc n _ hm,hd n _ hm',hm,hm'];rfl
theorem Sd0{ks:Array Value}{r:List c7}(i:Nat)(v:Value)(h:ks[i]?=some v):hdA (j6 (ks.toList.map .v++r) i)=.v v:=by
 rw[Qb7];have hlt:=(Qek.1 h).1;rw[Qee (by simpa using hlt),Qeh]
 simp[h]
theorem oe9{ks:Array Value}(i:Nat)(v:Value)(h:ks[i]?=some v):hdA (j6 (ks.toList.map .v) i)=.v v:=by
 have:=Sd0 (r:=[]) i v h
 rwa [List.append_nil] at this
section
variable{K:TypeId}{fl:List (Nat×CK)}{kl:Nat}(hag:agT P K=true)(hf:V0 P 9 K=some fl)
include hag hf
theorem pe0{ks us:Array Value}(h1:∀p∈fl,pa7 ks p)(h2:∀p∈fl,pa7 us p):(Op.equal K (.agg ks) (.agg us)).run P w=.ok (fl.all (La6 ks us)) w :=
 (Ya4 (w:=w) (9+9991) K fl (Lb8 hf 9991)).eq (.agg ks) (.agg us) (λ_=>rfl) (λ_=>rfl) (λh=>by rw[hag] at h;cases h) (λh=>by rw[hag] at h;cases h) h1 h2
theorem jd2 {ks : Array Value} (h1 : ∀ p ∈ fl, pa7 ks p) : ∀ (es : List MapEntry) (rows : List (List c7)) (i : Nat), es.length = rows.length → (∀ (j : Nat) r e, rows[j]? = some r → es[j]? = some e → xc2 fl kl r e) →
  ((Instr.findAsking K (.agg ks) es i).run P w=.ok none w/\hc8 fl (ks.toList.map .v) rows=none/\∀new,Z1 fl (ks.toList.map .v) new rows=rows++[new]) \/
  (∃j e r,(Instr.findAsking K (.agg ks) es i).run P w=.ok (some (i+j,e.val)) w/\es[j]?=some e/\rows[j]?=some r/\hc8 fl (ks.toList.map .v) rows=some r/\(∀new,Z1 fl (ks.toList.map .v) new rows=rows.set j new)/\∃us,e.key=.agg us/\fl.all (La6 ks us)=true)
 |[],[],i,_,_=>.inl ⟨by simp[Instr.findAsking],rfl,λnew=>rfl⟩
 |[],r::rows,i,hl,_=>by simp at hl
 |e::es,[],i,hl,_=>by simp at hl
 |e::es,r::rows,i,hl,hr=>by
  obtain⟨us,v,g1,g2,g3,g4,g5⟩:=hr 0 r e rfl rfl;have hk:=Sa7 9 K fl hf;have he:=pe0 (w:=w) hag hf h1 g5;have hq:fl.all (La6 ks us)=Fb2 fl (ks.toList.map .v) r:=by
   rw[g1];exact vd1 hk h1 g5 oe9 Sd0
  have eR:hc8 fl (ks.toList.map .v) (r::rows)=Bool.rec (motive:=λ_=>Option (List c7)) (hc8 fl (ks.toList.map .v) rows) (some r) (Fb2 fl (ks.toList.map .v) r):=rfl
  have eU:∀new,Z1 fl (ks.toList.map .v) new (r::rows)=Bool.rec (motive:=λ_=>List (List c7)) (r::Z1 fl (ks.toList.map .v) new rows) (new::rows) (Fb2 fl (ks.toList.map .v) r):=λ_=>rfl
  cases hb:fl.all (La6 ks us) with
  |true =>
   rw[hb] at he;rw[hb] at hq;refine .inr ⟨0,e,r,by simp[Instr.findAsking,g3,he],rfl,rfl,by rw[eR,<- hq],λnew=>by rw[eU,<- hq];rfl,us,g3,hb⟩
  |false =>
   rw[hb] at he;rw[hb] at hq
   rcases jd2 h1 es rows (i+1) (by simpa using hl) (λj r' e' hj hj'=>hr (j+1) r' e' (by simpa using hj) (by simpa using hj')) with⟨k1,k2,k3⟩|⟨j,e',r',k1,k2,k3,k4,k5,k6⟩
   ·refine .inl ⟨by simp[Instr.findAsking,g3,he,k1],by rw[eR,<- hq];exact k2,λnew=>by rw[eU,<- hq];show r::Z1 _ _ _ _=_;rw[k3 new];rfl⟩
   ·refine .inr ⟨j+1,e',r',by simp[Instr.findAsking,g3,he,k1,Nat.add_assoc,Nat.add_comm 1 j],by simpa using k2,by simpa using k3,by rw[eR,<- hq];exact k4,λnew=>by rw[eU,<- hq];show r::Z1 _ _ _ _=_;rw[k5 new];rfl,k6⟩
end
end
def vb4(fl:List (Nat×CK))(kl:Nat):Bool:=(List.range kl).all λi=>fl.any λp=>Nat.beq p.1 i
def Sd1(P:Program)(t:TypeId):Bool:=match P.info? t with
 |some i=>match i.zero with
  |some (.bool b)=>!b
  |_=>false
 |none=>false
theorem Pc2{fl:List (Nat×CK)}{kl i:Nat}(h:vb4 fl kl=true)(hi:i<kl):∃p∈fl,p.1=i:=by
 unfold vb4 at h;rw[Qew] at h
 have:=h i (List.mem_range.2 hi)
 rw[List.any_eq_true] at this;obtain⟨p,h1,h2⟩:=this;exact⟨p,h1,Qeg h2⟩
section
variable{WB K:Nat->Prop}{J:List Value->World->Prop}{ρ ρ0:Rho}{H H0 H':List c8}{F F0:Fz}{w w0 w':World}{W':Nat->Prop}{up:List Value}{E:Env}{a:List c7}{ac:Act}{x:c7}{o:Oper}
theorem Kd2{x x':Value}(h:XW ρ H F w (.v x) x'):x'=x:=by
 cases h with
 |w h=>exact Z2 h
 |c h=>cases h with
  |n h=>exact Z2 (.val (.cell h))
theorem Sd2 {fl : List (Nat × CK)} {kl : Nat} {ks : List c7} {v : Value} (hcov : vb4 fl kl = true) (hk : ∀ p ∈ fl, (∃ i, p.2 = .int i) ∨ p.2 = .bool) (hx : XW ρ H F w (.agg ks) v) (hlen : ks.length = kl) (hok : rd2 fl ks = true) :
  ∃vs:Array Value,v=.agg vs/\ks=vs.toList.map .v/\vs.size=kl/\∀p∈fl,pa7 vs p:=by
 have hx':z7 ρ (n8 H) F w (.agg ks) v:=by
  cases hx with
  |w h=>exact h
  |c h=>cases h with
   |n h=>exact .val (.cell h)
 obtain⟨vs,rfl,hl,hr⟩:=pa6 hx';have h1:=uc2 hok;have k1:∀p∈fl,pa7 vs p:=λp hp=>(tb6 hl hr (hk p hp) (h1 p hp)).1
 refine⟨vs,rfl,List.ext_getElem (by simpa using hl) λi hi hi'=>?_,by rw[<- hl];exact hlen,k1⟩
 obtain⟨p,hp,rfl⟩:=Pc2 hcov (hlen ▸ hi);have h2:=h1 p hp;rw[Qb7,Qeb hi] at h2;simp only[Option.getD_some] at h2;have hi2:p.1<vs.size:=hl ▸ hi;have hrel:=hr p.1 _ _ (Qeb hi) (Qei hi2);have hv:∃u,ks[p.1]=.v u:=by
  rcases hk p hp with⟨q,e⟩|e<;>rw[e] at h2<;>revert h2<;>cases ks[p.1]<;>intro h2<;>first|exact⟨_,rfl⟩|cases h2
 obtain⟨u,hu⟩:=hv;rw[hu] at hrel ⊢
 have:=Z2 (.val (.cell hrel))
 simp[this]
theorem Sd3(m:Nat)(k:IntKind)(a:Int):Instr.sameBits m (.int k a) (.int k a)=true:=by cases m<;>simp[Instr.sameBits]
theorem Kd3(m:Nat)(a:Bool):Instr.sameBits m (.bool a) (.bool a)=true:=by cases m<;>simp[Instr.sameBits]
theorem Kd4 {fl : List (Nat × CK)} {kl m : Nat} {ks us : Array Value} (hcov : vb4 fl kl = true) (hk : ∀ p ∈ fl, (∃ i, p.2 = .int i) ∨ p.2 = .bool) (h1 : ks.size = kl) (h2 : us.size = kl) (a1 : ∀ p ∈ fl, pa7 ks p) (a2 : ∀ p ∈ fl, pa7 us p) (he : fl.all (La6 ks us) = true) :
  Instr.sameBits (m+1) (.agg us) (.agg ks)=true:=by
 rw[Instr.sameBits];rw[Qef];refine⟨by simp[h1,h2],?_⟩
 rw[Qew];intro q hq;obtain⟨i,hi,hq⟩:=List.mem_iff_getElem.1 hq;rw[List.getElem_zip] at hq;have hi':i<kl:=by rw[List.length_zip,Array.length_toList,Array.length_toList] at hi;omega
 obtain⟨p,hp,rfl⟩:=Pc2 hcov hi';have e:=Qew.1 he p hp;have b1:=a1 p hp;have b2:=a2 p hp;have g1:ks[p.1]?=some (ks[p.1]'(by omega)):=Qei _
 have g2:us[p.1]?=some (us[p.1]'(by omega)):=Qei _
 rw[<- hq];simp only[Array.getElem_toList];unfold pa7 at b1 b2;unfold La6 at e
 rcases hk p hp with⟨k,hkk⟩|hkk
 ·rw[hkk] at b1 b2;obtain⟨n,b1⟩:=b1;obtain⟨n',b2⟩:=b2;rw[b1,b2] at e;have e:n=n':=by simpa using e
  subst e;rw[g1] at b1;rw[g2] at b2;rw[Qed b1,Qed b2];exact Sd3 _ _ _
 ·rw[hkk] at b1 b2;obtain⟨n,b1⟩:=b1;obtain⟨n',b2⟩:=b2;rw[b1,b2] at e;have e:n=n':=by simpa using e
  subst e;rw[g1] at b1;rw[g2] at b2;rw[Qed b1,Qed b2];exact Kd3 _ _
theorem vb5{k:Nat}{es:Array MapEntry}{clk:Nat}(P:Program)(h:w.heap[k]?=some (.map es clk)):(getObj k).run P w=.ok (.map es clk) w:=by simp[getObj,Sem.run,h]
theorem vb6{k:Nat}{es:Array MapEntry}{clk:Nat}(P:Program)(o:Obj)(h:w.heap[k]?=some (.map es clk)):(setObj k o).run P w=.ok () (w.putObj k o):=by simp[setObj,Sem.run,h,World.putObj]
theorem ic6 {P : Program} {t : TypeId} {fl : List (Nat × CK)} {kl : Nat} (hag : agT P t = true) (hf : V0 P 9 t = some fl) {ks : Array Value} (h1 : ∀ p ∈ fl, pa7 ks p) (es : List MapEntry) (rows : List (List c7)) (hl : es.length = rows.length) (hr : ∀ (j : Nat) r e, rows[j]? = some r → es[j]? = some e → xc2 fl kl r e) :
  ((Instr.findKey t (.agg ks) es).run P w=.ok none w/\hc8 fl (ks.toList.map .v) rows=none/\∀new,Z1 fl (ks.toList.map .v) new rows=rows++[new]) \/
  (∃j e r,(Instr.findKey t (.agg ks) es).run P w=.ok (some (j,e.val)) w/\es[j]?=some e/\rows[j]?=some r/\hc8 fl (ks.toList.map .v) rows=some r/\(∀new,Z1 fl (ks.toList.map .v) new rows=rows.set j new)/\∃us,e.key=.agg us/\fl.all (La6 ks us)=true):=by
 have hu:∃d,P.underlying t=some d/\∀e es i,Instr.findNow d (.agg ks) (e::es) i=none:=by
  unfold agT at hag
  split at hag
  ·rename_i fs h;exact⟨_,h,λe es i=>rfl⟩
  ·rename_i n e h;exact⟨_,h,λe es i=>rfl⟩
  ·cases hag
 obtain⟨d,hd,hnow⟩:=hu
 have:=jd2 (w:=w) (kl:=kl) hag hf h1 es rows 0 hl hr
 have e0:(Instr.findKey t (.agg ks) es).run P w=(Instr.findAsking t (.agg ks) es 0).run P w:=by
  unfold Instr.findKey;simp only[Sem.run_bind,run_underlying hd,Result.andThen_ok];cases es with
  |nil=>simp[Instr.findNow,Instr.findAsking]
  |cons e es=>rw[hnow]
 rw[e0];simpa using this
section
variable{ds:List Deferred}{n:Nat}(hC:C2 E.P WB K J ρ0 H0 F0 w0 H ds w ρ F W' up)(hJ:Mb9 K J)
include hC hJ
theorem Sd4 {t : TypeId} {kt el : TypeId} {fl : List (Nat × CK)} (ho : o.op = .makeMap t none) (hu : E.P.underlying t = some (.map kt el)) (hf : V0 E.P 9 kt = some fl) (he : (kb3 E a H (.mmake t)).run = some (x, H')) :
  i4 E.P o ac w (gb2 E.P WB K J ρ0 H0 F0 w0 ρ H F w up ds x H'):=by
 have he':some (c7.ptr (len H) 0 0 0,Pb9 H (t+1) [])=some (x,H'):=he;injection he' with he';injection he' with e1 e2;subst e1 e2
 rw[m8];obtain⟨c1,c2,c3,c4⟩:=hC.alloc hJ (.map #[] 0);have hap:∀(id:Nat) b,H[id]?=some b->A9 b=true->b.dead=false->(ρ id).blk≠w.heap.size:=λid b hb hs hd=>Qen (hC.srel.has id b hb hs hd).2.2.2.1
 rw[jd0];have hnew:(w.alloc (.map #[] 0)).heap[w.heap.size]?=some (.map #[] 0):=World.alloc_heap_new w _;refine .value (x':=.map (some w.heap.size)) (w':=w.alloc (.map #[] 0)) (by simp[execOp,ho,Instr.makeMap,run_newObj_alloc]) ?_
 obtain⟨d1,d2⟩:=c1.adopt w.heap.size 0 c3 (λh=>h.2 rfl) (λo hf=>c4 o hf) (by simp) hap (λhk=>Qeaa _ (hC.kept _ hk).2) { et:=t+1,es:=0,elems:=[],own:=true,dead:=false,g:=0 } (Ta8 (t:=t) ⟨rfl,rfl⟩) rfl
  (.inr ⟨t,kt,el,fl,#[],0,⟨rfl,rfl⟩,hu,hf,hnew,rfl,λi r e hr=>by simp at hr⟩)
 refine⟨_,F,_,d1,λx x' hx=>d2 _ _ (c2 _ _ hx),.c ?_⟩
 have hρn:(ρnew ρ H ⟨w.heap.size,0,0⟩ H.length).blk=w.heap.size:=by simp[ρnew]
 have:=XC.map (ρ:=ρnew ρ H ⟨w.heap.size,0,0⟩) (F:=F) (w:=w.alloc (.map #[] 0)) H.length 0 0 { et:=t+1,es:=0,elems:=[],own:=true,dead:=false,g:=0 } t (H:=H++[{ et:=t+1,es:=0,elems:=[],own:=true,dead:=false,g:=0 }]) (by simp) rfl ⟨rfl,rfl⟩
 rwa [hρn] at this
variable(hv:VR ρ H F w a (ac.tmps.toList++up))(hn:ac.tmps.size=n)(hG:GOk E F w)
include hv hn hG
omit hJ in
theorem Sd5 {t : TypeId} {kt el : TypeId} {fl : List (Nat × CK)} {m : Nat} {y : Operand} (ho : o.op = .lookup t (.tmp m) y false) (hm : Nat.blt m n = true) (hy : ltO n y = true) (hu : E.P.underlying t = some (.map kt el)) (hag : agT E.P kt = true) (hf : V0 E.P 9 kt = some fl) (hcov : vb4 fl (szT E.P kt) = true) (hz : Sd1 E.P el = true)
  (he:(kb3 E a H (.mlook t (szT E.P kt) fl m (g9 y))).run=some (x,H')) :
  i4 E.P o ac w (gb2 E.P WB K J ρ0 H0 F0 w0 ρ H F w up ds x H'):=by
 have hmr:=Ya8 hv hn hG (.tmp m) hm;have hyr:=Ya8 hv hn hG y hy;have hev:(ac.eval (.tmp m))=ac.tmps.getD m undef:=rfl;simp only[kb3] at he;have hcA:g9 (.tmp m)=.t m:=rfl;rw[hcA] at hmr;cases hs:Pb8 (t+1) H (d6 E a (.t m)) with
 |none=>rw[hs] at he;cases he
 |some q =>
 obtain⟨id,c,g,b⟩:=q;rw[hs] at he
 simp only at he
 obtain⟨h1,h2,h3,h4,h5⟩:=Pc1 hs hmr
 revert he hyr
 generalize d6 E a (g9 y)=ya;intro hyr he
 split at he
 case h_2=>cases he
 ·rename_i ks;obtain⟨hgd,he⟩:=DT.run_guard_some he;have he:some (c7.v (.bool (Sa1 (szT E.P kt) fl ks b.elems)),H)=some (x,H'):=he;rw[Qef,m8] at hgd;obtain⟨vs,e1,e2,e3,e4⟩:=Sd2 hcov (Sa7 9 kt fl hf) hyr (Qeg hgd.1) hgd.2;obtain⟨rfl,rfl⟩:x=c7.v (.bool (Sa1 (szT E.P kt) fl ks b.elems))/\H=H':=by injection he with he;injection he with e1 e2;exact⟨e1.symm,e2⟩
  subst e2;obtain⟨_,_,_,_,hcont⟩:=hC.srel.has id b h2 (Ta8 h4) h3
  rcases hcont with⟨hb,_⟩|⟨t',K',El,fl',es,clk,m1,m2,m3,m4,m5,m6⟩
  ·exact (Db0 hb h4).elim
  have ht:t'=t:=Nat.succ.inj (m1.2.symm.trans h4.2);subst ht;rw[hu] at m2;injection m2 with m2;injection m2 with q1 q2;subst q1 q2
  rw[hf] at m3;injection m3 with m3;subst m3
  have hlen:es.toList.length=b.elems.length:=by rw[Array.length_toList];exact m5.symm
  have hrow:∀(j:Nat) r e,b.elems[j]?=some r->es.toList[j]?=some e->xc2 fl (szT E.P kt) r e:=λj r e hr he=>m6 j r e hr (by simpa using he)
  have hfind:=ic6 (w:=w) (kl:=szT E.P kt) hag hf e4 es.toList b.elems hlen hrow;have hck:(Instr.checkKey es.isEmpty 10000 kt (.agg vs)).run E.P w=.ok () w:=xc5 es.isEmpty 9 kt fl hf 10000 (by decide) (.agg vs) (λ_=>rfl) (λh=>by rw[hag] at h;cases h) e4
  have hgo:(getObj (ρ id).blk).run E.P w=.ok (.map es clk) w:=vb5 E.P m4
  rcases hfind with⟨k1,k2,_⟩|⟨j,e,r,k1,k2,k3,k4,_,_⟩
  ·have hz' : (zeroValue el).run E.P w = .ok (.bool false) w := by
    unfold Sd1 at hz
    split at hz
    ·rename_i i hi
     split at hz
     ·rename_i bb hbb;cases bb with
      |true=>cases hz
      |false=>simp[zeroValue,typeInfo,hi,hbb]
     ·cases hz
    ·cases hz
   refine .value (x':=.bool false) (w':=w) ?_ ⟨ρ,F,W',hC,λ_ _ h=>h,?_⟩
   ·simp[execOp,ho,Instr.lookup,run_underlying hu,h5,e1,hgo,hck,k1,hz']
   ·unfold Sa1;rw[k2];exact .w (.val (.cell (.v _)))
  ·obtain⟨us,bb,g1,g2,g3,g4,g5⟩:=hrow j r e k3 k2;refine .value (x':=.bool bb) (w':=w) ?_ ⟨ρ,F,W',hC,λ_ _ h=>h,?_⟩
   ·simp[execOp,ho,Instr.lookup,run_underlying hu,h5,e1,hgo,hck,k1,g4]
   ·unfold Sa1;rw[k4]
    have:toB (hdA (j6 r (szT E.P kt)))=bb:=by
     rw[Qb7,g1,<- g2];rw[Qep (by simp)]
     simp[toB]
    show XW ρ H F w (.v (.bool (toB (hdA (j6 r (szT E.P kt)))))) _;rw[this];exact .w (.val (.cell (.v _)))
theorem ee0 {t : TypeId} {kt el : TypeId} {fl : List (Nat × CK)} {m : Nat} {y z : Operand} (ho : o.op = .mapUpdate t (.tmp m) y z) (hm : Nat.blt m n = true) (hy : ltO n y = true) (hz : ltO n z = true) (hu : E.P.underlying t = some (.map kt el)) (hag : agT E.P kt = true) (hf : V0 E.P 9 kt = some fl) (hcov : vb4 fl (szT E.P kt) = true)
  (he:(kb3 E a H (.mupd t (szT E.P kt) fl m (g9 y) (g9 z))).run=some (x,H')) :
  i4 E.P o ac w (gb2 E.P WB K J ρ0 H0 F0 w0 ρ H F w up ds x H'):=by
 have hmr:=Ya8 hv hn hG (.tmp m) hm;have hyr:=Ya8 hv hn hG y hy;have hzr:=Ya8 hv hn hG z hz;simp only[kb3] at he;have hcA:g9 (.tmp m)=.t m:=rfl;rw[hcA] at hmr;cases hs:Pb8 (t+1) H (d6 E a (.t m)) with
 |none=>rw[hs] at he;cases he
 |some q =>
 obtain⟨id,c,g,b⟩:=q;rw[hs] at he
 simp only at he
 obtain⟨h1,h2,h3,h4,h5⟩:=Pc1 hs hmr
 revert he hyr hzr
 generalize d6 E a (g9 y)=ya;generalize d6 E a (g9 z)=za;intro hyr hzr he
 split at he
 case h_2=>cases he
 rename_i ks bv;obtain⟨hgd,he⟩:=DT.run_guard_some he;have he:some (c7.v (.tuple #[]),setAt H id { b with elems:=Z1 fl ks (app ks [.v (.bool bv)]) b.elems })=some (x,H'):=he
 rw[Qef,m8] at hgd;have hkinds:=Sa7 9 kt fl hf;obtain⟨vs,e1,e2,e3,e4⟩:=Sd2 hcov hkinds hyr (Qeg hgd.1) hgd.2;have e5:=Kd2 hzr;injection he with he;injection he with q1 q2
 subst q1 q2 e2;obtain⟨hWB,hnW,hnF,hlt,hcont⟩:=hC.srel.has id b h2 (Ta8 h4) h3
 rcases hcont with⟨hb,_⟩|⟨t',K',El,fl',es,clk,m1,m2,m3,m4,m5,m6⟩
 ·exact (Db0 hb h4).elim
 have ht:t'=t:=Nat.succ.inj (m1.2.symm.trans h4.2);subst ht;rw[hu] at m2;injection m2 with m2;injection m2 with q1 q2;subst q1 q2
 rw[hf] at m3;injection m3 with m3;subst m3
 have hlen:es.toList.length=b.elems.length:=by rw[Array.length_toList];exact m5.symm
 have hrow:∀(j:Nat) r e,b.elems[j]?=some r->es.toList[j]?=some e->xc2 fl (szT E.P kt) r e:=λj r e hr he=>m6 j r e hr (by simpa using he)
 have hfind:=ic6 (w:=w) (kl:=szT E.P kt) hag hf e4 es.toList b.elems hlen hrow;have hck:(Instr.checkKey false 10000 kt (.agg vs)).run E.P w=.ok () w:=xc5 false 9 kt fl hf 10000 (by decide) (.agg vs) (λ_=>rfl) (λh=>by rw[hag] at h;cases h) e4
 have hgo:(getObj (ρ id).blk).run E.P w=.ok (.map es clk) w:=vb5 E.P m4;have hnK:∀k,K k->k≠(ρ id).blk:=λk hk e=>hC.far id b h2 (Ta8 h4) h3 (e ▸ hk)
 have hid:=(Qea.1 h2).1;have hnewrow:∀us:MapEntry,xc2 fl (szT E.P kt) (app (vs.toList.map .v) [.v (.bool bv)]) { us with key:=.agg vs,val:=.bool bv }:=λus=>⟨vs,bv,by rw[E5],e3,rfl,rfl,e4⟩
 have hfin : ∀ (es' : Array MapEntry) (clk' : Nat), (Z1 fl (vs.toList.map .v) (app (vs.toList.map .v) [.v (.bool bv)]) b.elems).length = es'.size → b.elems.length ≤ es'.size → (∀ (i : Nat) r e, (Z1 fl (vs.toList.map .v) (app (vs.toList.map .v) [.v (.bool bv)]) b.elems)[i]? = some r → es'[i]? = some e → xc2 fl (szT E.P kt) r e) →
   gb2 E.P WB K J ρ0 H0 F0 w0 ρ H F w up ds (.v (.tuple #[])) (H.set id { b with elems:=Z1 fl (vs.toList.map .v) (app (vs.toList.map .v) [.v (.bool bv)]) b.elems }) (.tuple #[]) (w.putObj (ρ id).blk (.map es' clk')):=λes' clk' hl1 hl2 hrows=>by
  obtain⟨c1,c2⟩:=hC.change (w':=w.putObj (ρ id).blk (.map es' clk')) (H':=H.set id { b with elems:=Z1 fl (vs.toList.map .v) (app (vs.toList.map .v) [.v (.bool bv)]) b.elems }) (up':=up) (ρ id).blk hWB hnW hnF rfl rfl rfl (Qec _) (by simp) (λj hj=>World.putObj_heap_other hj)
   (λcc t' fr hcc=>by rw[m4] at hcc;cases hcc) (by simp)
   (λid' b' hb'=>by
    by_cases e:id=id'
    ·subst e;obtain rfl:b'=b:=Qed (hb'.symm.trans h2);exact⟨{ b' with elems:=Z1 fl (vs.toList.map .v) (app (vs.toList.map .v) [.v (.bool bv)]) b'.elems },by simp[hid],rfl,rfl,rfl,rfl,by simp only;rw[hl1];exact hl2,λhs0=>by rw[Ta8 h4] at hs0;cases hs0⟩
    ·exact⟨b',by rw[Qej e];exact hb',rfl,rfl,rfl,rfl,Qec _,λ_=>rfl⟩)
   (λid' b' hb' hs' hd' hne=>by
    have e:id≠id':=λe=>hne (by rw[e])
    rw[Qej e];exact hb')
   (λhx id' b' hb' hs' hd' hblk=>by
    have e:id=id':=Qev λhne=>by
     rw[Qej hne] at hb';exact hC.srel.apart id id' b b' h2 hb' (Ta8 h4) hs' h3 hd' hne hblk.symm
    subst e
    have:b'={ b with elems:=Z1 fl (vs.toList.map .v) (app (vs.toList.map .v) [.v (.bool bv)]) b.elems }:=by simpa [hid] using hb'.symm
    subst this;exact .inr ⟨t',kt,el,fl,es',clk',h4,hu,hf,World.putObj_heap_same hlt,hl1,hrows⟩)
   (hJ up w _ (λk hk=>World.putObj_heap_other (hnK k hk)) hC.jot)
   (λD _ hD e=>by rw[e,m4] at hD;cases hD)
  exact⟨ρ,F,W',c1,c2,.w (.ofv _)⟩
 rw[w8]
 rcases hfind with⟨k1,_,k3⟩|⟨j,e,r,k1,k2,k3,k4,k5,us,k6,k7⟩
 ·have hso:=vb6 E.P (.map (es.push { key:=.agg vs,val:=.bool bv,born:=clk }) (clk+1)) m4;refine .skip (w':=w.putObj (ρ id).blk (.map (es.push { key:=.agg vs,val:=.bool bv,born:=clk }) (clk+1))) ?_ (hfin _ _ ?_ ?_ ?_)
  ·simp[execOp,ho,Instr.mapUpdate,run_underlying hu,h5,e1,e5,hgo,hck,k1,hso]
  ·rw[k3];simp[m5]
  ·simp[m5]
  ·intro i r e hr he;rw[k3] at hr;by_cases hi:i<b.elems.length
   ·rw[Qee hi] at hr;rw[Qel,if_neg (by omega)] at he
    exact m6 i r e hr he
   ·rw[Qep (by omega)] at hr
    have hi0:i-b.elems.length=0:=by
     rcases Qes (i-b.elems.length) with h|h
     ·exact h
     ·rw[Qeo (by simp;omega)] at hr;cases hr
    rw[hi0] at hr;rw[Qel,if_pos (by omega)] at he
    simp at hr he
    subst hr he;exact hnewrow { key:=.agg vs,val:=.bool bv,born:=clk }
 ·have k2':es[j]?=some e:=by simpa using k2
  obtain⟨us',bb,g1,g2,g3,g4,g5⟩:=hrow j r e k3 k2;rw[k6] at g3;injection g3 with g3;subst g3;have hsame:Instr.sameBits 10000 (.agg us) (.agg vs)=true:=Kd4 (m:=9999) hcov hkinds e3 g2 e4 g5 k7;have hso:=vb6 E.P (.map (es.modify j λe=>{ e with key:=.agg vs,val:=.bool bv }) clk) m4
  refine .skip (w':=w.putObj (ρ id).blk (.map (es.modify j λe=>{ e with key:=.agg vs,val:=.bool bv }) clk)) ?_ (hfin _ _ ?_ ?_ ?_)
  ·simp[execOp,ho,Instr.mapUpdate,run_underlying hu,h5,e1,e5,hgo,hck,k1,k2',k6,Instr.keyThatStays,hsame,hso]
  ·rw[k5];simp[m5]
  ·simp[m5]
  ·intro i r' e' hr he;rw[k5] at hr;rw[Array.getElem?_modify] at he;by_cases hi:j=i
   ·subst hi;rw[if_pos rfl,k2'] at he;have hj:=(Qea.1 k3).1;rw[List.getElem?_set_self hj] at hr
    simp at hr he
    subst hr he;exact hnewrow e
   ·rw[if_neg hi] at he;rw[Qej hi] at hr;exact m6 i r' e' hr he
end
end
def vd2(pr:List Nat):Operand->Option Nat
 |.tmp p=>if pr.contains p then some p else none
 |_=>none
def Sd6(pr:List Nat)(o:Oper):Bool:=match o.dst with
 |some d=>pr.contains d
 |none=>false
def pb5(b:Bool)(x:SP):SP:=match b with
 |true=>x
 |false=>.bad
structure ve6 where
 kt:TypeId
 el:TypeId
 fl:List (Nat×CK)
def Sd7(P:Program)(t:TypeId):Option ve6:=match P.underlying t with
 |some (.map kt el)=>match V0 P 9 kt with
  |some fl=>match agT P kt&&vb4 fl (szT P kt) with
   |true=>some ⟨kt,el,fl⟩
   |false=>none
  |none=>none
 |_=>none
def cSp(P:Program)(n:Nat)(pr:List Nat)(o:Oper):Option SP :=
 match o.op with
 |.alloc t=>match Sd6 pr o with
  |true=>match zeT P t with
   |some z=>some (.balloc z)
   |none=>some .bad
  |false=>none
 |.box _ x=>match Sd6 pr o with
  |true=>some (pb5 (ltO n x) (.bbox (g9 x)))
  |false=>none
 |.load t x=>match vd2 pr x with
  |some p=>some (pb5 (Nat.blt p n&&(P.underlying t).isSome) (.bload (szT P t) (agT P t) p))
  |none=>none
 |.store t x y=>match vd2 pr x with
  |some p=>some (pb5 (Nat.blt p n&&ltO n y&&!Nat.beq (szT P t) 0) (.bstore (szT P t) p (g9 y)))
  |none=>none
 |.fieldAddr s x f=>match vd2 pr x with
  |some p=>match P.underlying s with
   |some (.struct fs)=>match fs[f]? with
    |some fd=>some (pb5 (Nat.blt p n&&!Nat.beq (szT P fd.type) 0) (.bfld fd.offset p))
    |none=>some .bad
   |_=>some .bad
  |none=>none
 |.move x=>match vd2 pr x with
  |some p=>some (pb5 (Nat.blt p n) (.bmv p))
  |none=>none
 |.assign x=>match vd2 pr x with
  |some p=>some (pb5 (Nat.blt p n) (.bmv p))
  |none=>none
 |.makeMap t none=>match Sd7 P t with
  |some _=>some (.mmake t)
  |none=>some .bad
 |.lookup t (.tmp m) y false=>match Sd7 P t with
  |some q=>some (pb5 (Nat.blt m n&&ltO n y&&Sd1 P q.el) (.mlook t (szT P q.kt) q.fl m (g9 y)))
  |none=>some .bad
 |.mapUpdate t (.tmp m) y z=>match Sd7 P t with
  |some q=>some (pb5 (Nat.blt m n&&ltO n y&&ltO n z) (.mupd t (szT P q.kt) q.fl m (g9 y) (g9 z)))
  |none=>some .bad
 |.call c=>match c.callee with
  |.builtin .append=>match Sd6 pr o with
   |true=>match c.args.toList,c.argTypes.toList with
    |[s,x],[t,u]=>match P.underlying t with
     |some (.slice e)=>some (pb5 (Nat.blt 0 (szT P e)&&Nat.beq t u) (.old n (.apre (szT P e) (g9 s) (g9 x))))
     |_=>some .bad
    |_,_=>some .bad
   |false=>none
  |.builtin .clear=>match c.args.toList,c.argTypes.toList with
   |[x],[t]=>match P.underlying t with
    |some (.slice e)=>match zeT P e with
     |some z=>some (pb5 (Nat.blt 0 (szT P e)) (.old n (.clr (szT P e) z (g9 x))))
     |none=>some .bad
    |_=>some .bad
   |_,_=>some .bad
  |_=>none
 |_=>none
structure Rd where
 nOut:Nat
 ps:List Nat
 asq:PC
 body:PC
abbrev HL:=List (Nat×Option (Nat×Bool))
def Sd8:Option (Nat×Bool)->Option (Nat×Bool)->Bool
 |none,_=>true
 |some (d,b),some (d',b')=>Nat.beq d d'&&(b==b')
 |some _,none=>false
def Sd9(S:HL)(t:Nat)(g:Option (Nat×Bool)):Bool:=S.any λp=>Nat.beq p.1 t&&Sd8 p.2 g
def Tb0(ops:Array Oper)(S:HL)(o:Oper):Option (List Operand):=match o.op with
 |.call c=>match c.callee with
  |.value (.tmp t)=>match P6 ops o with
   |some g=>if Sd9 S t g then some c.args.toList else none
   |none=>none
  |_=>none
 |_=>none
def xc6(ops:Array Oper)(S:HL)(o:Oper):Option (Nat×Option (Nat×Bool)):=match o.op,o.dst with
 |.move (.tmp t),some d=>match P6 ops o with
  |some g=>if Sd9 S t g then some (d,g) else none
  |none=>none
 |_,_=>none
def gOk(n:Nat):Option (Nat×Bool)->Bool
 |none=>true
 |some (d,_)=>Nat.blt d n
def dOk(n:Nat):Option Nat->Bool
 |none=>true
 |some d=>Nat.blt d n
def rmL(S:HL)(dd:List Nat):HL:=S.filter λp=>!dd.contains p.1&&match p.2 with
 |none=>true
 |some (d,_)=>!dd.contains d
def rmD(S:HL):Option Nat->HL
 |none=>S
 |some d=>rmL S [d]
def Nb0(l:List Oper):List Nat:=l.filterMap (·.dst)
def bc4(p:Oper->Bool):List Oper->Nat
 |[]=>0
 |o::r=>match p o with
  |true=>bc4 p r+1
  |false=>0
def jd3(P:Program)(n:Nat)(pr:List Nat)(ops:Array Oper)(S:HL)(o:Oper):Bool:=(cSp P n pr o).isNone&&(Tb0 ops S o).isNone&&(xc6 ops S o).isNone
def Td0(l r:HL):Bool:=l.all λp=>Sd9 r p.1 p.2
def jd4(P:Program)(n:Nat)(pr:List Nat)(yl:Option Rd)(S0:HL)(ops:Array Oper):Nat->List Oper->HL->PC
 |0,_,_=>.bad
 |_+1,[],S=>match Td0 S0 S with
  |true=>.skip
  |false=>.bad
 |f+1,o::r,S=>match Tb0 ops S o with
  |some args=>match yl,P6 ops o with
   |some rd,some g=>match gOk n g&&dOk n o.dst&&args.all (ltO n)&&Nat.beq args.length rd.ps.length with
    |true=>.seq (.round o.dst g (args.map g9) n rd.nOut rd.ps rd.asq rd.body) (jd4 P n pr yl S0 ops f r (rmD S o.dst))
    |false=>.bad
   |_,_=>.bad
  |none=>match xc6 ops S o with
   |some (d,g)=>match Nat.blt d n with
    |true=>.seq (.mask n [d] (.ops [⟨some d,none,[],.mv (.c .unk)⟩])) (jd4 P n pr yl S0 ops f r ((d,g)::rmL S [d]))
    |false=>.bad
   |none=>match cSp P n pr o with
    |some so=>match P6 ops o with
     |some g=>match gOk n g&&dOk n o.dst with
      |true=>.seq (.sp o.dst g so) (jd4 P n pr yl S0 ops f r (rmD S o.dst))
      |false=>.bad
     |none=>.bad
    |none=>match Fb3 P ops (o::r.take (bc4 (jd3 P n pr ops S) r)) with
     |some l=>.seq (.mask n (Nb0 (o::r.take (bc4 (jd3 P n pr ops S) r))) (.ops l)) (jd4 P n pr yl S0 ops f (r.drop (bc4 (jd3 P n pr ops S) r)) (rmL S (Nb0 (o::r.take (bc4 (jd3 P n pr ops S) r)))))
     |none=>.bad
def ka8(P:Program)(n:Nat)(pr:List Nat)(yl:Option Rd)(S0:HL)(kp:Nat->List Nat)(rf:Operand->Array Tmp->Code->Code->PC)(cur:Nat):Code->PC
 |.skip=>.skip
 |.region _ ops d=>match d with
  |false=>jd4 P n pr yl S0 ops (ops.size+1) ops.toList S0
  |true=>match Td0 S0 (rmL S0 (Nb0 ops.toList)) with
   |true=>.mask n (Nb0 ops.toList) (Sa3 P ops)
   |false=>.bad
 |.seq a b=>.seq (ka8 P n pr yl S0 kp rf cur a) (ka8 P n pr yl S0 kp rf cur b)
 |.cond c x y=>match ltO n c with
  |true=>.cond (g9 c) (ka8 P n pr yl S0 kp rf cur x) (ka8 P n pr yl S0 kp rf cur y)
  |false=>.bad
 |.block id c=>.block id (ka8 P n pr yl S0 kp rf id c)
 |.loop c=>.loopM (kp cur) (ka8 P n pr yl S0 kp rf cur c)
 |.label _=>.skip
 |.exit id=>.exit id
 |.ret=>.ret
 |.rangeFunc g ps asq body=>rf g ps asq body
 |_=>.bad
structure Xc1 where
 pr:List Nat
 kp:List (Nat×List Nat)
 fi:FuncId
 ki:List (Nat×List Nat)
def Kd5(l:List (Nat×List Nat))(id:Nat):List Nat:=match l.find? λp=>Nat.beq p.1 id with
 |some p=>p.2
 |none=>[]
def Tb1(_:Operand)(_:Array Tmp)(_ _:Code):PC:=.bad
def ve7(P:Program)(h:Xc1)(n:Nat)(ps:Array Tmp)(asq body:Code):Rd :=
 ⟨n,ps.toList,ka8 P n h.pr none [] (Kd5 h.kp) Tb1 0 asq,ka8 P n h.pr none [] (Kd5 h.kp) Tb1 0 body⟩
def vd3(P:Program)(h:Xc1)(fnI:Func)(cI:Code)(n:Nat)(g:Operand)(ps:Array Tmp)(asq body:Code):PC :=
 match ltO n g&&Nat.beq fnI.results.size 0&&ps.toList.all (λp=>Nat.blt p n) with
 |true=>.inner h.fi (g9 g) fnI.ntmps (ka8 P fnI.ntmps [] (some (ve7 P h n ps asq body)) [(0,none)] (Kd5 h.ki) Tb1 0 cI)
 |false=>.bad
def gb3(P:Program)(h:Xc1)(fnI fn:Func):Option PFn :=
 match fn.body,fnI.body with
 |some c,some cI =>
  if fn.results.toList.all (ed0 P) then some ⟨fn.ntmps,fn.results.toList.map (tc6 P),ka8 P fn.ntmps h.pr none [] (Kd5 h.kp) (vd3 P h fnI cI fn.ntmps) 0 c⟩ else none
 |_,_=>none
def jd5(H:List c8):Bool:=List.rec (motive:=λ_=>Bool) true (λb _ ih=>Bool.rec (motive:=λ_=>Bool) ih false (A9 b)) H
def vb7(E:Env)(fn:PFn)(args:List c7)(blks:List c8):DT (c7×List c8) :=
 .guard (Bool.and (jd5 blks) (Nat.ble (len args) fn.ntmps)) ((K1 E (len blks) fn.body ⟨app args (List.replicate (fn.ntmps-len args) (.v (.tuple #[]))),blks⟩).bind λr =>
  match r.1 with
  |.exit _=>.fail
  |_=>match Ja4 (La5 (p7 (Z0 r.2.H) r.2.a) (n8 r.2.H)) fn.res with
   |some l=>.guard (jd5 (I1 r.2.H (len blks))) (tb1 (len blks) (n8 r.2.H) (bb7 l))
   |none=>.fail)
section
variable{WB K:Nat->Prop}{J:List Value->World->Prop}{DF:List Deferred->Prop}{S:HL}{rv:Value}{ρ ρ0:Rho}{H H0 H':List c8}{F F0:Fz}{w w0 w':World}{W':Nat->Prop}{up:List Value}{E:Env}{a:List c7}{s s':St}{ac:Act}{x:c7}{o:Oper}{n:Nat}
def pb6(tmps:Array Value):Option (Nat×Bool)->Prop
 |none=>True
 |some (d,b)=>tmps[d]?=some (.bool b)
structure I3(P:Program)(WB K:Nat->Prop)(J:List Value->World->Prop)(n:Nat)(S:HL)(rv:Value)(DF:List Deferred->Prop)(ρ0:Rho)(H0:List c8)(F0:Fz)(w0:World)(s:St)(ac:Act)(w:World):Prop where
 inv:Jd9 P WB K J n ρ0 H0 F0 w0 s ac w
 held:∀p∈S,pb6 ac.tmps p.2->ac.tmps[p.1]?=some rv
 df:DF ac.defers
theorem ja8{b:Bool}{so:SP}(h:(kb3 E a H (pb5 b so)).run=some (x,H')):b=true/\pb5 b so=so:=by
 cases b with
 |true=>exact⟨rfl,rfl⟩
 |false=>cases h
theorem gb4{pr:List Nat}{y:Operand}{p:Nat}(h:vd2 pr y=some p):y=.tmp p:=by
 unfold vd2 at h
 split at h
 ·split at h
  ·injection h with h;rw[h]
  ·cases h
 ·cases h
theorem bc5{P:Program}{t:TypeId}{q:ve6}(h:Sd7 P t=some q):P.underlying t=some (.map q.kt q.el)/\V0 P 9 q.kt=some q.fl/\agT P q.kt=true/\vb4 q.fl (szT P q.kt)=true:=by
 unfold Sd7 at h
 split at h
 ·rename_i kt el hu
  split at h
  ·rename_i fl hf
   split at h
   ·rename_i hc;injection h with h;subst h;rw[Qef] at hc;exact⟨hu,hf,hc.1,hc.2⟩
   ·cases h
  ·cases h
 ·cases h
theorem Tb2{k:Nat}(h:(!Nat.beq k 0)=true):k≠0:=λe=>by subst e;cases h
theorem VR.arel(hv:VR ρ H F w a (ac.tmps.toList++up))(hn:ac.tmps.size=n):ga9 ρ (n8 H) F w (p7 (Z0 H) (I1 a n)) ac.tmps:=by
 have hl:=hv.1;have hsz:ac.tmps.toList.length=ac.tmps.size:=Array.length_toList;rw[Qem] at hl;rw[m9,I8];refine⟨by rw[List.length_map,List.length_take];omega,λi x x' hx hx'=>?_⟩
 rw[Qeh] at hx;have hi:i<n:=hn ▸ (Qek.1 hx').1;rw[Qet,if_pos hi] at hx;cases hy:a[i]? with
 |none=>rw[hy] at hx;cases hx
 |some y =>
  rw[hy] at hx;injection hx with hx;subst hx;refine Oc9 (hv.2 i y x' hy ?_);rw[Qee (by rw[Array.length_toList];omega)]
  simpa using hx'
theorem Td1 {px : PO} {ds : List Deferred} (hC : C2 E.P WB K J ρ0 H0 F0 w0 H ds w ρ F W' up) (hJ : Mb9 K J)
  (hop:∀H1,(evalOp E (p7 (Z0 H) (I1 a n)) (n8 H) px).run=some (x,H1)->i4 E.P o ac w (I9 W' ρ (n8 H) F w x H1)) (he:(kb3 E a H (.old n px)).run=some (x,H')):i4 E.P o ac w (gb2 E.P WB K J ρ0 H0 F0 w0 ρ H F w up ds x H'):=by
 obtain⟨⟨x1,H1⟩,h1,h2⟩:=DT.run_bind_some (show ((evalOp E (p7 (Z0 H) (I1 a n)) (n8 H) px).bind λr=>.guard (Pb7 H r.2) (.ret (r.1,s9 H r.2))).run=some (x,H') from he)
 obtain⟨hok,h2⟩:=DT.run_guard_some h2;have h2:some (x1,s9 H H1)=some (x,H'):=h2;injection h2 with h2;injection h2 with e1 e2;subst e1 e2
 intro next Q hp;refine hop H1 h1 next Q λx' w' ⟨ρ',F',k1,k2,k3⟩=>hp x' w' ?_
 obtain⟨c1,c2⟩:=hC.step hJ k1 hok k2;exact⟨_,F',W',c1,c2,.w (vd0 k1 hok k3)⟩
theorem ke8{α:Type}{l:Array α}{a b:α}(h:l.toList=[a,b]):l=#[a,b]:=by
 apply Array.ext';simpa using h
theorem ke9{α:Type}{l:Array α}{a:α}(h:l.toList=[a]):l=#[a]:=by
 apply Array.ext';simpa using h
theorem ve8 {pr : List Nat} {so : SP} {ds : List Deferred} (hC : C2 E.P WB K J ρ0 H0 F0 w0 H ds w ρ F W' up) (hJ : Mb9 K J) (hv : VR ρ H F w a (ac.tmps.toList ++ up)) (hn : ac.tmps.size = n) (hG : GOk E F w)
  (hs:cSp E.P n pr o=some so) (he:(kb3 E a H so).run=some (x,H')):i4 E.P o ac w (gb2 E.P WB K J ρ0 H0 F0 w0 ρ H F w up ds x H'):=by
 unfold cSp at hs
 split at hs
 ·rename_i t ho
  split at hs
  ·split at hs
   ·rename_i z hz;injection hs with hs;subst hs
    exact Kd0 hC hJ ho hz he
   ·injection hs with hs;subst hs;cases he
  ·cases hs
 ·rename_i t y ho
  split at hs
  ·injection hs with hs;subst hs
   obtain⟨h1,h2⟩:=ja8 he;rw[h2] at he;exact de7 hC hJ hv hn hG ho h1 he
  ·cases hs
 ·rename_i t y ho
  split at hs
  ·rename_i p hp;injection hs with hs;subst hs
   obtain⟨h1,h2⟩:=ja8 he;rw[h2] at he;rw[Qef] at h1;rw[gb4 hp] at ho;exact Rd7 hC hv hn hG ho h1.1 (λe=>by rw[e] at h1;cases h1.2) he
  ·cases hs
 ·rename_i t y z ho
  split at hs
  ·rename_i p hp;injection hs with hs;subst hs
   obtain⟨h1,h2⟩:=ja8 he;rw[h2] at he;rw[Qef,Qef] at h1;rw[gb4 hp] at ho;exact Kd1 hC hJ hv hn hG ho h1.1.1 h1.1.2 (Tb2 h1.2) he
  ·cases hs
 ·rename_i st y f ho
  split at hs
  ·rename_i p hp
   split at hs
   ·rename_i fs hu
    split at hs
    ·rename_i fd hf;injection hs with hs;subst hs
     obtain⟨h1,h2⟩:=ja8 he;rw[h2] at he;rw[Qef] at h1;rw[gb4 hp] at ho;exact de9 hC hv hn hG ho h1.1 hu hf (Tb2 h1.2) he
    ·injection hs with hs;subst hs;cases he
   ·injection hs with hs;subst hs;cases he
  ·cases hs
 ·rename_i y ho
  split at hs
  ·rename_i p hp;injection hs with hs;subst hs
   obtain⟨h1,h2⟩:=ja8 he;rw[h2] at he;rw[gb4 hp] at ho;exact Rd8 hC hv hn hG (.inl ho) h1 he
  ·cases hs
 ·rename_i y ho
  split at hs
  ·rename_i p hp;injection hs with hs;subst hs
   obtain⟨h1,h2⟩:=ja8 he;rw[h2] at he;rw[gb4 hp] at ho;exact Rd8 hC hv hn hG (.inr ho) h1 he
  ·cases hs
 ·rename_i t ho
  split at hs
  ·rename_i q hq;injection hs with hs;subst hs
   obtain⟨h1,h2,_,_⟩:=bc5 hq;exact Sd4 hC hJ ho h1 h2 he
  ·injection hs with hs;subst hs;cases he
 ·rename_i t m y ho
  split at hs
  ·rename_i q hq;injection hs with hs;subst hs
   obtain⟨h1,h2,h3,h4⟩:=bc5 hq;obtain⟨k1,k2⟩:=ja8 he;rw[k2] at he;rw[Qef,Qef] at k1;exact Sd5 hC hv hn hG ho k1.1.1 k1.1.2 h1 h3 h2 h4 k1.2 he
  ·injection hs with hs;subst hs;cases he
 ·rename_i t m y z ho
  split at hs
  ·rename_i q hq;injection hs with hs;subst hs
   obtain⟨h1,h2,h3,h4⟩:=bc5 hq;obtain⟨k1,k2⟩:=ja8 he;rw[k2] at he;rw[Qef,Qef] at k1;exact ee0 hC hJ hv hn hG ho k1.1.1 k1.1.2 k1.2 h1 h3 h2 h4 he
  ·injection hs with hs;subst hs;cases he
 ·rename_i c ho
  split at hs
  ·rename_i hcb
   split at hs
   ·split at hs
    ·rename_i y z t u hargs htys
     split at hs
     ·rename_i e hu;injection hs with hs;subst hs
      obtain⟨k1,k2⟩:=ja8 he;rw[k2] at he;rw[Qef,Qeu] at k1;have htu:=Qeg k1.2;subst htu;obtain⟨ti,hi,hi0,hi1⟩:=rc4 (Nat.ne_of_gt k1.1);refine Td1 hC hJ (λH1 h1=>?_) he
      exact tc9 (hv.arel hn) hC.hrel hG ho hcb (ke8 hargs) (ke8 htys) hu hi (by omega) h1
     ·injection hs with hs;subst hs;cases he
    ·injection hs with hs;subst hs;cases he
   ·cases hs
  ·rename_i hcb
   split at hs
   ·rename_i y t hargs htys
    split at hs
    ·rename_i e hu
     split at hs
     ·rename_i z hz;injection hs with hs;subst hs
      obtain⟨k1,k2⟩:=ja8 he;rw[k2] at he;rw[Qeu] at k1;refine Td1 hC hJ (λH1 h1=>?_) he
      exact Nc2 (hv.arel hn) hC.hrel hG ho hcb (ke9 hargs) (ke9 htys) hu hz k1 h1
     ·injection hs with hs;subst hs;cases he
    ·injection hs with hs;subst hs;cases he
   ·injection hs with hs;subst hs;cases he
  ·cases hs
 ·cases hs
theorem VR.putA(hv:VR ρ H F w a (ac.tmps.toList++up))(hn:ac.tmps.size=n){dst:Option Nat}(hd:dOk n dst=true){x':Value}(hx:XW ρ H F w x x'):VR ρ H F w (Ev.putA a dst x) ((ac.put dst x').tmps.toList++up):=by
 rw[Cb6];cases dst with
 |none=>exact hv
 |some d =>
  have hd:d<n:=by have:=hd;unfold dOk at this;rwa [Qeu] at this
  have e:(ac.put (some d) x').tmps.toList++up=(ac.tmps.toList++up).set d x':=by
   rw[List.set_append_left _ _ (by rw[Array.length_toList];omega)]
   simp[Act.put]
  rw[e];refine⟨by simp only[List.length_set];exact hv.1,λi y y' hy hy'=>?_⟩
  rw[List.getElem?_set] at hy hy';by_cases hi:d=i
  ·subst hi;have hl:d<(ac.tmps.toList++up).length:=by rw[Qem,Array.length_toList];omega
   rw[if_pos rfl,if_pos (hv.1 ▸ hl)] at hy;rw[if_pos rfl,if_pos hl] at hy';injection hy with hy;injection hy' with hy'
   subst hy hy';exact hx
  ·rw[if_neg hi] at hy hy';exact hv.2 i y y' hy hy'
theorem VR.tr{vs:List Value}{ρ':Rho}{F':Fz}(hv:VR ρ H F w a vs)(ht:Tr ρ H F w ρ' H' F' w'):VR ρ' H' F' w' a vs:=⟨hv.1,λi x x' hx hx'=>ht _ _ (hv.2 i x x' hx hx')⟩
theorem VR.at(hv:VR ρ H F w a (ac.tmps.toList++up))(hn:ac.tmps.size=n){t:Nat}(ht:t<n):∃x',ac.tmps[t]?=some x'/\XW ρ H F w (d6 E a (.t t)) x':=by
 have hl:=hv.1;have hsz:ac.tmps.toList.length=ac.tmps.size:=Array.length_toList;rw[Qem] at hl;have h1:t<a.length:=by omega
 have h2:t<ac.tmps.size:=by omega
 refine⟨ac.tmps[t],by simp[h2],?_⟩
 rw[Oa4,Qeb h1];refine hv.2 t _ _ (Qeb h1) ?_;rw[Qee (by rw[Array.length_toList];exact h2)]
 simp[h2]
theorem Hb3 {ops : Array Oper} {g : Option (Nat × Bool)} {d : St → DT St} (hg : P6 ops o = some g) (hgn : gOk n g = true) (hv : VR ρ H F w s.a (ac.tmps.toList ++ up)) (hn : ac.tmps.size = n) (he : (qc9 E s o.dst g d).run = some s') :
  (Region.wanted o (yielded ops ac.tmps)=true/\(d s).run=some s')\/(Region.wanted o (yielded ops ac.tmps)=false/\s'=⟨putA s.a o.dst (.v (.tuple #[])),s.H⟩):=by
 unfold P6 at hg;unfold Region.wanted;cases hgo:o.guard with
 |none =>
  simp only[hgo] at hg ⊢;injection hg with hg;subst hg;exact .inl ⟨trivial,he⟩
 |some jw =>
  obtain⟨j,want⟩:=jw;simp only[hgo] at hg ⊢;cases hj:ops[j]? with
  |none=>simp[hj] at hg
  |some oj =>
  simp only[hj] at hg;cases hd:oj.dst with
  |none=>simp[hd] at hg
  |some dd =>
  simp only[hd] at hg;injection hg with hg;subst hg;have hdn:dd<n:=by have:=hgn;unfold gOk at this;rwa [Qeu] at this
  obtain⟨u',hu1,hu2⟩:=hv.at (E:=E) hn hdn;have he':(match d6 E s.a (.t dd) with
   | .v (.bool b) => Bool.rec (motive := fun _ => DT St)
     (.ite b (.ret ⟨putA (setAt s.a dd (.v (.bool true))) o.dst (.v (.tuple #[])),s.H⟩) (d ⟨setAt s.a dd (.v (.bool false)),s.H⟩))
     (.ite b (d ⟨setAt s.a dd (.v (.bool true)),s.H⟩) (.ret ⟨putA (setAt s.a dd (.v (.bool false))) o.dst (.v (.tuple #[])),s.H⟩)) want
   |.v (.tuple _)=>.ret ⟨putA s.a o.dst (.v (.tuple #[])),s.H⟩
   |_=>.fail).run=some s':=he
  have hset:∀b,d6 E s.a (.t dd)=.v (.bool b)->setAt s.a dd (.v (.bool b))=s.a:=λb h=>gd5 (E:=E) (by simp) h
  revert he' hu2 hset
  generalize d6 E s.a (.t dd)=u;intro hu2 he' hset
  split at he'
  ·rename_i b;have hb:=Kd2 hu2;subst hb;rw[kb9 hj hd hu1];have hs:=hset b rfl;cases want<;>cases b
   ·rw[hs] at he';exact .inl ⟨rfl,he'⟩
   ·refine .inr ⟨rfl,?_⟩;rw[hs] at he';exact (Qed he').symm
   ·refine .inr ⟨rfl,?_⟩;rw[hs] at he';exact (Qed he').symm
   ·rw[hs] at he';exact .inl ⟨rfl,he'⟩
  ·rename_i vs;have hb:=Kd2 hu2;subst hb;rw[cb0 hj hd hu1];exact .inr ⟨rfl,(Qed he').symm⟩
  ·cases he'
theorem xc7{a a':Array Value}{dd:List Nat}(h:∀p∈S,pb6 a p.2->a[p.1]?=some rv)(hs:∀t,¬ t∈dd->a'[t]?=a[t]?):∀p∈rmL S dd,pb6 a' p.2->a'[p.1]?=some rv:=by
 intro p hp hg;simp only[rmL,List.mem_filter,Qef] at hp;obtain⟨h1,h2,h3⟩:=hp;rw[hs p.1 (by simpa using h2)]
 refine h p h1 ?_;obtain⟨t,g⟩:=p;cases g with
 |none=>trivial
 |some q =>
  obtain⟨d,b⟩:=q;have h3:¬ d∈dd:=by simpa using h3
  exact (hs d h3).symm.trans hg
theorem Ta9{dst:Option Nat}{v:Value}(h:∀p∈S,pb6 ac.tmps p.2->ac.tmps[p.1]?=some rv):∀p∈rmD S dst,pb6 (ac.put dst v).tmps p.2->(ac.put dst v).tmps[p.1]?=some rv:=by
 cases dst with
 |none=>exact h
 |some d=>exact xc7 h λt ht=>Sb9 λe=>by injection e with e;subst e;simp at ht
theorem vd4{tmps:Array Value}{g g':Option (Nat×Bool)}(h:Sd8 g g'=true)(hg:pb6 tmps g'):pb6 tmps g:=by
 cases g with
 |none=>trivial
 |some q =>
  obtain⟨d,b⟩:=q;cases g' with
  |none=>cases h
  |some q' =>
   obtain⟨d',b'⟩:=q';simp only[Sd8,Qef,beq_iff_eq] at h;have h1:=Qeg h.1;obtain⟨_,h2⟩:=h;subst h1 h2;exact hg
theorem bc6{tmps:Array Value}{t:Nat}{g:Option (Nat×Bool)}(h:∀p∈S,pb6 tmps p.2->tmps[p.1]?=some rv)(hs:Sd9 S t g=true)(hg:pb6 tmps g):tmps[t]?=some rv:=by
 simp only[Sd9,List.any_eq_true,Qef] at hs;obtain⟨p,h1,h2,h3⟩:=hs
 have:=h p h1 (vd4 h3 hg)
 rwa [Qeg h2] at this
theorem vb8{ops:Array Oper}{o:Oper}{g:Option (Nat×Bool)}{tmps:Array Value}(hg:P6 ops o=some g):Region.wanted o (yielded ops tmps)=true↔pb6 tmps g:=by
 unfold P6 at hg;unfold Region.wanted;cases hgo:o.guard with
 |none =>
  simp only[hgo] at hg ⊢;injection hg with hg;subst hg;exact⟨λ_=>trivial,λ_=>trivial⟩
 |some jw =>
  obtain⟨j,want⟩:=jw;simp only[hgo] at hg ⊢;cases hj:ops[j]? with
  |none=>simp[hj] at hg
  |some oj =>
  simp only[hj] at hg;cases hd:oj.dst with
  |none=>simp[hd] at hg
  |some d =>
  simp only[hd] at hg;injection hg with hg;subst hg;simp only[yielded,hj,Option.bind_some,hd,pb6];cases tmps[d]? with
  |none=>simp
  |some v=>cases v<;>simp
theorem pe1 {Fe : Fence} {m i : Nat} {pr : List Nat} {so : SP} {g : Option (Nat × Bool)} {ops : Array Oper} {rest : List Nat} {Q : Exit → Act → World → Prop} (hF : FW Fe) (hG0 : GOk E F0 w0) (hJ : Mb9 K J) (hi : ops[i]? = some o)
  (hs:cSp E.P n pr o=some so) (hg:P6 ops o=some g) (hgn:gOk n g=true) (hdn:dOk n o.dst=true) (hI:I3 E.P WB K J n S rv DF ρ0 H0 F0 w0 s ac w) (he:(rd3 E s o.dst g so).run=some s')
  (hQ:∀ac' w',I3 E.P WB K J n (rmD S o.dst) rv DF ρ0 H0 F0 w0 s' ac' w'->wpOpsIn Fe m E.P ops Q rest ac' w'):wpOpsIn Fe m E.P ops Q (i::rest) ac w:=by
 obtain⟨⟨ρ,F,W',up,hI2⟩,hheld,hdf⟩:=hI;simp only[wpOpsIn,hi]
 rcases Hb3 hg hgn hI2.vals hI2.size he with⟨hw,he⟩|⟨hw,rfl⟩
 ·rw[if_pos hw];obtain⟨⟨x,H'⟩,h1,h2⟩:=DT.run_bind_some he;have h2:some (⟨putA s.a o.dst x,H'⟩:St)=some s':=h2;injection h2 with h2;subst h2;have hop:=ve8 (ac:={ ac with defers:=[] }) (ds:=ac.defers) hI2.core hJ hI2.vals hI2.size (hG0.adv hI2.core.adv) hs h1
  refine hop.inAny hF m _ _ λx' w' hp=>?_
  obtain⟨ρ',F',W'',c1,c2,c3⟩:=hp;exact hQ _ _ ⟨⟨ρ',F',W'',up,by rw[w6];exact c1,(hI2.vals.tr c2).putA hI2.size hdn c3,(fa3 _ _).trans hI2.size⟩,Ta9 hheld,by rw[w6];exact hdf⟩
 ·rw[if_neg (by simp[hw])]
  refine⟨λf _=>hF.fn f,hQ _ _ ⟨⟨ρ,F,W',up,by rw[w6];exact hI2.core,hI2.vals.putA hI2.size hdn (.w (.ofv _)),(fa3 _ _).trans hI2.size⟩,Ta9 hheld,by rw[w6];exact hdf⟩⟩
theorem Td2 {Fe : Fence} {m i d k : Nat} {g : Option (Nat × Bool)} {ops : Array Oper} {rest : List Nat} {Q : Exit → Act → World → Prop} {xx : d9} (hF : FW Fe) (hG0 : GOk E F0 w0) (hcalls : ∀ f, g8 E.P E.G f (E.call f)) (hJ : Mb9 K J) (hi : ops[i]? = some o)
  (hc:xc6 ops S o=some (d,g)) (hdn:d<n) (hI:I3 E.P WB K J n S rv DF ρ0 H0 F0 w0 s ac w) (he:(K1 E k (.mask n [d] (.ops [⟨some d,none,[],.mv (.c .unk)⟩])) s).run=some (xx,s'))
  (hQ:xx=.normal->∀ac' w',I3 E.P WB K J n ((d,g)::rmL S [d]) rv DF ρ0 H0 F0 w0 s' ac' w'->wpOpsIn Fe m E.P ops Q rest ac' w'):wpOpsIn Fe m E.P ops Q (i::rest) ac w:=by
 obtain⟨⟨ρ,F,W',up,hI2⟩,hheld,hdf⟩:=hI;unfold xc6 at hc
 split at hc
 case h_2=>cases hc
 rename_i t d' ho hd
 split at hc
 case h_2=>cases hc
 rename_i g' hg
 split at hc
 case isFalse=>cases hc
 rename_i hS;injection hc with hc;injection hc with e1 e2;subst e1 e2;simp only[wpOpsIn,hi];have he':((K1 E k (.ops [⟨some d',none,[],.mv (.c .unk)⟩]) ⟨p7 (Z0 s.H) (I1 s.a n),n8 s.H⟩).bind λr=>.guard (Pb7 s.H r.2.H) (.ret (r.1,⟨ea8 [d'] s.a r.2.a 0,s9 s.H r.2.H⟩))).run=some (xx,s'):=he
 obtain⟨⟨x1,s1⟩,h1,h2⟩:=DT.run_bind_some he';obtain⟨hok,h2⟩:=DT.run_guard_some h2;have h1:some (d9.normal,(⟨putA (p7 (Z0 s.H) (I1 s.a n)) (some d') .unk,n8 s.H⟩:St))=some (x1,s1):=h1;injection h1 with h1;injection h1 with e1 e2;subst e1 e2
 have h2:some (d9.normal,(⟨ea8 [d'] s.a (putA (p7 (Z0 s.H) (I1 s.a n)) (some d') .unk) 0,s9 s.H (n8 s.H)⟩:St))=some (xx,s'):=h2;injection h2 with h2;injection h2 with e1 e2;subst e1 e2
 obtain⟨c1,c2⟩:=hI2.core.step hJ .refl hok hI2.core.hrel;have hvr:∀v,VR (ρsp s.H ρ ρ) (s9 s.H (n8 s.H)) F w (ea8 [d'] s.a (putA (p7 (Z0 s.H) (I1 s.a n)) (some d') .unk) 0) ((ac.put o.dst v).tmps.toList++up):=λv=>by
  refine⟨by rw[vb3];have:=hI2.vals.1;rw[Qem,Array.length_toList] at this ⊢;rw[fa3];exact this,λi y y' hy hy'=>?_⟩
  rw[vb2] at hy;cases hz:s.a[i]? with
  |none=>rw[hz] at hy;cases hy
  |some z =>
   rw[hz] at hy;injection hy with hy;rw[Qex] at hy;by_cases hid:i=d'
   ·subst hid;have hm:Ja5 i [i]=true:=(xc4 _ _).2 (by simp)
    rw[hm] at hy;have hy:((putA (p7 (Z0 s.H) (I1 s.a n)) (some i) .unk)[i]?).getD .unk=y:=hy;rw[Cb6] at hy;simp only[List.getElem?_set] at hy
    have:y=.unk:=by
     rw[<- hy];simp only[if_true]
     split<;>rfl
    subst this;exact .w (.unk _)
   ·have hm : Ja5 i [d'] = false := by
     cases h:Ja5 i [d'] with
     |false=>rfl
     |true=>exact absurd (by simpa using (xc4 _ _).1 h) hid
    rw[hm] at hy;have hy:z=y:=hy;subst hy;refine c2 _ _ (hI2.vals.2 i z y' hz ?_);rw[hd] at hy';simpa [Act.put,List.getElem?_append,Array.getElem?_setIfInBounds_ne,Ne.symm hid] using hy'
 have hfin:∀v,(Region.wanted o (yielded ops ac.tmps)=true->v=rv)->(Region.wanted o (yielded ops ac.tmps)=false->v=undef)->wpOpsIn Fe m E.P ops Q rest (ac.put o.dst v) w:=λv hv1 hv2=>by
  refine hQ rfl _ _ ⟨⟨_,F,W',up,by rw[w6];exact c1,hvr v,(fa3 _ _).trans hI2.size⟩,λp hp hgp=>?_,by rw[w6];exact hdf⟩
  have hlt:d'<ac.tmps.size:=Nat.lt_of_lt_of_eq hdn hI2.size.symm;have hset:(ac.put (some d') v).tmps[d']?=some v:=by
   show (ac.tmps.setIfInBounds d' v)[d']?=some v;exact Array.getElem?_setIfInBounds_self_of_lt hlt
  rcases List.mem_cons.1 hp with rfl|hp
  ·cases hw:Region.wanted o (yielded ops ac.tmps) with
   |true=>rw[hd,<- hv1 hw];exact hset
   |false =>
    exfalso;have hng:¬ pb6 ac.tmps g':=λh=>by rw[(vb8 hg).2 h] at hw;cases hw
    cases g' with
    |none=>exact hng trivial
    |some q =>
     obtain⟨dg,b⟩:=q;have hgq:(ac.put o.dst v).tmps[dg]?=some (.bool b):=hgp;by_cases he:dg=d'
     ·subst he;rw[hd,hset,hv2 hw] at hgq;injection hgq with hgq;cases hgq
     ·rw[Sb9 (λe=>he (by rw[hd] at e;injection e with e;exact e.symm))] at hgq
      exact hng hgq
  ·have:=Ta9 (dst:=some d') (v:=v) hheld p hp
   rw[hd] at hgp ⊢;exact this hgp
 by_cases hw:Region.wanted o (yielded ops ac.tmps)=true
 ·rw[if_pos hw];have ht:=bc6 hheld hS ((vb8 hg).1 hw);have hop:i4 E.P o { ac with defers:=[] } w (λv w'=>v=rv/\w'=w):=by
   have hev:({ ac with defers:=[] }:Act).eval (.tmp t)=rv:=by
    show ac.tmps.getD t undef=rv;have hlt:=(Qek.1 ht).1
    have:=(Qek.1 ht).2
    simp[Array.getD,hlt,this]
   exact .value (x':=rv) (w':=w) (by simp[execOp,ho,hev]) ⟨rfl,rfl⟩
  refine hop.inAny hF m _ _ λv w' hp=>?_
  obtain⟨rfl,rfl⟩:=hp;exact hfin _ (λ_=>rfl) λh=>by rw[hw] at h;cases h
 ·rw[if_neg hw];exact⟨λf _=>hF.fn f,hfin _ (λh=>absurd h hw) λ_=>rfl⟩
end
section
variable{P:Program}{k:Nat}{WB K:Nat->Prop}{J:List Value->World->Prop}{DF:List Deferred->Prop}{S:HL}{rv:Value}{ρ ρ0:Rho}{H H0 H2:List c8}{F F0:Fz}{w w0:World}{W':Nat->Prop}{up:List Value}{E:Env}{R:List Nat}{n:Nat}
def Td3(H:List c8)(x:c7)(r:List Nat):List Nat:=match x with
 |.ptr id _ _ g=>match blkAt H id g with
  |some _=>(ma5 r id).2
  |none=>r
 |.sl id _ _ g=>match blkAt H id g with
  |some _=>(ma5 r id).2
  |none=>r
 |_=>r
theorem Td4(H:List c8)(x:c7)(r:List Nat)(hr:TOk k r):TOk k (Td3 H x r)/\TLe r (Td3 H x r):=by
 have step:∀id,TOk k (ma5 r id).2/\TLe r (ma5 r id).2:=λid=>by
  obtain⟨h1,h2,_⟩:=hr.idx (id:=id) (j:=(ma5 r id).1) (r:=(ma5 r id).2) rfl;exact⟨h1,h2⟩
 unfold Td3;split
 ·split
  ·exact step _
  ·exact⟨hr,.refl _⟩
 ·split
  ·exact step _
  ·exact⟨hr,.refl _⟩
 ·exact⟨hr,.refl _⟩
theorem jd6(H:List c8):∀(cs:List c7) (r:List Nat),TOk k r->TOk k (Ad3 H cs r)/\TLe r (Ad3 H cs r)
 |[],r,hr=>⟨hr,.refl _⟩
 |x::cs,r,hr=>by
  have hx:=Td4 H x r hr;obtain⟨h1,h2⟩:=jd6 H cs _ hx.1;exact⟨h1,hx.2.trans h2⟩
def Td5(H:List c8)(id:Nat)(r:List Nat):List Nat:=match nth H id with
 |some b=>match A9 b&&Nat.beq b.et 0 with
  |true=>Ad3 H (i8 b.elems 0) r
  |false=>r
 |none=>r
theorem Td6(H:List c8)(id:Nat)(r:List Nat)(hr:TOk k r):TOk k (Td5 H id r)/\TLe r (Td5 H id r):=by
 unfold Td5;split
 ·split
  ·exact jd6 H _ r hr
  ·exact⟨hr,.refl _⟩
 ·exact⟨hr,.refl _⟩
theorem jd7(H:List c8):∀(ids:List Nat) (r:List Nat),TOk k r->TOk k (Mc4 H ids r)/\TLe r (Mc4 H ids r)
 |[],r,hr=>⟨hr,.refl _⟩
 |id::ids,r,hr=>by
  have hx:=Td6 H id r hr;obtain⟨h1,h2⟩:=jd7 H ids _ hx.1;exact⟨h1,hx.2.trans h2⟩
def Cd4(b:c8):c8:=Bool.rec (motive:=λ_=>c8) b { b with dead:=true } (A9 b)
theorem bc7(H:List c8):n8 H=H.map Cd4:=Ta6 H
theorem lb8:∀{R:List Nat} {j:Nat} {H2:List c8},sa7 k H j R=some H2->sa7 k (n8 H) j R=some (n8 H2)
 |[],j,H2,h=>by
  simp only[sa7] at h ⊢;injection h with h;subst h;rfl
 |id::R,j,H2,h=>by
  simp only[sa7,u9] at h ⊢;cases hb:H[id]? with
  |none=>simp[hb] at h
  |some b =>
  simp only[hb] at h;cases hr:sa7 k H (j+1) R with
  |none=>simp[hr] at h
  |some l =>
  simp only[hr] at h;injection h with h;subst h;have e:(n8 H)[id]?=some (Cd4 b):=by rw[bc7,Qeh,hb];rfl
  rw[e,lb8 hr];simp only[bc7,Qeab];congr 2;unfold Cd4;cases Nat.blt j k<;>cases hs:A9 b<;>simp[A9] at hs ⊢<;>simp[hs]
theorem ee1(x:c7):TC k H R x (Od3 k H R x):=by
 unfold Od3;split
 ·rename_i id i c g;split
  ·rename_i b hb;split
   ·rename_i j hj
    have:=(Oa5 R 0 id j hj).2
    exact .ptr id i c g j b hb (by simpa using this)
   ·exact .unk _
  ·exact .unk _
 ·rename_i id off n g;split
  ·rename_i b hb;split
   ·rename_i j hj
    have:=(Oa5 R 0 id j hj).2
    exact .sl id off n g j b hb (by simpa using this)
   ·exact .unk _
  ·exact .unk _
 ·rename_i h1 h2;refine .same x ?_;cases x<;>first | exact trivial | (exact (h1 _ _ _ _ rfl).elim) | (exact (h2 _ _ _ _ rfl).elim)
theorem rc8{x z:c7}{x':Value}(h:TC k H R x z)(hx:U5 ρ (n8 H) F w x x'):TC k (n8 H) R x z:=by
 cases h with
 |unk=>exact .unk _
 |ptr id i c g j b hb hj =>
  obtain⟨hb1,hd1,hg1⟩:=r6 hb;obtain⟨ad,b2,e,m1,m2,m3,m4⟩:=za4 (.val (.cell hx));obtain⟨n1,n2⟩:=da8 m1 m2
  have:b2=b:=Qed (n1.symm.trans hb1)
  subst this;exact .ptr id i c g j b2 (by unfold blkAt;simp only[u9,m1,m2,hg1];simp) hj
 |sl id off n g j b hb hj =>
  obtain⟨hb1,hd1,hg1⟩:=r6 hb;obtain⟨ad,cap,b2,e,m1,m2,m3,_⟩:=ra7 (.val (.cell hx));obtain⟨n1,n2⟩:=da8 m1 m2
  have:b2=b:=Qed (n1.symm.trans hb1)
  subst this;exact .sl id off n g j b2 (by unfold blkAt;simp only[u9,m1,m2,hg1];simp) hj
 |same x h=>exact .same x h
theorem Cd5{x z:c7}{x':Value}(h:TV k H R x z)(hx:Y1 ρ (n8 H) F w x x'):TV k (n8 H) R x z:=by
 cases h with
 |cell hb h =>
  cases hx with
  |cell hx=>exact .cell hb (rc8 h hx)
  |_=>cases hb
 |agg cs ds hl h =>
  obtain⟨vs,e,hl2,h2⟩:=pa6 (.val hx);refine .agg cs ds hl λi x z hx hz=>?_
  have hi:i<vs.size:=hl2 ▸ (Qea.1 hx).1;exact rc8 (h i x z hx hz) (h2 i x _ hx (Qei hi))
 |fn f cs ds hl h =>
  obtain⟨vs,e,hl2,h2⟩:=kb7 (.val hx);refine .fn f cs ds hl λi x z hx hz=>?_
  have hi:i<vs.size:=hl2 ▸ (Qea.1 hx).1;exact rc8 (h i x z hx hz) (h2 i x _ hx (Qei hi))
 |tup l=>exact .tup l
theorem ee2{x z:c7}{x':Value}(h:TW k H R x z)(hx:z7 ρ (n8 H) F w x x'):TW k (n8 H) R x z:=by
 cases h with
 |val hn h =>
  cases hx with
  |val hx=>exact .val hn (Cd5 h hx)
  |tup cs vs hl h2=>exact absurd rfl (hn cs)
 |tup cs ds hl h =>
  obtain⟨vs,e,hl2,h2⟩:=Uc4 hx;refine .tup cs ds hl λi x z hx hz=>?_
  have hi:i<vs.size:=hl2 ▸ (Qea.1 hx).1;exact Cd5 (h i x z hx hz) (h2 i x _ hx (Qei hi))
theorem Pc3{b:c8}(h:A9 b=false):za1 k H R b=b:=by unfold za1;rw[h];rfl
theorem lb9(b:c8):(za1 k H R b).et=b.et/\(za1 k H R b).es=b.es/\(za1 k H R b).dead=b.dead/\(za1 k H R b).g=b.g/\(za1 k H R b).elems.length=b.elems.length/\A9 (za1 k H R b)=A9 b:=by
 unfold za1;cases A9 b&&Nat.beq b.et 0
 ·exact⟨rfl,rfl,rfl,rfl,rfl,rfl⟩
 ·refine⟨rfl,rfl,rfl,rfl,by simp[m9],rfl⟩
section
variable(hR:TOk k R)(hb:sa7 k H 0 R=some H2)
include hR hb
theorem Xc2{j:Nat}{c:c8}(hc:(p7 (za1 k H R) H2)[j]?=some c):∃id b,R[j]?=some id/\(R[j]?).getD 0=id/\H[id]?=some b/\c=za1 k H R (reG k j b):=by
 rw[m9,Qeh] at hc;cases h:H2[j]? with
 |none=>rw[h] at hc;cases hc
 |some c2 =>
  rw[h] at hc;injection hc with hc;obtain⟨id,b,h1,h2,h3,h4⟩:=Rb0 hb h;exact⟨id,b,h1,h2,h3,by rw[<- hc,h4]⟩
theorem Td7{j id:Nat}{b:c8}(hj:R[j]?=some id)(hid:H[id]?=some b):(p7 (za1 k H R) H2)[j]?=some (za1 k H R (reG k j b)):=by
 obtain⟨_,hat⟩:=tb9 hb;obtain⟨b',h1,h2⟩:=hat j id hj
 have:b'=b:=Qed (h1.symm.trans hid)
 subst this;rw[Qex] at h2;rw[m9,Qeh,h2];rfl
theorem xc8(j:Nat)(b:c8):A9 (reG k j b)=A9 b:=by unfold A9;rw[Ta0]
theorem Pc4:Oc5 (λj=>ρ ((R[j]?).getD 0)) (n8 H2) (λj=>ρ ((R[j]?).getD 0)) (n8 (p7 (za1 k H R) H2)):=λj b hb' hd=>by
 obtain⟨h1,h2⟩:=da8 hb' hd;refine⟨b,ba2 ?_ h2,hd,Qec _,λ_=>⟨rfl,rfl,Qec _⟩⟩
 rw[m9,Qeh,h1];simp[Pc3 h2]
theorem ve9{x z:c7}{x':Value}(h:TC k H R x z)(hx:U5 ρ (n8 H) F w x x'):U5 (λj=>ρ ((R[j]?).getD 0)) (n8 (p7 (za1 k H R) H2)) F w z x' :=
 (Cb5 (lb8 hb) (rc8 h hx) hx).carry (Pc4 hR hb) (λ_ _ h=>h) (λ_ _ _=>rfl)
theorem le0{x z:c7}{x':Value}(h:TW k H R x z)(hx:z7 ρ (n8 H) F w x x'):z7 (λj=>ρ ((R[j]?).getD 0)) (n8 (p7 (za1 k H R) H2)) F w z x' :=
 (Vc3 (lb8 hb) (ee2 h hx) hx).carry (Pc4 hR hb) (λ_ _ h=>h) (λ_ _ _=>rfl)
theorem vd5{x z:c7}{x':Value}(h:TC k H R x z)(hx:XC ρ H F w x x'):XW (λj=>ρ ((R[j]?).getD 0)) (p7 (za1 k H R) H2) F w z x'/\(XC (λj=>ρ ((R[j]?).getD 0)) (p7 (za1 k H R) H2) F w z x'):=by
 have main:XC (λj=>ρ ((R[j]?).getD 0)) (p7 (za1 k H R) H2) F w z x':=by
  cases hx with
  |n hx=>exact .n (ve9 hR hb h hx)
  |box id c g b hb1 hd he =>
   cases h with
   |unk=>exact .n (.unk _)
   |ptr _ _ _ _ j b2 hb2 hj =>
    have e:ρ id=(λj=>ρ ((R[j]?).getD 0)) j:=by simp[hj]
    rw[e];obtain⟨q1,q2,q3,q4,q5,q6⟩:=lb9 (k:=k) (H:=H) (R:=R) (reG k j b);exact .box j c _ _ (Td7 hR hb hj hb1) (by rw[q3,sa8];exact hd) ⟨by rw[q2,Ta0];exact he.1,by rw[q1,Mb1];exact he.2⟩
   |same _ hs=>exact hs.elim
  |map id c g b t hb1 hd he =>
   cases h with
   |unk=>exact .n (.unk _)
   |ptr _ _ _ _ j b2 hb2 hj =>
    have e:ρ id=(λj=>ρ ((R[j]?).getD 0)) j:=by simp[hj]
    rw[e];obtain⟨q1,q2,q3,q4,q5,q6⟩:=lb9 (k:=k) (H:=H) (R:=R) (reG k j b);exact .map j c _ _ t (Td7 hR hb hj hb1) (by rw[q3,sa8];exact hd) ⟨by rw[q2,Ta0];exact he.1,by rw[q1,Mb1];exact he.2⟩
   |same _ hs=>exact hs.elim
 exact⟨.c main,main⟩
theorem pe2{x z:c7}{x':Value}(h:TW k H R x z)(hx:XW ρ H F w x x'):XW (λj=>ρ ((R[j]?).getD 0)) (p7 (za1 k H R) H2) F w z x':=by
 cases hx with
 |w hx=>exact .w (le0 hR hb h hx)
 |c hx =>
  have hx0:=hx;cases hx with
  |n hx=>exact .w (le0 hR hb h (.val (.cell hx)))
  |box =>
   cases h with
   |val _ h=>cases h with
    |cell _ h=>exact (vd5 hR hb h hx0).1
  |map =>
   cases h with
   |val _ h=>cases h with
    |cell _ h=>exact (vd5 hR hb h hx0).1
theorem Td8(h:Rd1 P WB W' ρ H F w):Rd1 P WB W' (λj=>ρ ((R[j]?).getD 0)) (p7 (za1 k H R) H2) F w:=by
 refine⟨λj c hc hs hd=>?_,λj j' c c' hc hc' hs hs' hd hd' hne=>?_⟩
 ·obtain⟨id,b,h1,h2,h3,h4⟩:=Xc2 hR hb hc;subst h4;obtain⟨q1,q2,q3,q4,q5,q6⟩:=lb9 (k:=k) (H:=H) (R:=R) (reG k j b);rw[q6,xc8 hR hb] at hs;rw[q3,sa8] at hd;obtain⟨k1,k2,k3,k4,k5⟩:=h.has id b h3 hs hd;simp only[h2];refine⟨k1,k2,k3,k4,?_⟩
  rcases k5 with⟨e,row,vs,t,m1,m2,m3,m4⟩|⟨t,K,El,fl,es,clk,m1,m2,m3,m4,m5,m6⟩
  ·refine .inl ⟨⟨by rw[q2,Ta0];exact e.1,by rw[q1,Mb1];exact e.2⟩,row.map (Od3 k H R),vs,t,?_,m2,by simpa using m3,λi z x' hz hx'=>?_⟩
   ·unfold za1
    have:(A9 (reG k j b)&&Nat.beq (reG k j b).et 0)=true:=by rw[xc8 hR hb,hs,Mb1,e.2];rfl
    rw[this];show p7 (p7 (Od3 k H R)) (reG k j b).elems=_;rw[xa5,m1,m9];simp[m9]
   ·rw[Qeh] at hz;cases hq:row[i]? with
    |none=>rw[hq] at hz;cases hz
    |some q =>
     rw[hq] at hz;injection hz with hz;subst hz;obtain⟨g1,g2⟩:=m4 i q x' hq hx';exact⟨g1,(vd5 hR hb (ee1 q) g2).2⟩
  ·have hnb : za1 k H R (reG k j b) = reG k j b := by
    unfold za1
    have:(A9 (reG k j b)&&Nat.beq (reG k j b).et 0)=false:=by
     rw[Mb1,m1.2,Bool.and_eq_false_iff];exact .inr rfl
    rw[this]
   rw[hnb];exact .inr ⟨t,K,El,fl,es,clk,⟨by rw[Ta0];exact m1.1,by rw[Mb1];exact m1.2⟩,m2,m3,m4,by rw[xa5];exact m5,by rw[xa5];exact m6⟩
 ·obtain⟨id,b,h1,h2,h3,h4⟩:=Xc2 hR hb hc;obtain⟨id',b',h1',h2',h3',h4'⟩:=Xc2 hR hb hc';subst h4 h4';obtain⟨_,_,q3,_,_,q6⟩:=lb9 (k:=k) (H:=H) (R:=R) (reG k j b);obtain⟨_,_,q3',_,_,q6'⟩:=lb9 (k:=k) (H:=H) (R:=R) (reG k j' b');rw[q6,xc8 hR hb] at hs;rw[q6',xc8 hR hb] at hs';rw[q3,sa8] at hd;rw[q3',sa8] at hd';simp only[h2,h2'];refine h.apart id id' b b' h3 h3' hs hs' hd hd' λe=>hne ?_
  subst e;obtain⟨a1,a2⟩:=Qea.1 h1;obtain⟨b1,b2⟩:=Qea.1 h1';exact (List.getElem_inj hR.nodup).1 (a2.trans b2.symm)
end
theorem pe3{ds:List Deferred}(hR:TOk H0.length R)(hb:sa7 H0.length H 0 R=some H2)(h:C2 P WB K J ρ0 H0 F0 w0 H ds w ρ F W' up):C2 P WB K J ρ0 H0 F0 w0 (p7 (za1 H0.length H R) H2) ds w (λj=>ρ ((R[j]?).getD 0)) F W' up:=by
 have hAd:=Rb1 hR hb h.adv;have hat:∀(j:Nat) c,H2[j]?=some c->(p7 (za1 H0.length H R) H2)[j]?=some (za1 H0.length H R c):=λj c hc=>by rw[m9,Qeh,hc];rfl
 refine⟨h.sub,⟨hAd.ext,λid b hid=>?_,hAd.more,hAd.new,λid b' hb' hn=>?_⟩,?_,Td8 hR hb h.srel,h.kept,λj c hc hs hd=>?_,h.jot,h.marks⟩
 ·obtain⟨b',k1,k2,k3,k4⟩:=hAd.heap id b hid;obtain⟨q1,q2,q3,q4,q5,q6⟩:=lb9 (k:=H0.length) (H:=H) (R:=R) b';exact⟨_,hat id b' k1,q3.trans k2,by rw[q4];exact k3,λhg=>by rw[q2,q5];exact k4 (q4 ▸ hg)⟩
 ·rw[m9,Qeh] at hb';cases hq:H2[id]? with
  |none=>rw[hq] at hb';cases hb'
  |some c =>
   rw[hq] at hb';injection hb' with hb';subst hb';obtain⟨_,_,_,q4,_,_⟩:=lb9 (k:=H0.length) (H:=H) (R:=R) c;exact hAd.fresh id c hq λb hb1=>by rw[<- q4];exact hn b hb1
 ·refine (Cb4 hR h.hrel (lb8 hb)).pull (λi=>i) (λi b hb1 hd=>?_) (λ_ _ _ _ _ _ _ _ e=>e)
  obtain⟨h1,h2⟩:=da8 hb1 hd;rw[m9,Qeh] at h1;cases hq:H2[i]? with
  |none=>rw[hq] at h1;cases h1
  |some c =>
   rw[hq] at h1;injection h1 with h1;have hsc:A9 c=false:=by
    obtain⟨_,_,_,_,_,q6⟩:=lb9 (k:=H0.length) (H:=H) (R:=R) c;rw[<- q6,h1];exact h2
   rw[Pc3 hsc] at h1;subst h1;exact⟨ba2 hq hsc,rfl⟩
 ·obtain⟨id,b,h1,h2,h3,h4⟩:=Xc2 hR hb hc;subst h4;obtain⟨_,_,q3,_,_,q6⟩:=lb9 (k:=H0.length) (H:=H) (R:=R) (reG H0.length j b);rw[q6,xc8 hR hb] at hs;rw[q3,sa8] at hd;simp only[h2];exact h.far id b h3 hs hd
theorem I3.tidyM{s s':St}{ac:Act}{keep:List Nat}(h:I3 P WB K J n S rv DF ρ0 H0 F0 w0 s ac w)(he:(Ev.tidyM H0.length ⟨K4 keep s.a 0,s.H⟩).run=some s'):I3 P WB K J n S rv DF ρ0 H0 F0 w0 s' ac w:=by
 obtain⟨⟨ρ,F,W',up,hI⟩,hheld,hdf⟩:=h;unfold Ev.tidyM at he;cases ht:Pb6 H0.length s.H (K4 keep s.a 0) (List.range H0.length) with
 |mk a roots =>
 simp only[ht] at he;cases hb:sa7 H0.length s.H 0 (Mc4 s.H roots roots) with
 |none=>simp[hb] at he
 |some H2 =>
 simp only[hb] at he;have he':some (⟨a,p7 (za1 H0.length s.H (Mc4 s.H roots roots)) H2⟩:St)=some s':=he;injection he' with he';subst he';obtain⟨k1,_,k3,k4⟩:=uc8 (TOk.start _) ht;obtain⟨m1,m2⟩:=jd7 s.H roots roots k1;obtain⟨g1,g2⟩:=ub0 keep s.a 0;refine⟨⟨_,F,W',up,pe3 m1 hb hI.core,⟨(k3.trans g1).trans hI.vals.1,λi x x' hx hx'=>?_⟩,hI.size⟩,hheld,hdf⟩
 have hi:i<(K4 keep s.a 0).length:=k3 ▸ (Qea.1 hx).1;have hk:=k4 i _ x (Qeb hi) hx;refine pe2 m1 hb (hk.le m2) ?_
 rcases g2 i _ (Qeb hi) with e|e
 ·rw[e];exact .w (.unk _)
 ·exact hI.vals.2 i _ x' e hx'
end
section
variable{DS:Nat->Prop}{tm:Array Value}{ds:List Deferred}{Fe:Fence}{nn:Nat}
variable{W:Nat->Prop}{ρ0:Rho}{H0:List c8}{F0:Fz}{w0 w:World}
variable{tr:Nat}{E:Env}{ops:Array Oper}{M:List Nat}{ks:List (Nat×PI)}{s:St}{U T:Nat->St}
structure vb9(DS:Nat->Prop)(tm:Array Value)(ds:List Deferred)(W:Nat->Prop)(ρ0:Rho)(H0:List c8)(F0:Fz)(w0:World)(tr:Nat)(E:Env)(ops:Array Oper)(a0:List c7)(U T:Nat->St)(m:Nat)(listed:Array Bool)(ac:Act)(w:World):Prop where
 size:listed.size=ops.size
 closed:∀j,j<ops.size->ia5 listed j->∀i∈ma6 (pa9 ops j),ia5 listed i
 hm:m<=ops.size
 heavy:∀j,j<ops.size->F8 tr E.P ops j=2->(ia5 listed j↔j<m)
 inv:lb6 DS tm ds W ρ0 H0 F0 w0 ⟨Da8 (T ops.size).a a0 (O2 ops listed),X4 (T m).H (J9 tr E.P ops U listed)⟩ ac w
variable(hD:DC tr E.P ops M ks)(hT:Vc5 E ops ks s U T)(hin:∀j,j<ops.size->F8 tr E.P ops j=0->∀d,aa5 ops j=some d->d<s.a.length)
include hD
theorem wa7{m:Nat}{listed:Array Bool}{ac:Act}(hR:vb9 DS tm ds W ρ0 H0 F0 w0 tr E ops s.a U T m listed ac w){j:Nat}(hj:j<ops.size)(hd:∀i∈ma6 (pa9 ops j),ia5 listed i){i:Nat}(hi:i<ops.size)(hb:p8 M i j=true):ia5 listed i :=
 ic4 hD.rows (ia5 listed) (λj' o ho hx i hi=>by
  have hj':=(Qek.1 ho).1
  have:o=pa9 ops j':=Qed (ho.symm.trans (ha0 hj'))
  subst this;exact hR.closed j' hj' hx i hi) j _ (ha0 hj) hd i hi hb
include hT
theorem xc9 {m : Nat} {listed : Array Bool} {ac : Act} (hR : vb9 DS tm ds W ρ0 H0 F0 w0 tr E ops s.a U T m listed ac w) {j : Nat} (hj : j < ops.size) (hnx : ¬ ia5 listed j) (hd : ∀ i ∈ ma6 (pa9 ops j), ia5 listed i) :
  Agr (T j).a (Da8 (T ops.size).a s.a (O2 ops listed)) (Lb4 (Mb4 ops j)++Ya3 (M2 tr E.P ops j)):=λt ht=>by
 have huniq:∀{i i':Nat},i<ops.size->i'<ops.size->aa5 ops i=some t->aa5 ops i'=some t->i=i':=λ{i i'} h1 h2 e1 e2=>((hD.slots h1 h2 e1).2).resolve_right λh=>h e2
 have hend:(∀i,j<=i->i<ops.size->aa5 ops i≠some t)->(T j).a[t]?=(T ops.size).a[t]?:=λh=>by
  have:=Mb6 hD hT (t:=t) (ops.size-j) j (by omega) λi h1 h2 _=>h i h1 (by omega)
  rw[show j+(ops.size-j)=ops.size by omega] at this
  exact this.symm
 by_cases hw:∃i,i<ops.size/\aa5 ops i=some t
 ·obtain⟨i,hi,hdi⟩:=hw
  rcases (hD.slots hi hj hdi).1 ht with hb|⟨_,hna,hb⟩
  ·have hxi:=wa7 hD hR hj hd hi hb;rw[Fa5]
   ·refine hend λk h1 h2 he=>?_
    have:=huniq hi h2 hdi he
    have:=gb1 hD hj hi hb
    omega
   ·rintro⟨k,h1,h2,h3⟩
    have:=huniq hi h1 hdi h2
    subst this;exact h3 hxi
  ·have hxi : ¬ ia5 listed i := fun hx => by
    rcases hb with hb|hb
    ·exact hnx (wa7 hD hR hi (hR.closed i hi hx) hj hb)
    ·subst hb;exact hnx hx
   have hji:j<=i:=by
    rcases hb with hb|hb
    ·have:=gb1 hD hi hj hb;omega
    ·omega
   have h1:=Mb6 hD hT (t:=t) j 0 (by omega) λk _ h2 _ he=>by
    have:=huniq hi (by omega) hdi he
    omega
   have h2:=Vc9 hD hT (t:=t) ops.size 0 (by omega) λk _ h2 hk he=>by
    have:=huniq hi (by omega) hdi he
    subst this
    have:=vc6 hk
    rw[hna] at this;cases this
   rw[Qex] at h1 h2;rw[h1,hT.t0,h2,hT.u0]
   rcases Qeq t (T ops.size).a.length with hlt|hge
   ·rw[Rb6 ⟨i,hi,hdi,hxi⟩ hlt];rw[(ub6 hD hT ops.size (Qec _)).2] at hlt;rw[Qeb hlt];rfl
   ·rw[Qeo (by rw[<- (ub6 hD hT ops.size (Qec _)).2];exact hge),Qeo (by rw[Fa4];exact hge)]
 ·rw[Fa5]
  ·exact hend λk _ h2 he=>hw ⟨k,h2,he⟩
  ·rintro⟨k,h1,h2,_⟩;exact hw ⟨k,h1,h2⟩
end
section
variable{DS:Nat->Prop}{tm:Array Value}{ds:List Deferred}{Fe:Fence}{nn:Nat}
variable{W:Nat->Prop}{ρ0:Rho}{H0:List c8}{F0:Fz}{w0 w:World}
variable{tr:Nat}{E:Env}{ops:Array Oper}{M:List Nat}{ks:List (Nat×PI)}{s:St}{U T:Nat->St}
variable(hD:DC tr E.P ops M ks)(hT:Vc5 E ops ks s U T)(hin:∀j,j<ops.size->F8 tr E.P ops j=0->∀d,aa5 ops j=some d->d<s.a.length)
variable(hpairs:Ha7 E (T ops.size).a (za3 ops.size M ks)=true)
variable(hF:FW Fe)(hDS:∀j d,j<ops.size->aa5 ops j=some d->DS d)
variable(hG0:GOk E F0 w0)(hcalls:∀f,g8 E.P E.G f (E.call f))
include hD
theorem vb9.next {m m' : Nat} {listed : Array Bool} {ac ac' : Act} {w' : World} (hR : vb9 DS tm ds W ρ0 H0 F0 w0 tr E ops s.a U T m listed ac w) {i : Nat} (hi : i < ops.size) (hdi : ∀ j ∈ ma6 (pa9 ops i), ia5 listed j)
  (hm':m'<=ops.size) (hheavy:∀j,j<ops.size->F8 tr E.P ops j=2->(ia5 (listed.setIfInBounds i true) j↔j<m'))
  {x:c7} (hx:∀d,aa5 ops i=some d->d<(T ops.size).a.length->(T ops.size).a[d]?=some x)
  (hI:lb6 DS tm ds W ρ0 H0 F0 w0 ⟨putA (Da8 (T ops.size).a s.a (O2 ops listed)) (aa5 ops i) x,X4 (T m').H (J9 tr E.P ops U (listed.setIfInBounds i true))⟩ ac' w') :
  vb9 DS tm ds W ρ0 H0 F0 w0 tr E ops s.a U T m' (listed.setIfInBounds i true) ac' w':=by
 refine⟨by simpa using hR.size,λj hj hx k hk=>?_,hm',hheavy,by rw[Id5 hD hR.size hi hx];exact hI⟩
 have his:i<listed.size:=by rw[hR.size];exact hi
 rcases (za6 his).1 hx with h|h
 ·exact (za6 his).2 (.inl (hR.closed j hj h k hk))
 ·subst h;exact (za6 his).2 (.inl (hdi k hk))
omit hD in
theorem lb6.puts{ac:Act}{j:Nat}(hDS:∀j d,j<ops.size->aa5 ops j=some d->DS d)(hj:j<ops.size)(hsm:∀t,¬ DS t->ac.tmps[t]?=tm[t]?)(v:Value)(t:Nat)(ht:¬ DS t):(ac.put (aa5 ops j) v).tmps[t]?=tm[t]?:=(Sb9 λe=>ht (hDS j t hj e)).trans (hsm t ht)
include hG0 hcalls hF hDS in
theorem bc8 {ac : Act} {i : Nat} {a : List c7} {H H' : List c8} {b : Bool} {x : c7} {Q : Exit → Act → World → Prop} {K : Act → World → Prop} (hi : i < ops.size)
  (hI:lb6 DS tm ds W ρ0 H0 F0 w0 ⟨a,H⟩ ac w) (hg:lc6 E a (Mb4 ops i)=some b)
  (h1:b=true->(evalOp E a H (M2 tr E.P ops i)).run=some (x,H')) (h2:b=false->x=.v (.tuple #[])/\H'=H)
  (hK:∀ac' w',lb6 DS tm ds W ρ0 H0 F0 w0 ⟨putA a (aa5 ops i) x,H'⟩ ac' w'->K ac' w'):wpOpIn Fe nn E.P ops Q i K ac w:=by
 obtain⟨hd,hsz,hsm,ρ,F,hAdv,hH,hA⟩:=hI;have hw:=gd9 (hD.guard i hi) hA hg;unfold wpOpIn;simp only[ha0 hi,hw];cases b with
 |true =>
  rw[if_pos rfl];refine (Nc8 (ac:={ ac with defers:=[] }) tr hA hH (hG0.adv hAdv) hcalls (h1 rfl)).inAny hF nn _ _ λx' w' hp=>?_
  obtain⟨ρ',F',a1,a2,a3⟩:=hp;exact hK _ _ ⟨(w6 _ _).trans hd,(fa3 _ _).trans hsz,lb6.puts hDS hi hsm _,ρ',F',hAdv.trans a1,a2,(hA.adv a1).putA _ a3⟩
 |false =>
  rw[if_neg (by simp)]
  obtain⟨e1,e2⟩:=h2 rfl;subst e1 e2;exact⟨λf _=>hF.fn f,hK _ _ ⟨(w6 _ _).trans hd,(fa3 _ _).trans hsz,lb6.puts hDS hi hsm _,ρ,F,hAdv,hH,hA.putA _ (.ofv _)⟩⟩
include hT hin hpairs hG0 hcalls hF hDS
theorem jd8 {m : Nat} {listed : Array Bool} {ac : Act} (hR : vb9 DS tm ds W ρ0 H0 F0 w0 tr E ops s.a U T m listed ac w) {i : Nat} (hi : i < ops.size) (hk : F8 tr E.P ops i = 1) (hnx : ¬ ia5 listed i) (hdi : ∀ j ∈ ma6 (pa9 ops i), ia5 listed j)
  {Q:Exit->Act->World->Prop} {K:Act->World->Prop} (hK:∀ac' w',vb9 DS tm ds W ρ0 H0 F0 w0 tr E ops s.a U T m (listed.setIfInBounds i true) ac' w'->K ac' w'):wpOpIn Fe nn E.P ops Q i K ac w:=by
 obtain⟨b,x,g1,g2,g3,g4⟩:=rc7 hD hT hi hk;have hread:=xc9 hD hT hR hi hnx hdi;have hne:F8 tr E.P ops i≠0:=by omega
 refine bc8 hD hF hDS hG0 hcalls (H':=X4 (T m).H (J9 tr E.P ops U listed)) hi hR.inv ((Mb3 hread.left).symm.trans g1) (λhb=>?_) (λhb=>⟨g4 hb,rfl⟩) λac' w' hI'=>hK ac' w' ?_
 ·have he:=g3 hb;rw[Rb2 _ hread.right] at he;refine (Rb3 (hd5 hk) he).2 _ λid hid=>?_
  -- the block that is looked at stands in the heap at hand
  have hlive:∃b',(X4 (T m).H (J9 tr E.P ops U listed))[id]?=some b'/\b'.dead=false:=by
   obtain⟨hd0,_,_,ρ,F,hAdv,hH,hA⟩:=hR.inv;have harg:∀(y:Arg),rc2 y=true->id∈ba8 (d6 E (Da8 (T ops.size).a s.a (O2 ops listed)) y)->∃b',(X4 (T m).H (J9 tr E.P ops U listed))[id]?=some b'/\b'.dead=false:=λy hy hm=>by
    cases y with
    |c z =>
     exfalso;have hm':id∈ba8 z:=hm;cases z<;>first | (cases hm';done) | (cases hy;done)
    |g n =>
     exfalso;have hm':id∈ba8 (.tptr (p7 .v (E.G n))):=hm;cases hm'
    |t n =>
     rw[Oa4] at hm;cases hn:(Da8 (T ops.size).a s.a (O2 ops listed))[n]? with
     |none=>rw[hn] at hm;cases hm
     |some u =>
     rw[hn] at hm;simp only[Option.getD_some] at hm;have hlt:n<ac.tmps.size:=hA.1 ▸ (Qea.1 hn).1;have hW:=hA.2 n u _ hn (Qei hlt);cases u with
     |ptr id' i c g =>
      have:id=id':=by simpa [ba8] using hm
      subst this;obtain⟨_,b',_,h1,h2,_⟩:=za4 hW;exact⟨b',h1,h2⟩
     |sl id' off n g =>
      have:id=id':=by simpa [ba8] using hm
      subst this;obtain⟨_,_,b',_,h1,h2,_⟩:=ra7 hW;exact⟨b',h1,h2⟩
     |_=>cases hm
   have hbare:=hD.bare hi
   revert hbare hid
   generalize M2 tr E.P ops i=q;intro hid hbare;cases q with
   |load ks n agg y=>exact harg y hbare hid
   |idxS es y z=>exact harg y hbare hid
   |slice es y lo hi=>exact harg y hbare hid
   |_=>cases hid
  obtain⟨b',hb1,hb2⟩:=hlive;obtain⟨hnD,hb3⟩:=td5 hb1 hb2;have huse:id∈wa6 E (T ops.size).a (M2 tr E.P ops i):=by
   rw[<- Qd0 hD hT hi,Sb3 hread.right];exact hid
  -- nobody between touches it
  have hbetween:∀j,j<ops.size->F8 tr E.P ops j=2->p8 M i j=false->p8 M j i=false->id∉M1 E (T ops.size).a (M2 tr E.P ops j):=λj hj hkj h1 h2 =>
   vc7 hpairs (hD.pair hj hi hk hkj h2 h1) id huse
  have hlike:L4 (T i).H (T m).H id:=by
   rcases Qeq i m with him|him
   ·have := ud3 hD hT hin (id := id) (m - i) i (by have := hR.hm; omega) fun j h1 h2 hkj => by
     have hj:j<ops.size:=by have:=hR.hm;omega
     have hxj:=(hR.heavy j hj hkj).2 (by omega)
     refine hbetween j hj hkj ?_ ?_
     ·cases hc:p8 M i j with
      |false=>rfl
      |true=>exact absurd (wa7 hD hR hj (hR.closed j hj hxj) hi hc) hnx
     ·cases hc:p8 M j i with
      |false=>rfl
      |true=>have:=gb1 hD hi hj hc;omega
    rwa [show i+(m-i)=m by omega] at this
   ·have := ud3 hD hT hin (id := id) (i - m) m (by omega) fun j h1 h2 hkj => by
     have hj:j<ops.size:=by omega
     have hxj:¬ ia5 listed j:=λh=>by have:=(hR.heavy j hj hkj).1 h;omega
     refine hbetween j hj hkj ?_ ?_
     ·cases hc:p8 M i j with
      |false=>rfl
      |true=>have:=gb1 hD hj hi hc;omega
     ·cases hc:p8 M j i with
      |false=>rfl
      |true=>exact absurd (wa7 hD hR hi hdi hj hc) hxj
    rw[show m+(i-m)=i by omega] at this
    intro b0 hb0;obtain⟨b2,h3,h4⟩:=this b' hb3
    have:b2=b0:=Qed (h3.symm.trans hb0)
    subst this;exact⟨b',hb3,h4.1.symm,h4.2.1.symm,h4.2.2.1.symm,h4.2.2.2.1.symm,h4.2.2.2.2.symm⟩
  refine hlike.trans λb0 hb0=>⟨b0,?_,.refl b0⟩
  rw[L5 hnD];exact hb0
 ·refine vb9.next hD hR hi hdi hR.hm (λj hj hkj=>?_) (x:=x) (λd hd hlt=>?_) ?_
  ·rw[za6 (hR.size ▸ hi)];rw[<- hR.heavy j hj hkj];exact⟨λh=>h.resolve_right λe=>by subst e;omega,.inl⟩
  ·rw[ke6 hD hT hi hd,g2,hd];refine rc6 ?_;rw[(ub6 hD hT i (by omega)).2,<- (ub6 hD hT ops.size (Qec _)).2]
   exact hlt
  ·rw[Oc6 hR.size hi hne];exact hI'
omit hpairs in
theorem jd9 {m : Nat} {listed : Array Bool} {ac : Act} (hR : vb9 DS tm ds W ρ0 H0 F0 w0 tr E ops s.a U T m listed ac w) {i : Nat} (hi : i < ops.size) (hk : F8 tr E.P ops i = 2) (hnx : ¬ ia5 listed i) (hdi : ∀ j ∈ ma6 (pa9 ops i), ia5 listed j)
  {Q:Exit->Act->World->Prop} {K:Act->World->Prop} (hK:∀ac' w',vb9 DS tm ds W ρ0 H0 F0 w0 tr E ops s.a U T (i+1) (listed.setIfInBounds i true) ac' w'->K ac' w'):wpOpIn Fe nn E.P ops Q i K ac w:=by
 obtain⟨b,x,g1,g2,g3,g4⟩:=Wc2 hD hT hin hi hk;have hread:=xc9 hD hT hR hi hnx hdi;have hne:F8 tr E.P ops i≠0:=by omega
 have hmi:m<=i:=by
  rcases Qeq i m with h|h
  ·exact absurd ((hR.heavy i hi hk).2 h) hnx
  ·exact h
 have hno:∀j,m<=j->j<i->F8 tr E.P ops j≠2:=λj h1 h2 hkj=>by
  have hj:j<ops.size:=by omega
  have:=(hR.heavy j hj hkj).1 (wa7 hD hR hi hdi hj (hD.chain h2 hi hkj hk).1)
  omega
 have hsame:(T m).H=(T i).H:=by
  have:=ud2 hD hT (i-m) m (by omega) λj h1 h2=>hno j h1 (by omega)
  rw[show m+(i-m)=i by omega] at this
  exact this.symm
 have hfin:∀{H':List c8} {ac':Act} {w':World},H'=X4 (T (i+1)).H (J9 tr E.P ops U listed)->lb6 DS tm ds W ρ0 H0 F0 w0 ⟨putA (Da8 (T ops.size).a s.a (O2 ops listed)) (aa5 ops i) x,H'⟩ ac' w'->K ac' w':=λ{H' ac' w'} e hI'=>by
  refine hK ac' w' (vb9.next hD hR hi hdi (by omega) (λj hj hkj=>?_) (x:=x) (λd hd hlt=>?_) ?_)
  ·rw[za6 (hR.size ▸ hi)];constructor
   ·rintro (h|h)
    ·have:=(hR.heavy j hj hkj).1 h;omega
    ·omega
   ·intro h;by_cases e:j=i
    ·exact .inr e
    ·refine .inl ((hR.heavy j hj hkj).2 ?_)
     rcases Qeq j m with h'|h'
     ·exact h'
     ·exact absurd hkj (hno j h' (by omega))
  ·rw[ke6 hD hT hi hd,g2,hd];refine rc6 ?_;rw[(ub6 hD hT i (by omega)).2,<- (ub6 hD hT ops.size (Qec _)).2]
   exact hlt
  ·rw[Oc6 hR.size hi hne,<- e];exact hI'
 cases b with
 |false =>
  obtain⟨h1,h2⟩:=g4 rfl;exact bc8 hD hF hDS hG0 hcalls (x:=x) (H':=X4 (T m).H (J9 tr E.P ops U listed)) hi hR.inv ((Mb3 hread.left).symm.trans g1) (λh=>by cases h) (λ_=>⟨h1,rfl⟩) λac' w' hI'=>hfin (by rw[h2,hsame]) hI'
 |true =>
  obtain⟨hid,H',h5,h6,h7⟩:=g3 rfl;rw[Rb2 _ hread.right] at h6;have hall:∀id∈hid,id<(T i).H.length:=λid hid'=>by
   obtain⟨b',k1,k2,k3,rfl⟩:=(h5 id).1 hid';exact Qd1 hD hT hin hi hk k1 k2 k3
  have hsub:∀id,J9 tr E.P ops U listed id->id∈hid:=λid ⟨b',k1,k2,k3,k4⟩=>by
   refine (h5 id).2 ⟨b',k1,k2,?_,k4⟩;cases hc:p8 M b' i with
   |false=>rfl
   |true=>exact absurd (wa7 hD hR hi hdi k1 hc) k3
  have hMono:C7 (·∈hid) (X4 (T i).H (·∈hid)) (X4 (T i).H (J9 tr E.P ops U listed)) (X4 (T i).H (·∈hid)) (X4 (T i).H (J9 tr E.P ops U listed)):=by
   refine⟨by rw[Ra4,Ra4],λid hn=>?_,λid b hm hb=>?_,λ_ _=>rfl,λ_ _=>rfl,λid h=>by rw[Ra4];exact hall id h⟩
   ·rw[L5 (D:=(·∈hid)) hn,L5 λh=>hn (hsub id h)]
   ·rw[fa2 (D:=(·∈hid)) hm] at hb;simp only[Qer] at hb;obtain⟨c,_,rfl⟩:=hb;rfl
  obtain⟨H2',h8,h9⟩:=hMono.evalOp (Rb9 hk) h6;refine bc8 hD hF hDS hG0 hcalls (x:=x) (H':=H2') hi hR.inv ((Mb3 hread.left).symm.trans g1) (λ_=>by rw[hsame];exact h8) (λh=>by cases h) λac' w' hI'=>hfin ?_ hI'
  refine List.ext_getElem? λid=>?_
  rw[h7];by_cases hm:id∈hid
  ·rw[h9.at2 id hm];have hr:=ac9 (H0:=(T i).H) (H:=H') hm (hall id hm) (h9.bound id hm);by_cases hd:J9 tr E.P ops U listed id
   ·rw[fa2 hd,fa2 hd,hr]
   ·rw[L5 hd,L5 hd,hr]
  ·rw[<- h9.same id hm,L5 λh=>hm (hsub id h),vc3 hm]
end
section
variable{DS:Nat->Prop}{tm:Array Value}{ds:List Deferred}{Fe:Fence}{nn:Nat}
variable{W:Nat->Prop}{ρ0:Rho}{H0:List c8}{F0:Fz}{w0 w:World}
variable{tr:Nat}{E:Env}{ops:Array Oper}{M:List Nat}{ks:List (Nat×PI)}{s:St}{U T:Nat->St}
variable(hD:DC tr E.P ops M ks)(hT:Vc5 E ops ks s U T)(hin:∀j,j<ops.size->F8 tr E.P ops j=0->∀d,aa5 ops j=some d->d<s.a.length)(hlen:H0.length<=s.H.length)
variable(hF:FW Fe)(hDS:∀j d,j<ops.size->aa5 ops j=some d->DS d)
include hD hT hin hlen
include hF hDS in
theorem kd0 (hG0 : GOk E F0 w0) (hcalls : ∀ f, g8 E.P E.G f (E.call f)) {m : Nat} {listed : Array Bool} {ac : Act} (hR : vb9 DS tm ds W ρ0 H0 F0 w0 tr E ops s.a U T m listed ac w) {i : Nat} (hi : i < ops.size) (hk : F8 tr E.P ops i = 0) (hnx : ¬ ia5 listed i) (hdi : ∀ j ∈ ma6 (pa9 ops i), ia5 listed j)
  {Q:Exit->Act->World->Prop} {K:Act->World->Prop} (hK:∀ac' w',vb9 DS tm ds W ρ0 H0 F0 w0 tr E ops s.a U T m (listed.setIfInBounds i true) ac' w'->K ac' w'):wpOpIn Fe nn E.P ops Q i K ac w:=by
 obtain⟨d,hgn,hd,hevA,hU⟩:=Ya7 hD hT hi hk;generalize hnb:Gc7 (M2 tr E.P ops i)=NB at *
 have nbd:NB.dead=false:=hnb ▸ Id3 _;have nbg:NB.g=0:=hnb ▸ ne4 _;obtain⟨hd0,hsz,hsm,ρ,F,hAdv,hH,hA⟩:=hR.inv
 simp only at hAdv hH hA
 generalize hHS:X4 (T m).H (J9 tr E.P ops U listed)=HS at hAdv hH hA;have hHSlen:HS.length=(T m).H.length:=by rw[<- hHS,Ra4]
 have his:i<listed.size:=by rw[hR.size];exact hi
 -- the block stands in the text's heap,asq it was made
 have hblk:(T m).H[(U i).H.length]?=some (NB):=by
  have h1:=Wc3 hD hT hin hi hk m hR.hm λh h1 h2=>by
   cases hc:p8 M i h with
   |false=>rfl
   |true =>
    have hh:h<ops.size:=by have:=hR.hm;omega
    exact absurd (wa7 hD hR hh (hR.closed h hh ((hR.heavy h hh h2).2 h1)) hi hc) hnx
  rw[h1,ud1 hD hT hi hk,hnb]
 have hidlt:(U i).H.length<HS.length:=by rw[hHSlen];exact (Qea.1 hblk).1
 have hidge:s.H.length<=(U i).H.length:=(ud0 hD hT (by omega)).1
 have hdead:J9 tr E.P ops U listed (U i).H.length:=⟨i,hi,hk,hnx,rfl⟩;have hinj:∀b,b<ops.size->F8 tr E.P ops b=0->(U i).H.length=(U b).H.length->b=i:=λb hb hkb he=>by
  rcases Nat.lt_trichotomy b i with h|h|h
  ·have:=ve0 hD hT h (by omega) hkb;omega
  ·exact h
  ·have:=ve0 hD hT h (by omega) hk;omega
 have hdead':∀id,J9 tr E.P ops U (listed.setIfInBounds i true) id↔J9 tr E.P ops U listed id/\id≠(U i).H.length:=λid=>by
  constructor
  ·rintro⟨b,h1,h2,h3,h4⟩;refine⟨⟨b,h1,h2,λh=>h3 ((za6 his).2 (.inl h)),h4⟩,λe=>h3 ((za6 his).2 (.inr ?_))⟩
   exact hinj b h1 h2 (e.symm.trans h4)
  ·rintro⟨⟨b,h1,h2,h3,h4⟩,h5⟩;refine⟨b,h1,h2,λh=>?_,h4⟩
   rcases (za6 his).1 h with h|h
   ·exact h3 h
   ·subst h;exact h5 h4
 generalize hHS':X4 (T m).H (J9 tr E.P ops U (listed.setIfInBounds i true))=HS';have hoff:∀id,id≠(U i).H.length->HS'[id]?=HS[id]?:=λid hne=>by
  rw[<- hHS',<- hHS];by_cases h:J9 tr E.P ops U listed id
  ·rw[fa2 h,fa2 ((hdead' id).2 ⟨h,hne⟩)]
  ·rw[L5 h,L5 λh'=>h ((hdead' id).1 h').1]
 have hon:HS'[(U i).H.length]?=some (NB):=by
  rw[<- hHS',L5 λh'=>((hdead' _).1 h').2 rfl]
  exact hblk
 have hHSdead:∀b,HS[(U i).H.length]?=some b->b.dead=true:=λb hb=>by
  rw[<- hHS,fa2 hdead] at hb;simp only[Qer] at hb;obtain⟨c,_,rfl⟩:=hb;rfl
 -- the operation
 have hev:=hevA (Da8 (T ops.size).a s.a (O2 ops listed)) HS;unfold wpOpIn;have hw:Region.wanted (pa9 ops i) (yielded ops ac.tmps)=true:=by simp[Region.wanted,hgn]
 simp only[ha0 hi,hw];rw[if_pos trivial];refine (Nc8 (ac:={ ac with defers:=[] }) (ops:=ops) tr hA hH (hG0.adv hAdv) hcalls hev).inAny hF nn _ _ (λx' w' hp=>hK _ _ (vb9.next hD hR hi hdi hR.hm (λj hj hkj=>?_) (x:=lc7 (M2 tr E.P ops i) (U i).H.length) (λd' hd' hlt=>?_) ?_))
 ·rw[za6 his,<- hR.heavy j hj hkj];exact⟨λh=>h.resolve_right λe=>by subst e;omega,.inl⟩
 ·refine Wc0 hD hT hi hk hd' ?_ (Qec _);rw[<- (ub6 hD hT ops.size (Qec _)).2];exact hlt
 ·obtain⟨ρ',F',a1,a2,a3⟩:=hp;rw[hHS'];have hadv:=hAdv.trans a1
  let ρ2:Rho:=λid=>if id=(U i).H.length then ρ' HS.length else ρ' id
  have hρ2:∀id,id≠(U i).H.length->ρ2 id=ρ' id:=λid h=>if_neg h
  have hρ2':ρ2 (U i).H.length=ρ' HS.length:=if_pos rfl;have hold:∀id b,HS'[id]?=some b->id≠(U i).H.length->(HS++[NB])[id]?=some b:=λid b hb hne=>by
   rw[hoff id hne] at hb;rw[Qee (Qea.1 hb).1];exact hb
  have hN:(HS++[NB])[HS.length]?=some (NB):=by simp
  refine⟨(w6 _ _).trans hd0,(fa3 _ _).trans hsz,lb6.puts hDS hi hsm _,ρ2,F',⟨hadv.ext,λid b hb=>?_,hadv.more,hadv.new,λid b' hb' hn=>?_⟩,?_,?_⟩
  ·have hidH:id<s.H.length:=by have:=(Qea.1 hb).1;omega
   have hne:id≠(U i).H.length:=by omega
   obtain⟨b',h1,h2⟩:=hadv.heap id b hb;rw[Qee (by omega)] at h1
   refine⟨b',by rw[hoff id hne];exact h1,?_⟩
   rw[hρ2 id hne];exact h2
  ·by_cases he:id=(U i).H.length
   ·subst he;rw[hρ2'];exact hadv.fresh HS.length _ hN λb hb=>by have:=(Qea.1 hb).1;omega
   ·rw[hρ2 id he];exact hadv.fresh id b' (hold id b' hb' he) hn
  ·refine a2.pull (λid=>if id=(U i).H.length then HS.length else id) (λid b hb hdd=>?_) λid id' b b' hb hdd hb' hdd' he=>?_
   ·by_cases e:id=(U i).H.length
    ·subst e;simp only[if_true]
     have:b=NB:=Qed (hb.symm.trans hon)
     subst this;exact⟨hN,hρ2'⟩
    ·simp only[if_neg e];exact⟨hold id b hb e,hρ2 id e⟩
   ·have hlt : ∀ id b, HS'[id]? = some b → id ≠ (U i).H.length → id < HS.length := fun id b hb hne => by
     rw[hoff id hne] at hb;exact (Qea.1 hb).1
    by_cases e:id=(U i).H.length
    ·by_cases e':id'=(U i).H.length
     ·rw[e,e']
     ·simp only[if_pos e,if_neg e'] at he
      have:=hlt id' b' hb' e'
      omega
    ·by_cases e':id'=(U i).H.length
     ·simp only[if_neg e,if_pos e'] at he
      have:=hlt id b hb e
      omega
     ·simpa only[if_neg e,if_neg e'] using he
  ·have hA2 : ga9 ρ2 HS' F' w' (Da8 (T ops.size).a s.a (O2 ops listed)) ac.tmps := by
    refine hA.carry (λid b hb hdd=>?_) a1.more a1.ext.cells
    have hne:id≠(U i).H.length:=λe=>by
     subst e;rw[hHSdead b hb] at hdd;cases hdd
    obtain⟨b',h1,h2,h3,h4⟩:=a1.heap id b hb;rw[Qee (Qea.1 hb).1] at h1;refine⟨b',by rw[hoff id hne];exact h1,h2.trans hdd,h3,λhg=>?_⟩
    rw[hρ2 id hne];exact h4 hg
   have hW:z7 ρ2 HS' F' w' (lc7 (M2 tr E.P ops i) (U i).H.length) x':=by
    have hV:lc7 (M2 tr E.P ops i) HS.length=.ptr HS.length 0 0 0/\lc7 (M2 tr E.P ops i) (U i).H.length=.ptr (U i).H.length 0 0 0\/lc7 (M2 tr E.P ops i) HS.length=.sl HS.length 0 0 0/\lc7 (M2 tr E.P ops i) (U i).H.length=.sl (U i).H.length 0 0 0:=by
     cases M2 tr E.P ops i<;>first | exact .inl ⟨rfl,rfl⟩ | exact .inr ⟨rfl,rfl⟩
    rcases hV with⟨v1,v2⟩|⟨v1,v2⟩
    ·rw[v1] at a3;rw[v2];obtain⟨ad,b,e,h1,h2,h3,h4⟩:=za4 a3
     have:b=NB:=Qed (h1.symm.trans hN)
     subst this;rw[e];refine .val (.cell (.ptr _ 0 0 0 ad _ hon nbd (Nat.zero_le _) λhg=>?_))
     rw[hρ2'];exact h4 hg
    ·rw[v1] at a3;rw[v2];obtain⟨ad,cap,b,e,h1,h2,h3,h4,h5,h6,h7⟩:=ra7 a3
     have:b=NB:=Qed (h1.symm.trans hN)
     subst this;rw[e];refine .val (.cell (.sl _ 0 0 0 ad cap _ hon nbd (Nat.zero_le _) h4 h5 h6 λhg=>?_))
     rw[hρ2'];exact h7 hg
   exact hA2.putA (aa5 ops i) hW
omit hin in
theorem kd1 {ac : Act} (hI : lb6 DS tm ds W ρ0 H0 F0 w0 s ac w) :
  vb9 DS tm ds W ρ0 H0 F0 w0 tr E ops s.a U T 0 (Array.replicate ops.size false) ac { w with drawn:=w.drawn+1 }:=by
 have hnx:∀j,j<ops.size->¬ ia5 (Array.replicate ops.size false) j:=λj hj h=>by
  unfold ia5 at h;simp[Array.getD,hj] at h
 obtain⟨hd0,hsz,hsm,ρ,F,hAdv,hH,hA⟩:=hI;have hdead:∀id,J9 tr E.P ops U (Array.replicate ops.size false) id->s.H.length<=id:=λid ⟨b,h1,_,_,h4⟩=>by
  have:=(ud0 hD hT (j:=b) (by omega)).1
  omega
 have hlow:∀id,id<s.H.length->(X4 (T 0).H (J9 tr E.P ops U (Array.replicate ops.size false)))[id]?=s.H[id]?:=λid hid=>by
  rw[L5 λh=>by have:=hdead id h;omega,hT.t0]
  exact (ud0 hD hT (Qec _)).2 id hid
 have hhigh:∀id b,(X4 (T 0).H (J9 tr E.P ops U (Array.replicate ops.size false)))[id]?=some b->s.H.length<=id->b.dead=true:=λid b hb hge=>by
  have hlt:id<(T 0).H.length:=by
   have:=(Qea.1 hb).1
   rwa [Ra4] at this
  rw[hT.t0] at hlt;obtain⟨j,h1,h2,h3⟩:=Pd9 hD hT ops.size (Qec _) id hge hlt;rw[fa2 (show J9 tr E.P ops U (Array.replicate ops.size false) id from ⟨j,h1,h2,hnx j h1,h3⟩)] at hb
  simp only[Qer] at hb;obtain⟨c,_,rfl⟩:=hb;rfl
 have hH':u7 W ρ s.H F { w with drawn:=w.drawn+1 }:=hH.same rfl
 have hAdv':Adv W ρ0 H0 F0 w0 ρ s.H F { w with drawn:=w.drawn+1 }:=hAdv.trans (.same rfl rfl rfl rfl (Nat.le_succ _))
 let ρ1:Rho:=λid=>if id<s.H.length then ρ id else ⟨w.heap.size,0,0⟩
 have hρ1:∀id,id<s.H.length->ρ1 id=ρ id:=λid h=>if_pos h
 have hlive:∀id b,(X4 (T 0).H (J9 tr E.P ops U (Array.replicate ops.size false)))[id]?=some b->b.dead=false->id<s.H.length:=λid b hb hd=>by
  rcases Qeq id s.H.length with h|h
  ·exact h
  ·rw[hhigh id b hb h] at hd;cases hd
 refine⟨by simp,λj hj hx=>absurd hx (hnx j hj),Nat.zero_le _,λj hj _=>⟨λh=>absurd h (hnx j hj),λh=>by omega⟩,hd0,hsz,hsm,ρ1,F,⟨hAdv'.ext,λid b hb=>?_,hAdv'.more,hAdv'.new,λid b hb hn=>?_⟩,?_,?_⟩
 ·have hid:id<s.H.length:=by have:=(Qea.1 hb).1;omega
  obtain⟨b',h1,h2⟩:=hAdv'.heap id b hb;refine⟨b',(hlow id hid).trans h1,?_⟩;rw[hρ1 id hid];exact h2
 ·simp only at hb
  by_cases hid:id<s.H.length
  ·rw[hlow id hid] at hb;rw[hρ1 id hid];exact hAdv'.fresh id b hb hn
  ·show W (if id<s.H.length then ρ id else ⟨w.heap.size,0,0⟩).blk
   rw[if_neg hid];exact hH.new _ (Qec _)
 ·refine hH'.pull (λid=>id) (λid b hb hd=>?_) λ_ _ _ _ _ _ _ _ h=>h
  have hid:=hlive id b hb hd;rw[<- hlow id hid];exact⟨hb,hρ1 id hid⟩
 ·have hcarry : Oc5 ρ s.H ρ1 (X4 (T 0).H (J9 tr E.P ops U (Array.replicate ops.size false))) := fun id b hb hd => by
   have hid:=(Qea.1 hb).1;exact⟨b,(hlow id hid).trans hb,hd,Qec _,λ_=>⟨hρ1 id hid,rfl,Qec _⟩⟩
  refine⟨by rw[Fa4,(ub6 hD hT ops.size (Qec _)).2];exact hA.1,λt x x' hx hx'=>?_⟩
  simp only at hx
  by_cases ht:O2 ops (Array.replicate ops.size false) t
  ·have hlt : t < (T ops.size).a.length := by
    have:=(Qea.1 hx).1
    rwa [Fa4] at this
   rw[Rb6 ht hlt] at hx;injection hx with hx;rw[(ub6 hD hT ops.size (Qec _)).2] at hlt;rw[Qeb hlt,Option.getD_some] at hx;exact z7.carry (w:=w) (w':={ w with drawn:=w.drawn+1 }) hcarry (λ_ _ h=>h) (λ_ _ _=>rfl) (hA.2 t x x' (by rw[<- hx];exact Qeb hlt) hx')
  ·rw[Fa5 ht] at hx;have hno:∀j,j<ops.size->aa5 ops j≠some t:=λj hj he=>ht ⟨j,hj,he,hnx j hj⟩
   have h1:=Mb6 hD hT (t:=t) ops.size 0 (by omega) λj _ h2 _=>hno j (by omega)
   have h2:=Vc9 hD hT (t:=t) ops.size 0 (by omega) λj _ h2 _=>hno j (by omega)
   rw[Qex] at h1 h2;rw[h1,hT.t0,h2,hT.u0] at hx;exact z7.carry (w:=w) (w':={ w with drawn:=w.drawn+1 }) hcarry (λ_ _ h=>h) (λ_ _ _=>rfl) (hA.2 t x x' hx hx')
omit hin hlen in
theorem Pc5{m:Nat}{listed:Array Bool}{ac:Act}(hR:vb9 DS tm ds W ρ0 H0 F0 w0 tr E ops s.a U T m listed ac w)(hall:∀j,j<ops.size->ia5 listed j):lb6 DS tm ds W ρ0 H0 F0 w0 (T ops.size) ac w:=by
 have h1:Da8 (T ops.size).a s.a (O2 ops listed)=(T ops.size).a:=td6 λt ⟨j,h1,_,h3⟩=>h3 (hall j h1)
 have h2:X4 (T m).H (J9 tr E.P ops U listed)=(T ops.size).H:=by
  rw[td7 λid ⟨b,h1,_,h3,_⟩=>h3 (hall b h1)]
  have:=ud2 hD hT (ops.size-m) m (by have:=hR.hm;omega) λj h3 h4 hk=>by
   have hj:j<ops.size:=by have:=hR.hm;omega
   have:=(hR.heavy j hj hk).1 (hall j hj)
   omega
  rw[show m+(ops.size-m)=ops.size by have:=hR.hm;omega] at this
  exact this.symm
 have h3:=hR.inv;rw[h1,h2] at h3;exact h3
variable(hpairs:Ha7 E (T ops.size).a (za3 ops.size M ks)=true)(hG0:GOk E F0 w0)(hcalls:∀f,g8 E.P E.G f (E.call f))
include hpairs hG0 hcalls hF hDS
theorem Db1{Q:Exit->Act->World->Prop}(hQ:∀ac' w',lb6 DS tm ds W ρ0 H0 F0 w0 (T ops.size) ac' w'->Q .normal ac' w'):∀(fuel m:Nat) (listed:Array Bool) (ac:Act) (w:World),vb9 DS tm ds W ρ0 H0 F0 w0 tr E ops s.a U T m listed ac w->Ra5 listed<=fuel->wpAnyIn Fe nn E.P .any ops Q fuel listed ac w
 |0,m,listed,ac,w,hR,hc=>by
  have hall:∀j,ia5 listed j:=wc1 (by omega)
  refine⟨?_,hQ _ _ (Pc5 hD hT hR λj _=>hall j)⟩
  rw[List.eq_nil_iff_forall_not_mem];intro i hi;exact (wc0 hi).2.1 (hall i)
 |fuel+1,m,listed,ac,w,hR,hc=>by
  refine⟨λh=>hQ _ _ (Pc5 hD hT hR (Id6 hD hR.size h)),λi hi=>?_⟩
  obtain⟨h1,h2,h3⟩:=wc0 hi;have hdi:∀j∈ma6 (pa9 ops i),ia5 listed j:=λj hj=>h3 hR.size j hj (by have:=Rb7 hD.rows (ha0 h1) hj;omega)
  have hcount:Ra5 (listed.setIfInBounds i true)<=fuel:=by
   have his:i<listed.size:=by rw[hR.size];exact h1
   have hf:listed.toList[i]?=some false:=by
    have:listed.getD i true=false:=by unfold ia5 at h2;simpa using h2
    simp only[Array.getD,his,dite_true] at this;rw[Qeb (by simpa using his)]
    congr 1
   have:=Hb1 listed.toList i hf
   unfold Ra5 at hc ⊢;rw[Array.toList_setIfInBounds];omega
  rcases ub5 (tr:=tr) (P:=E.P) (ops:=ops) i with hk|hk|hk
  ·exact kd0 hD hT hin hlen hF hDS hG0 hcalls hR h1 hk h2 hdi λac' w' hR'=>Db1 hQ fuel m _ ac' w' hR' hcount
  ·exact jd8 hD hT hin hpairs hF hDS hG0 hcalls hR h1 hk h2 hdi λac' w' hR'=>Db1 hQ fuel m _ ac' w' hR' hcount
  ·exact jd9 hD hT hin hF hDS hG0 hcalls hR h1 hk h2 hdi λac' w' hR'=>Db1 hQ fuel (i+1) _ ac' w' hR' hcount
end
section
variable{DS:Nat->Prop}{tm:Array Value}{ds:List Deferred}{Fe:Fence}{nn:Nat}{E:Env}
theorem Cd6 (hF : FW Fe) (hm : E.P.follows .mixedOrders = true) (hcalls : ∀ f, g8 E.P E.G f (E.call f)) {W : Nat → Prop} {ρ0 : Rho} {H0 : List c8} {F0 : Fz} {w0 : World} {k : Nat} (hG0 : GOk E F0 w0)
  {id:Nat} {ops:Array Oper} {s:St} {x:d9} {s':St} (hDS:∀j d,j<ops.size->aa5 ops j=some d->DS d) (hlen:H0.length<=s.H.length)
  (he:(K1 E k (Sa3 E.P ops) s).run=some (x,s')) {ac:Act} {w:World} {Q:Exit->Act->World->Prop} (hI:lb6 DS tm ds W ρ0 H0 F0 w0 s ac w)
  (hQ:∀ac' w',lb6 DS tm ds W ρ0 H0 F0 w0 s' ac' w'->Q (toX x) ac' w'):(Code.region id ops true).wpIn Fe nn E.P Q ac w:=by
 have hdr:∃dsts asq l ps,Sa3 E.P ops=.draw dsts asq l ps:=by
  unfold Sa3 at he ⊢;have hT:∀tr,(∃a b c d,Sa2 tr E.P ops=.draw a b c d)\/Sa2 tr E.P ops=.bad:=λtr=>by
   unfold Sa2
   simp only
   cases rd8 tr E.P ops (Region.before ops).toList 0 ops.toList with
   |none=>exact .inr rfl
   |some ks =>
    simp only[Uc2];split
    ·exact .inl ⟨_,_,_,_,rfl⟩
    ·exact .inr rfl
  revert he
  rcases hT 0 with⟨a,b,c,d,h0⟩|h0<;>rw[h0]<;>intro he
  ·exact⟨_,_,_,_,rfl⟩
  ·revert he
   rcases hT 1 with⟨a,b,c,d,h1⟩|h1<;>rw[h1]<;>intro he
   ·exact⟨_,_,_,_,rfl⟩
   ·revert he
    rcases hT 2 with⟨a,b,c,d,h2⟩|h2<;>rw[h2]<;>intro he
    ·exact⟨_,_,_,_,rfl⟩
    ·cases he
 obtain⟨dsts,asq,l,ps,hc⟩:=hdr;rw[hc] at he;obtain⟨tr,M,ks,hD,rfl,rfl,rfl,rfl⟩:=Pd5 hc
 have he' : ((K9 E ((List.range ops.size).filterMap (tb4 ks)) s).bind fun s => (K9 E ((List.range ops.size).filterMap (Qb1 ks)) s).bind fun s =>
   Bool.rec (motive:=λ_=>DT (d9×St)) .fail (Bool.rec (motive:=λ_=>DT (d9×St)) .fail (.ret (.normal,s)) (Bb7 s.a ((List.range ops.size).filterMap (tb4 ks)))) (Ha7 E s.a (za3 ops.size M ks))).run=some (x,s'):=he
 obtain⟨s1,h1,h2⟩:=DT.run_bind_some he';obtain⟨s2,h3,h4⟩:=DT.run_bind_some h2;obtain⟨U,u0,u1,u2⟩:=lb1 _ _ _ _ h1;obtain⟨T,t0,t1,t2⟩:=lb1 _ _ _ _ h3;have hT:Vc5 E ops ks s U T:=⟨u0,u2,t0.trans u1.symm,t2⟩;cases hp:Ha7 E s2.a (za3 ops.size M ks) with
 |false=>rw[hp] at h4;cases h4
 |true =>
 rw[hp] at h4
 simp only at h4
 cases hs:Bb7 s2.a ((List.range ops.size).filterMap (tb4 ks)) with
 |false=>rw[hs] at h4;cases h4
 |true =>
 rw[hs] at h4;have h4':some (d9.normal,s2)=some (x,s'):=h4;injection h4' with h4';injection h4' with e1 e2;subst e1 e2
 rw[<- t1] at hp hs hQ;have hin:∀j,j<ops.size->F8 tr E.P ops j=0->∀d,aa5 ops j=some d->d<s.a.length:=λj hj hk d hd=>by
  rw[<- (ub6 hD hT ops.size (Qec _)).2];refine vc8 hs (Mb5 tr E.P ops M j) ?_ d hd;rw[List.mem_filterMap];exact⟨j,List.mem_range.2 hj,(td9 hD hj hk).1⟩
 refine wpIn_region_any hm (Db1 hD hT hin hlen hF hDS hp hG0 hcalls hQ ops.size 0 _ ac _ (kd1 hD hT hlen hI) ?_);unfold Ra5;simp
end
section
variable{P:Program}{WB K:Nat->Prop}{J:List Value->World->Prop}{ρ0:Rho}{H0:List c8}{F0:Fz}{w w0:World}{s:St}{ac:Act}{E:Env}
theorem Td9 {Fe : Fence} {n m kk id : Nat} (hm : E.P.follows .mixedOrders = true) (hF : FW Fe) (hG0 : GOk E F0 w0) (hcalls : ∀ f, g8 E.P E.G f (E.call f)) (hJ : Mb9 K J) {ops : Array Oper} {Q : Exit → Act → World → Prop} {x : d9} {s' : St}
  (hI:Jd9 E.P WB K J n ρ0 H0 F0 w0 s ac w) (he:(K1 E kk (.mask n (ops.toList.filterMap (·.dst)) (Sa3 E.P ops)) s).run=some (x,s'))
  (hQ:∀ac' w',Jd9 E.P WB K J n ρ0 H0 F0 w0 s' ac' w'->ac'.defers=ac.defers->(∀t,¬ t∈ops.toList.filterMap (·.dst)->ac'.tmps[t]?=ac.tmps[t]?)->Q (toX x) ac' w'):(Code.region id ops true).wpIn Fe m E.P Q ac w:=by
 obtain⟨ρ,F,W',up,hI⟩:=hI;have he':((K1 E kk (Sa3 E.P ops) ⟨p7 (Z0 s.H) (I1 s.a n),n8 s.H⟩).bind λr=>.guard (Pb7 s.H r.2.H) (.ret (r.1,⟨ea8 (ops.toList.filterMap (·.dst)) s.a r.2.a 0,s9 s.H r.2.H⟩))).run=some (x,s'):=he
 obtain⟨⟨x1,s1⟩,h1,h2⟩:=DT.run_bind_some he';obtain⟨ho,h2⟩:=DT.run_guard_some h2;have h2:some (x1,(⟨ea8 (ops.toList.filterMap (·.dst)) s.a s1.a 0,s9 s.H s1.H⟩:St))=some (x,s'):=h2;injection h2 with h2;injection h2 with e1 e2;subst e1 e2
 have hG:GOk E F w:=hG0.adv hI.core.adv;refine Cd6 (DS:=(·∈ops.toList.filterMap (·.dst))) (tm:=ac.tmps) (ds:=ac.defers) (W:=W') (ρ0:=ρ) (H0:=n8 s.H) (F0:=F) (w0:=w) hF hm hcalls hG (λj d hj hd=>?_) (Qec _) h1 ⟨rfl,rfl,λ_ _=>rfl,ρ,F,.refl,hI.core.hrel,hI.arel⟩ λac' w' hM=>?_
 ·refine List.mem_filterMap.2 ⟨pa9 ops j,?_,hd⟩
  have:=ha0 hj
  exact Array.mem_toList_iff.2 (Array.mem_of_getElem? this)
 ·obtain⟨k1,k2,k3⟩:=Pc0 hJ hI ho hM;exact hQ ac' w' k1 k2 k3
end
end Go.Ev
