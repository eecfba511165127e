/- Own work: a part of the proof. -/
import Derived.Test.YtekgjjgbdcgldaaGreatEvSp3
import Derived.MapKept
import GoSem.Instr.MapUpdate
import Derived.Test.YtekgjjgbdcgldaaGreatEvCall2
import Derived.OrdersIn
set_option linter.unusedVariables false
set_option linter.unusedSimpArgs false
set_option linter.unnecessarySimpa false
set_option linter.unusedSectionVars false
namespace Go.Ev
open Go
section
variable {P:Program} {WB K:Nat→Prop} {J:List Value→World→Prop} {ρ ρ0 ρ':Rho} {H H0 H':List b9} {F F0 F':Fz} {w w0 w':World} {W':Nat→Prop} {up up':List Value} {ds:List Deferred}
theorem mb7 {a:Addr} (h:w'.heap[a.block]?=w.heap[a.block]?):w'.cell? a=w.cell? a:=by simp[World.cell?,h]
theorem Xb4 {id:Nat} {b:b9} (hE:∀ (id:Nat) b,H[id]?=some b→∃ b',H'[id]?=some b'∧b'.et=b.et∧b'.dead=b.dead∧b'.g=b.g∧b'.es=b.es∧b.elems.length≤b'.elems.length∧(B9 b=false→b'=b)) (hl:H'.length=H.length) (hb:(n7 H')[id]?=some b) (hd:b.dead=false):(n7 H)[id]?=some b:=by
 obtain⟨h1,h2⟩:=ha3 hb hd
 have hlt:id < H.length:=hl ▸ (List.getElem?_eq_some_iff.1 h1).1
 obtain⟨b',k1,k2,_,_,k5,_,k6⟩:=hE id _ (List.getElem?_eq_getElem hlt)
 obtain rfl:b'=b:=Option.some.inj (k1.symm.trans h1)
 have hs:B9 H[id]=false:=by
  unfold B9 at h2 ⊢
  rw[← k5];exact h2
 have:=k6 hs
 subst this
 exact ea0 (List.getElem?_eq_getElem hlt) hs
theorem C2.alloc (h : C2 P WB K J ρ0 H0 F0 w0 H ds w ρ F W' up) (hJ : Jb4 K J) (o : Obj) :
  C2 P WB K J ρ0 H0 F0 w0 H ds (w.alloc o) ρ F (fun k=>W' k∧k≠w.heap.size) up∧Tr ρ H F w ρ H F (w.alloc o)∧WB w.heap.size∧(∀ b,F w.heap.size b→False):=by
 have hold:∀ k,k < w.heap.size→(w.alloc o).heap[k]?=w.heap[k]?:=fun k hk=>by
  simp only[World.alloc,Array.getElem?_push];rw[if_neg (Nat.ne_of_lt hk)]
 have hsz:(w.alloc o).heap.size=w.heap.size+1:=by simp
 have hF:∀ b o',F b o'→b < w.heap.size:=fun b o' hf=>lb0 (h.hrel.frz b o' hf)
 have hcells:∀ b o',F b o'→(w.alloc o).cell? ⟨b,o',none⟩=w.cell? ⟨b,o',none⟩:=fun b o' hf=>mb7 (a:=⟨b,o',none⟩) (hold b (hF b o' hf))
 have hxc:∀ x x',XC ρ H F w x x'→XC ρ H F (w.alloc o) x x':=fun x x' hx=>by
  cases hx with
  | n hx=>exact .n (hx.carry (fun id b hb hd=>⟨b,hb,hd,Nat.le_refl _,fun _=>⟨rfl,rfl,Nat.le_refl _⟩⟩) (fun _ _ h=>h) hcells)
  | box id c g b hb hd he=>exact .box id c g b hb hd he
  | map id c g b t hb hd he=>exact .map id c g b t hb hd he
 refine⟨⟨fun k hk=>h.sub k hk.1,h.adv.trans ⟨⟨rfl,rfl,rfl,by omega,fun k hk _=>hold k hk,hcells,Nat.le_refl _⟩,.refl,fun _ _ h=>h,fun _ _ h=>.inl h,fun id b hb hn=>absurd rfl (hn b hb)⟩,?_,?_,fun k hk=>?_,h.far,?_,?_⟩,fun x x' hx=>?_,h.sub _ (h.hrel.new _ (Nat.le_refl _)),fun b hf=>Nat.lt_irrefl _ (hF _ _ hf)⟩
 ·refine⟨fun id b hb hd=>?_,h.hrel.apart,fun b o' hf=>by rw[hcells b o' hf];exact h.hrel.frz b o' hf,fun k hk=>⟨h.hrel.new k (by omega),by omega⟩⟩
  obtain⟨cc,t,fr,hB⟩:=h.hrel.blk id b hb hd
  have hk:=hB.keep (w':=w.alloc o) (hold _ hB.lt) hcells
  exact⟨cc,t,fr,hk.obj,hk.room,hk.len,hk.rows,hk.cell,fun ho=>by
   obtain⟨g1,g2,g3⟩:=hk.own ho
   exact⟨g1,⟨g2,Nat.ne_of_lt hB.lt⟩,g3⟩,hk.kept⟩
 ·refine⟨fun id b hb hs hd=>?_,h.srel.apart⟩
  obtain⟨k1,k2,k3,k4,k5⟩:=h.srel.has id b hb hs hd
  refine⟨k1,fun hk=>k2 hk.1,k3,by omega,?_⟩
  rcases k5 with⟨e,row,vs,t,m1,m2,m3,m4⟩ | ⟨t,K,El,fl,es,clk,m1,m2,m3,m4,m5⟩
  ·exact .inl ⟨e,row,vs,t,m1,(hold _ k4).trans m2,m3,fun c x x' hx hx'=>⟨(m4 c x x' hx hx').1,hxc _ _ (m4 c x x' hx hx').2⟩⟩
  ·exact .inr ⟨t,K,El,fl,es,clk,m1,m2,m3,(hold _ k4).trans m4,m5⟩
 ·exact⟨fun hw=>(h.kept k hk).1 hw.1,by have:=(h.kept k hk).2;omega⟩
 ·exact hJ up w _ (fun k hk=>hold k (h.kept k hk).2) h.jot
 ·refine⟨fun d hd=>?_,h.marks.2⟩
  obtain⟨D,h1,h2,h3,h4,h5⟩:=h.marks.1 d hd
  exact⟨D,h1,(hold D h4).trans h2,fun hw=>h3 hw.1,by omega,h5⟩
 ·cases hx with
  | w hx=>exact .w (hx.carry (fun id b hb hd=>⟨b,hb,hd,Nat.le_refl _,fun _=>⟨rfl,rfl,Nat.le_refl _⟩⟩) (fun _ _ h=>h) hcells)
  | c hx=>exact .c (hxc _ _ hx)
theorem C2.adopt (h : C2 P WB K J ρ0 H0 F0 w0 H ds w ρ F W' up) (k sz : Nat) (hk : WB k) (hkW : ¬ W' k) (hkF : ∀ o, ¬ F k o) (hks : k < w.heap.size) (hap : ∀ (id : Nat) b, H[id]? = some b → B9 b = true → b.dead = false → (ρ id).blk ≠ k)
  (hkK:¬ K k) (b:b9) (hb:B9 b=true) (hbd:b.dead=false) (hc:Fe2 (ρnew ρ H ⟨k,0,sz⟩) (H++[b]) F w b k∨Fe3 P w b k) :
  C2 P WB K J ρ0 H0 F0 w0 (H++[b]) ds w (ρnew ρ H ⟨k,0,sz⟩) F W' up∧Tr ρ H F w (ρnew ρ H ⟨k,0,sz⟩) (H++[b]) F w:=by
 have hρ:∀ id,id < H.length→ρnew ρ H ⟨k,0,sz⟩ id=ρ id:=fun id hid=>by simp[ρnew,Nat.ne_of_lt hid]
 have hρn:ρnew ρ H ⟨k,0,sz⟩ H.length=⟨k,0,sz⟩:=by simp[ρnew]
 have hlook:∀ (id:Nat) c,(H++[b])[id]?=some c→(id < H.length∧H[id]?=some c)∨(id=H.length∧c=b):=fun id c hc=>by
  rcases Nat.lt_or_ge id H.length with hh | hh
  ·rw[List.getElem?_append_left hh] at hc;exact .inl ⟨hh,hc⟩
  ·rw[List.getElem?_append_right hh] at hc
   have h0:id - H.length=0:=by
    rcases Nat.eq_zero_or_pos (id - H.length) with h0 | h0
    ·exact h0
    ·rw[List.getElem?_eq_none (by simp;omega)] at hc;cases hc
   rw[h0] at hc
   exact .inr ⟨by omega,by simpa using hc.symm⟩
 have hleft:∀ {id:Nat} {c:b9},H[id]?=some c→(H++[b])[id]?=some c∧id < H.length:=fun {id c} hc=>by
  have hlt:=(List.getElem?_eq_some_iff.1 hc).1
  exact⟨by rw[List.getElem?_append_left hlt];exact hc,hlt⟩
 have hlive:∀ (id:Nat) c,(n7 (H++[b]))[id]?=some c→c.dead=false→(n7 H)[id]?=some c∧id < H.length:=fun id c hc hd=>by
  obtain⟨h1,h2⟩:=ha3 hc hd
  rcases hlook id c h1 with⟨hh,h3⟩ | ⟨_,rfl⟩
  ·exact⟨ea0 h3 h2,hh⟩
  ·rw[hb] at h2;cases h2
 have hcar:vc7 ρ (n7 H) (ρnew ρ H ⟨k,0,sz⟩) (n7 (H++[b])):=fun id c hc hd=>by
  obtain⟨h1,h2⟩:=ha3 hc hd
  exact⟨c,ea0 (hleft h1).1 h2,hd,Nat.le_refl _,fun _=>⟨hρ id (hleft h1).2,rfl,Nat.le_refl _⟩⟩
 have hxc:∀ x x',XC ρ H F w x x'→XC (ρnew ρ H ⟨k,0,sz⟩) (H++[b]) F w x x':=fun x x' hx=>by
  cases hx with
  | n hx=>exact .n (hx.carry hcar (fun _ _ h=>h) (fun _ _ _=>rfl))
  | box id c g b' hb' hd he=>rw[← hρ id (hleft hb').2];exact .box id c g b' (hleft hb').1 hd he
  | map id c g b' t hb' hd he=>rw[← hρ id (hleft hb').2];exact .map id c g b' t (hleft hb').1 hd he
 refine⟨⟨h.sub,h.adv.trans ⟨.refl,fun id c hc=>⟨c,(hleft hc).1,rfl,Nat.le_refl _,fun _=>⟨hρ id (hleft hc).2,rfl,Nat.le_refl _⟩⟩,fun _ _ h=>h,fun _ _ h=>.inl h,fun id c hc hn=>?_⟩,?_,?_,h.kept,fun id c hc hs hd=>?_,h.jot,h.marks⟩,fun x x' hx=>?_⟩
 ·rcases hlook id c hc with⟨_,h1⟩ | ⟨rfl,rfl⟩
  ·exact absurd rfl (hn c h1)
  ·rw[hρn];exact hk
 ·exact h.hrel.pull (fun i=>i) (fun i c hc hd=>⟨(hlive i c hc hd).1,hρ i (hlive i c hc hd).2⟩) (fun _ _ _ _ _ _ _ _ e=>e)
 ·refine⟨fun id c hc' hs hd=>?_,fun id id' c c' hc1 hc1' hs hs' hd hd' hne=>?_⟩
  ·rcases hlook id c hc' with⟨hlt,h1⟩ | ⟨rfl,rfl⟩
   ·obtain⟨k1,k2,k3,k4,k5⟩:=h.srel.has id c h1 hs hd
    rw[hρ id hlt]
    refine⟨k1,k2,k3,k4,?_⟩
    rcases k5 with⟨e,row,vs,t,m1,m2,m3,m4⟩ | k5
    ·exact .inl ⟨e,row,vs,t,m1,m2,m3,fun c x x' hx hx'=>⟨(m4 c x x' hx hx').1,hxc _ _ (m4 c x x' hx hx').2⟩⟩
    ·exact .inr k5
   ·rw[hρn]
    exact⟨hk,hkW,hkF,hks,hc⟩
  ·rcases hlook id c hc1 with⟨hlt,h1⟩ | ⟨rfl,rfl⟩<;>rcases hlook id' c' hc1' with⟨hlt',h1'⟩ | ⟨rfl,rfl⟩
   ·rw[hρ id hlt,hρ id' hlt'];exact h.srel.apart id id' c c' h1 h1' hs hs' hd hd' hne
   ·rw[hρ id hlt,hρn];exact hap id c h1 hs hd
   ·rw[hρ id' hlt',hρn];exact (hap id' c' h1' hs' hd').symm
   ·exact absurd rfl hne
 ·rcases hlook id c hc with⟨hlt,h1⟩ | ⟨rfl,rfl⟩
  ·rw[hρ id hlt];exact h.far id c h1 hs hd
  ·rw[hρn];exact hkK
 ·cases hx with
  | w hx=>exact .w (hx.carry hcar (fun _ _ h=>h) (fun _ _ _=>rfl))
  | c hx=>exact .c (hxc _ _ hx)
theorem C2.change (h : C2 P WB K J ρ0 H0 F0 w0 H ds w ρ F W' up) (k : Nat) (hk : WB k) (hkW : ¬ W' k) (hkF : ∀ o, ¬ F k o)
  (hos:w'.os=w.os) (htape:w'.tape=w.tape) (hout:w'.output=w.output) (hdrawn:w.drawn≤w'.drawn) (hsize:w'.heap.size=w.heap.size) (hold:∀ j,j≠k→w'.heap[j]?=w.heap[j]?)
  (hcc:∀ cc t fr,w.heap[k]?=some (.cells cc t fr)→∃ cc',w'.heap[k]?=some (.cells cc' t fr)∧cc'.size=cc.size)
  (hl:H'.length=H.length) (hE:∀ (id:Nat) b,H[id]?=some b→∃ b',H'[id]?=some b'∧b'.et=b.et∧b'.dead=b.dead∧b'.g=b.g∧b'.es=b.es∧b.elems.length≤b'.elems.length∧(B9 b=false→b'=b))
  (hsame:∀ (id:Nat) b,H[id]?=some b→B9 b=true→b.dead=false→(ρ id).blk≠k→H'[id]?=some b)
  (hnew:(∀ x x',XC ρ H F w x x'→XC ρ H' F w' x x')→∀ (id:Nat) b,H'[id]?=some b→B9 b=true→b.dead=false→(ρ id).blk=k→Fe2 ρ H' F w' b k∨Fe3 P w' b k)
  (hJ:J up' w') (hM:∀ D,({ target:=.collected D,args:=#[] }:Deferred)∈ds→w.heap[D]?=some (.deferred (some []))→D=k→w'.heap[D]?=some (.deferred (some []))) :
  C2 P WB K J ρ0 H0 F0 w0 H' ds w' ρ F W' up'∧Tr ρ H F w ρ H' F w':=by
 have hne:∀ b o,F b o→b≠k:=fun b o hf e=>hkF o (e ▸ hf)
 have hcells:∀ b o,F b o→w'.cell? ⟨b,o,none⟩=w.cell? ⟨b,o,none⟩:=fun b o hf=>mb7 (a:=⟨b,o,none⟩) (hold b (hne b o hf))
 have hback:∀ (id:Nat) b',H'[id]?=some b'→∃ b,H[id]?=some b∧b'.et=b.et∧b'.dead=b.dead∧B9 b=B9 b':=fun id b' hb'=>by
  have hlt:id < H.length:=hl ▸ (List.getElem?_eq_some_iff.1 hb').1
  obtain⟨b2,k1,k2,k3,k4,k5,_⟩:=hE id _ (List.getElem?_eq_getElem hlt)
  obtain rfl:b2=b':=Option.some.inj (k1.symm.trans hb')
  exact⟨_,List.getElem?_eq_getElem hlt,k2,k3,by unfold B9;rw[k5]⟩
 have hcar:vc7 ρ (n7 H) ρ (n7 H'):=fun id b hb hd=>by
  obtain⟨h1,h2⟩:=ha3 hb hd
  obtain⟨b',k1,_,_,_,_,_,k6⟩:=hE id b h1
  have:=k6 h2
  subst this
  exact⟨b',ea0 k1 h2,hd,Nat.le_refl _,fun _=>⟨rfl,rfl,Nat.le_refl _⟩⟩
 have hxc:∀ x x',XC ρ H F w x x'→XC ρ H' F w' x x':=fun x x' hx=>by
  cases hx with
  | n hx=>exact .n (hx.carry hcar (fun _ _ h=>h) hcells)
  | box id c g b hb hd he =>
   obtain⟨b',k1,k2,k3,k4,k5,_⟩:=hE id b hb
   exact .box id c g b' k1 (k3.trans hd) ⟨k5.trans he.1,k2.trans he.2⟩
  | map id c g b t hb hd he =>
   obtain⟨b',k1,k2,k3,k4,k5,_⟩:=hE id b hb
   exact .map id c g b' t k1 (k3.trans hd) ⟨k5.trans he.1,k2.trans he.2⟩
 refine⟨⟨h.sub,h.adv.trans ⟨⟨hos,htape,hout,by omega,fun j _ hj=>hold j fun e=>hj (e ▸ hk),hcells,hdrawn⟩,fun id b hb=>?_,fun _ _ h=>h,fun _ _ h=>.inl h,fun id b' hb' hn=>?_⟩,?_,?_,fun j hj=>⟨(h.kept j hj).1,by rw[hsize];exact (h.kept j hj).2⟩,fun id b hb hs hd=>?_,hJ,⟨fun d hd=>?_,h.marks.2⟩⟩,fun x x' hx=>?_⟩
 ·obtain⟨b',k1,k2,k3,k4,k5,k6,_⟩:=hE id b hb
  exact⟨b',k1,k3,Nat.le_of_eq k4.symm,fun _=>⟨rfl,k5,k6⟩⟩
 ·have hlt:id < H.length:=hl ▸ (List.getElem?_eq_some_iff.1 hb').1
  obtain⟨b2,k1,_,_,k4,_⟩:=hE id _ (List.getElem?_eq_getElem hlt)
  obtain rfl:b2=b':=Option.some.inj (k1.symm.trans hb')
  exact absurd k4 (hn _ (List.getElem?_eq_getElem hlt))
 ·refine⟨fun id b hb hd=>?_,fun id id' b b' hb hb' hd hd' ho hne'=>h.hrel.apart id id' b b' (Xb4 hE hl hb hd) (Xb4 hE hl hb' hd') hd hd' ho hne',fun b o hf=>by rw[hcells b o hf];exact h.hrel.frz b o hf,fun j hj=>h.hrel.new j (by rw[← hsize];exact hj)⟩
  obtain⟨cc,t,fr,hB⟩:=h.hrel.blk id b (Xb4 hE hl hb hd) hd
  by_cases e:(ρ id).blk=k
  ·obtain⟨cc',h1,h2⟩:=hcc cc t fr (e ▸ hB.obj)
   have hno:b.own=false:=by
    cases ho:b.own with
    | false=>rfl
    | true=>exact absurd (e ▸ (hB.own ho).2.1) hkW
   have hz:b.elems.length*b.es=0:=by
    rcases Nat.eq_zero_or_pos (b.elems.length*b.es) with h0 | h0
    ·exact h0
    ·exact absurd (e ▸ hB.kept hno 0 h0) (hkF _)
   refine⟨cc',t,fr,e ▸ h1,by rw[h2];exact hB.room,hB.len,hB.rows,fun i r c x hr hx=>?_,(fun ho=>by rw[hno] at ho;cases ho),hB.kept⟩
   have hi:=(List.getElem?_eq_some_iff.1 hr).1
   have hc:=(List.getElem?_eq_some_iff.1 hx).1
   rw[hB.rows i r hr] at hc
   have:=Nat.mul_pos (show 0 < b.elems.length by omega) (show 0 < b.es by omega)
   omega
  ·exact⟨cc,t,fr,hB.keep (hold _ e) hcells⟩
 ·refine⟨fun id b hb hs hd=>?_,fun id id' b b' hb hb' hs hs' hd hd' hne'=>?_⟩
  ·obtain⟨b0,h1,h2,h3,h4⟩:=hback id b hb
   obtain⟨k1,k2,k3,k4,k5⟩:=h.srel.has id b0 h1 (by rw[h4];exact hs) (by rw[← h3];exact hd)
   refine⟨k1,k2,k3,by rw[hsize];exact k4,?_⟩
   by_cases e:(ρ id).blk=k
   ·rw[e];exact hnew hxc id b hb hs hd e
   ·have hb0:b0=b:=Option.some.inj ((hsame id b0 h1 (by rw[h4];exact hs) (by rw[← h3];exact hd) e).symm.trans hb)
    subst hb0
    rcases k5 with⟨e',row,vs,t,m1,m2,m3,m4⟩ | ⟨t,K,El,fl,es,clk,m1,m2,m3,m4,m5⟩
    ·exact .inl ⟨e',row,vs,t,m1,(hold _ e).trans m2,m3,fun c x x' hx hx'=>⟨(m4 c x x' hx hx').1,hxc _ _ (m4 c x x' hx hx').2⟩⟩
    ·exact .inr ⟨t,K,El,fl,es,clk,m1,m2,m3,(hold _ e).trans m4,m5⟩
  ·obtain⟨b0,h1,h2,h3,h4⟩:=hback id b hb
   obtain⟨b0',h1',h2',h3',h4'⟩:=hback id' b' hb'
   exact h.srel.apart id id' b0 b0' h1 h1' (by rw[h4];exact hs) (by rw[h4'];exact hs') (by rw[← h3];exact hd) (by rw[← h3'];exact hd') hne'
 ·obtain⟨b0,h1,h2,h3,h4⟩:=hback id b hb
  exact h.far id b0 h1 (by rw[h4];exact hs) (by rw[← h3];exact hd)
 ·obtain⟨D,h1,h2,h3,h4,h5⟩:=h.marks.1 d hd
  refine⟨D,h1,?_,h3,by rw[hsize];exact h4,h5⟩
  by_cases e:D=k
  ·exact hM D (h1 ▸ hd) h2 e
  ·exact (hold D e).trans h2
 ·cases hx with
  | w hx=>exact .w (hx.carry hcar (fun _ _ h=>h) hcells)
  | c hx=>exact .c (hxc _ _ hx)
end
end Go.Ev
namespace Go.Ev
open Go
section
variable {WB K:Nat→Prop} {J:List Value→World→Prop} {ρ ρ0:Rho} {H H0 H':List b9} {F F0:Fz} {w w0 w':World} {W':Nat→Prop} {up:List Value} {E:Env} {a:List b7} {ac:Act} {x:b7} {o:Oper}
def gb9 (P:Program) (WB K:Nat→Prop) (J:List Value→World→Prop) (ρ0:Rho) (H0:List b9) (F0:Fz) (w0:World) (ρ:Rho) (H:List b9) (F:Fz) (w:World) (up:List Value) (ds:List Deferred) (x:b7) (H':List b9) (x':Value) (w':World):Prop :=
 ∃ ρ' F' W'',C2 P WB K J ρ0 H0 F0 w0 H' ds w' ρ' F' W'' up∧Tr ρ H F w ρ' H' F' w'∧XW ρ' H' F' w' x x'
def ltO (n:Nat):Operand→Bool
 | .tmp t=>Nat.blt t n
 | _=>true
theorem bb3 {n:Nat} (hv:VR ρ H F w a (ac.tmps.toList++up)) (hn:ac.tmps.size=n) (hG:GOk E F w) (y:Operand) (hy:ltO n y=true):XW ρ H F w (c8 E a (g9 y)) (ac.eval y):=by
 cases y with
 | tmp t =>
  show XW ρ H F w (c8 E a (.t t)) (ac.tmps.getD t undef)
  have hlt:t < n:=by have:=hy;unfold ltO at this;rwa [Nat.blt_eq] at this
  rw[Ia4]
  have hl:=hv.1
  rw[List.length_append] at hl
  have hsz:ac.tmps.toList.length=ac.tmps.size:=Array.length_toList
  have hlt':t < ac.tmps.size:=hn ▸ hlt
  have ha:t < a.length:=by rw[hl,hsz];exact Nat.lt_of_lt_of_le hlt' (Nat.le_add_right _ _)
  have h1:a[t]?=some a[t]:=List.getElem?_eq_getElem ha
  have h2:(ac.tmps.toList++up)[t]?=some ac.tmps[t]:=by
   rw[List.getElem?_append_left (by rw[hsz];exact hlt')]
   simp[hlt']
  have:=hv.2 t _ _ h1 h2
  simpa [h1,Array.getD,hlt'] using this
 | const v=>exact .w (z8.ofVal v)
 | func f=>exact .w (.val (.cell (.mem (.fn f))))
 | global g =>
  have:ja8 (fun _=>⟨0,0,0⟩) [] F w [] #[]:=⟨rfl,fun i x x' hx=>by simp at hx⟩
  have h:=j8 (ρ:=ρ) (H:=n7 H) (a:=[]) (ac:=⟨#[],[]⟩) ⟨rfl,fun i x x' hx=>by simp at hx⟩ hG (.global g)
  exact .w h
theorem Bb2 {t:Nat} {b:b9} (h:jd2 b) (h':jd3 t b):False:=by
 have h1:b.et=0:=h.2
 have h2:b.et=t+1:=h'.2
 rw[h1] at h2
 cases h2
theorem Xb5 {id c g:Nat} {b:b9} {v:Value} (hs:Mb4 0 H x=some (id,c,g,b)) (hx:XW ρ H F w x v):x=.ptr id 0 c g∧H[id]?=some b∧b.dead=false∧jd2 b∧v=.pointer (some ⟨(ρ id).blk,c,none⟩):=by
 revert hs hx
 cases x with
 | ptr id' i' c' g' =>
  intro hs hx
  simp only[Mb4,w9] at hs
  cases hb:H[id']? with
  | none=>simp[hb] at hs
  | some b' =>
  simp only[hb] at hs
  cases hd:b'.dead with
  | true=>simp[hd] at hs
  | false =>
  simp only[hd] at hs
  cases he:(B9 b'&&Nat.beq b'.et 0) with
  | false=>simp[he] at hs
  | true =>
  simp only[he] at hs
  cases hg:Nat.beq b'.g g' with
  | false=>simp[hg] at hs
  | true =>
  simp only[hg] at hs
  cases hi:Nat.beq i' 0 with
  | false=>simp[hi] at hs
  | true =>
  simp only[hi] at hs
  injection hs with hs
  injection hs with e1 hs;injection hs with e2 hs;injection hs with e3 e4
  subst e1 e2 e3 e4
  rw[Bool.and_eq_true] at he
  have he:=And.intro (Nat.eq_of_beq_eq_true he.1) (Nat.eq_of_beq_eq_true he.2)
  have hi:=Nat.eq_of_beq_eq_true hi
  subst hi
  refine⟨rfl,hb,hd,he,?_⟩
  have hdead:∀ q,(n7 H)[id']?=some q→q.dead=true:=fun q hq=>by
   rw[wc5 hb (Ua5 he)] at hq
   injection hq with hq
   rw[← hq]
  have hno:∀ {v},X0 ρ (n7 H) F w (.ptr id' 0 c' g') v→False:=fun {v} h=>by
   cases h with
   | mem h=>cases h
   | ptr _ _ _ _ ad q hq hd'=>rw[hdead q hq] at hd';cases hd'
  cases hx with
  | w h=>cases h with
   | val h=>cases h with
    | cell h=>exact (hno h).elim
  | c h =>
   cases h with
   | n h=>exact (hno h).elim
   | box=>rfl
   | map _ _ _ b2 t hb2 _ he2 =>
    have:b2=b':=Option.some.inj (hb2.symm.trans hb)
    subst this
    exact (Bb2 he he2).elim
 | _=>intro hs;cases hs
theorem Pc8 {t id c g:Nat} {b:b9} {v:Value} (hs:Mb4 (t+1) H x=some (id,c,g,b)) (hx:XW ρ H F w x v):x=.ptr id 0 c g∧H[id]?=some b∧b.dead=false∧jd3 t b∧v=.map (some (ρ id).blk):=by
 revert hs hx
 cases x with
 | ptr id' i' c' g' =>
  intro hs hx
  simp only[Mb4,w9] at hs
  cases hb:H[id']? with
  | none=>simp[hb] at hs
  | some b' =>
  simp only[hb] at hs
  cases hd:b'.dead with
  | true=>simp[hd] at hs
  | false =>
  simp only[hd] at hs
  cases he:(B9 b'&&Nat.beq b'.et (t+1)) with
  | false=>simp[he] at hs
  | true =>
  simp only[he] at hs
  cases hg:Nat.beq b'.g g' with
  | false=>simp[hg] at hs
  | true =>
  simp only[hg] at hs
  cases hi:Nat.beq i' 0 with
  | false=>simp[hi] at hs
  | true =>
  simp only[hi] at hs
  injection hs with hs
  injection hs with e1 hs;injection hs with e2 hs;injection hs with e3 e4
  subst e1 e2 e3 e4
  rw[Bool.and_eq_true] at he
  have he:=And.intro (Nat.eq_of_beq_eq_true he.1) (Nat.eq_of_beq_eq_true he.2)
  have hi:=Nat.eq_of_beq_eq_true hi
  subst hi
  refine⟨rfl,hb,hd,he,?_⟩
  have hdead:∀ q,(n7 H)[id']?=some q→q.dead=true:=fun q hq=>by
   rw[wc5 hb (Ua6 he)] at hq
   injection hq with hq
   rw[← hq]
  have hno:∀ {v},X0 ρ (n7 H) F w (.ptr id' 0 c' g') v→False:=fun {v} h=>by
   cases h with
   | mem h=>cases h
   | ptr _ _ _ _ ad q hq hd'=>rw[hdead q hq] at hd';cases hd'
  cases hx with
  | w h=>cases h with
   | val h=>cases h with
    | cell h=>exact (hno h).elim
  | c h =>
   cases h with
   | n h=>exact (hno h).elim
   | map=>rfl
   | box _ _ _ b2 hb2 _ he2 =>
    have:b2=b':=Option.some.inj (hb2.symm.trans hb)
    subst this
    exact (Bb2 he2 he).elim
 | _=>intro hs;cases hs
theorem jd4 (H:List b9) (et:Nat) (elems:List (List b7)):Mb5 H et elems=H++[{ et,es:=0,elems,own:=true,dead:=false,g:=0 }]:=by simp[Mb5,E5]
theorem jd5 {y : b7} {y' : Value} (hy : XW ρ H F w y y') (hp : Fa6 y = true) (hb : Mb0 Jd5 (B7 y) = true) :
  (B7 y).length=y'.cells.toList.length∧∀ (i:Nat) z z',(B7 y)[i]?=some z→y'.cells.toList[i]?=some z'→z'.oneCell'=true∧XC ρ H F w z z':=by
 have hone:∀ {i:Nat} {z:b7} {z':Value},(B7 y)[i]?=some z→XC ρ H F w z z'→z'.oneCell'=true∧XC ρ H F w z z':=fun {i z z'} hz hx=>⟨hx.one (Vc9 hb z (List.mem_of_getElem? hz)),hx⟩
 cases hy with
 | w h =>
  obtain⟨h1,h2⟩:=zb9 h hp
  exact⟨h1,fun i z z' hz hz'=>hone hz (.n (h2 i z z' hz hz'))⟩
 | c h =>
  have h0:=h
  cases h with
  | n h =>
   obtain⟨h1,h2⟩:=zb9 (.val (.cell h)) hp
   exact⟨h1,fun i z z' hz hz'=>hone hz (.n (h2 i z z' hz hz'))⟩
  | box id c g b h1 h2 h3 =>
   refine⟨rfl,fun i z z' hz hz'=>?_⟩
   cases i with
   | zero=>simp[B7,Value.cells] at hz hz';subst hz hz';exact⟨rfl,h0⟩
   | succ i=>simp[B7] at hz
  | map id c g b t h1 h2 h3 =>
   refine⟨rfl,fun i z z' hz hz'=>?_⟩
   cases i with
   | zero=>simp[B7,Value.cells] at hz hz';subst hz hz';exact⟨rfl,h0⟩
   | succ i=>simp[B7] at hz
section
variable {ds:List Deferred} (hC:C2 E.P WB K J ρ0 H0 F0 w0 H ds w ρ F W' up) (hJ:Jb4 K J)
include hC hJ
theorem Wd6 (row : List b7) (vs : Array Value) (t : TypeId) (hl : row.length = vs.size) (hc : ∀ (c : Nat) x x', row[c]? = some x → vs[c]? = some x' → x'.oneCell' = true ∧ XC ρ H F w x x') :
  gb9 E.P WB K J ρ0 H0 F0 w0 ρ H F w up ds (.ptr H.length 0 0 0) (Mb5 H 0 [row]) (.pointer (some ⟨w.heap.size,0,none⟩)) (w.alloc (.cells vs t)):=by
 obtain⟨c1,c2,c3,c4⟩:=hC.alloc hJ (.cells vs t)
 have hap:∀ (id:Nat) b,H[id]?=some b→B9 b=true→b.dead=false→(ρ id).blk≠w.heap.size:=fun id b hb hs hd=>Nat.ne_of_lt (hC.srel.has id b hb hs hd).2.2.2.1
 rw[jd4]
 have hnew:(w.alloc (.cells vs t)).heap[w.heap.size]?=some (.cells vs t (0,0)):=by simp only[World.alloc,Array.getElem?_push];simp
 have hfirst:∀ {x x'},XC ρ H F (w.alloc (.cells vs t)) x x'→XC (ρnew ρ H ⟨w.heap.size,0,0⟩) (H++[{ et:=0,es:=0,elems:=[row],own:=true,dead:=false,g:=0 }]) F (w.alloc (.cells vs t)) x x':=fun {x x'} hx=>by
  have hlt:∀ {id:Nat} {b:b9},H[id]?=some b→id < H.length:=fun h=>(List.getElem?_eq_some_iff.1 h).1
  have hρ:∀ id,id < H.length→ρnew ρ H ⟨w.heap.size,0,0⟩ id=ρ id:=fun id hid=>by simp[ρnew,Nat.ne_of_lt hid]
  cases hx with
  | n hx =>
   refine .n (hx.carry (fun id b hb hd=>?_) (fun _ _ h=>h) (fun _ _ _=>rfl))
   obtain⟨k1,k2⟩:=ha3 hb hd
   exact⟨b,ea0 (by rw[List.getElem?_append_left (hlt k1)];exact k1) k2,hd,Nat.le_refl _,fun _=>⟨hρ id (hlt k1),rfl,Nat.le_refl _⟩⟩
  | box id c g b hb hd he =>
   rw[← hρ id (hlt hb)]
   exact .box id c g b (by rw[List.getElem?_append_left (hlt hb)];exact hb) hd he
  | map id c g b t hb hd he =>
   rw[← hρ id (hlt hb)]
   exact .map id c g b t (by rw[List.getElem?_append_left (hlt hb)];exact hb) hd he
 obtain⟨d1,d2⟩:=c1.adopt w.heap.size 0 c3 (fun h=>h.2 rfl) (fun o hf=>c4 o hf) (by simp) hap (fun hk=>Nat.lt_irrefl _ (hC.kept _ hk).2) { et:=0,es:=0,elems:=[row],own:=true,dead:=false,g:=0 } (Ua5 ⟨rfl,rfl⟩) rfl
  (.inl ⟨⟨rfl,rfl⟩,row,vs,t,rfl,hnew,hl,fun c x x' hx hx'=>by
   obtain⟨k1,k2⟩:=hc c x x' hx hx'
   have k3:=c2 x x' (.c k2)
   refine⟨k1,hfirst ?_⟩
   cases k3 with
   | c h=>exact h
   | w h =>
    cases k2 with
    | n k2 =>
     cases h with
     | val h =>
      cases h with
      | cell h=>exact .n h
      | agg=>cases k1
      | fn f caps vs' hl' h' =>
       exact .n (k2.carry (fun id b hb hd=>⟨b,hb,hd,Nat.le_refl _,fun _=>⟨rfl,rfl,Nat.le_refl _⟩⟩) (fun _ _ h=>h) fun b o hf=>mb7 (a:=⟨b,o,none⟩) (by
        have:=lb0 (hC.hrel.frz b o hf)
        simp only[World.alloc,Array.getElem?_push];rw[if_neg (Nat.ne_of_lt this)]))
     | tup=>cases k1
    | box id c g b hb hd he=>exact .box id c g b hb hd he
    | map id c g b t hb hd he=>exact .map id c g b t hb hd he⟩)
 refine⟨_,F,_,d1,fun x x' hx=>d2 _ _ (c2 _ _ hx),.c ?_⟩
 have hρn:(ρnew ρ H ⟨w.heap.size,0,0⟩ H.length).blk=w.heap.size:=by simp[ρnew]
 have:=XC.box (ρ:=ρnew ρ H ⟨w.heap.size,0,0⟩) (F:=F) (w:=w.alloc (.cells vs t)) H.length 0 0 { et:=0,es:=0,elems:=[row],own:=true,dead:=false,g:=0 } (H:=H++[{ et:=0,es:=0,elems:=[row],own:=true,dead:=false,g:=0 }]) (by simp) rfl ⟨rfl,rfl⟩
 rwa [hρn] at this
theorem Md5 {t : TypeId} {z : List b7} (ho : o.op = .alloc t) (hz : zeT E.P t = some z) (he : (kb8 E a H (.balloc z)).run = some (x, H')) :
  i6 E.P o ac w (gb9 E.P WB K J ρ0 H0 F0 w0 ρ H F w up ds x H'):=by
 have he':some (b7.ptr (len H) 0 0 0,Mb5 H 0 [z])=some (x,H'):=he
 injection he' with he';injection he' with e1 e2;subst e1 e2
 rw[l0]
 obtain⟨ti,zv,hi,hzz,rfl,hone⟩:=Ta2 hz
 refine .value (x':=.pointer (some ⟨w.heap.size,0,none⟩)) (w':=w.alloc (.cells zv.cells t)) (by simp[execOp,ho,Instr.alloc,zeroValue,typeInfo,hi,hzz,newVar,newRow]) ?_
 refine Wd6 hC hJ _ zv.cells t (by simp) fun c y y' hy hy'=>?_
 rw[List.getElem?_map] at hy
 have hy'':zv.cells.toList[c]?=some y':=by simpa using hy'
 rw[hy''] at hy
 simp at hy
 subst hy
 exact⟨hone y' (List.mem_of_getElem? hy''),.n (.v _)⟩
theorem pe2 {n : Nat} {t : TypeId} {y : Operand} (hv : VR ρ H F w a (ac.tmps.toList ++ up)) (hn : ac.tmps.size = n) (hG : GOk E F w) (ho : o.op = .box t y) (hy : ltO n y = true) (he : (kb8 E a H (.bbox (g9 y))).run = some (x, H')) :
  i6 E.P o ac w (gb9 E.P WB K J ρ0 H0 F0 w0 ρ H F w up ds x H'):=by
 have hyr:=bb3 hv hn hG y hy
 simp only[kb8] at he
 cases hc:(Fa6 (c8 E a (g9 y))&&Mb0 Jd5 (B7 (c8 E a (g9 y)))) with
 | false=>rw[hc] at he;cases he
 | true =>
 rw[hc] at he
 have he':some (b7.ptr (len H) 0 0 0,Mb5 H 0 [B7 (c8 E a (g9 y))])=some (x,H'):=he
 injection he' with he';injection he' with e1 e2;subst e1 e2
 rw[Bool.and_eq_true] at hc
 rw[l0]
 obtain⟨h1,h2⟩:=jd5 hyr hc.1 hc.2
 refine .value (x':=.pointer (some ⟨w.heap.size,0,none⟩)) (w':=w.alloc (.cells (ac.eval y).cells t)) (by simp[execOp,ho,Instr.box,newVar,newRow]) ?_
 exact Wd6 hC hJ _ (ac.eval y).cells t (by simpa using h1) fun c y y' hy hy'=>h2 c y y' hy (by simpa using hy')
end
end
end Go.Ev
namespace Go.Ev
open Go
section
variable {WB K:Nat→Prop} {J:List Value→World→Prop} {ρ ρ0:Rho} {H H0 H':List b9} {F F0:Fz} {w w0 w':World} {W':Nat→Prop} {up:List Value} {E:Env} {a:List b7} {ac:Act} {x:b7} {o:Oper}
variable {ds:List Deferred} {n:Nat} (hC:C2 E.P WB K J ρ0 H0 F0 w0 H ds w ρ F W' up) (hJ:Jb4 K J) (hv:VR ρ H F w a (ac.tmps.toList++up)) (hn:ac.tmps.size=n) (hG:GOk E F w)
theorem pe3 {x:b7} {x':Value} (h:XC ρ H F w x x'):X0 ρ (n7 H) F w (ba4 H x) x':=by
 cases h with
 | n h =>
  unfold ba4
  split
  ·split
   ·rename_i b hb
    cases B9 b with
    | true=>exact .unk _
    | false=>exact h
   ·exact .unk _
  ·exact h
 | box id c g b hb hd he =>
  unfold ba4
  simp only[w9,hb,Ua5 he]
  exact .unk _
 | map id c g b t hb hd he =>
  unfold ba4
  simp only[w9,hb,Ua6 he]
  exact .unk _
include hC hJ hv hn hG
omit hJ in
theorem Wd7 {t : TypeId} {p : Nat} (ho : o.op = .load t (.tmp p)) (hp : Nat.blt p n = true) (hu : E.P.underlying t ≠ none) (he : (kb8 E a H (.bload (szT E.P t) (agT E.P t) p)).run = some (x, H')) :
  i6 E.P o ac w (gb9 E.P WB K J ρ0 H0 F0 w0 ρ H F w up ds x H'):=by
 have hyr:=bb3 hv hn hG (.tmp p) hp
 simp only[kb8] at he
 cases hs:Mb4 0 H (c8 E a (.t p)) with
 | none=>rw[hs] at he;cases he
 | some q =>
 obtain⟨id,c,g,b⟩:=q
 rw[hs] at he
 simp only at he
 obtain⟨h1,h2,h3,h4,h5⟩:=Xb5 hs hyr
 cases hle:Nat.ble (c+szT E.P t) (len (i7 b.elems 0)) with
 | false=>rw[hle] at he;cases he
 | true =>
 rw[hle] at he
 obtain⟨z,hz1,hz2⟩:=Ia3 he
 obtain⟨e0,rfl⟩:x=z∧H=H':=by injection hz2 with e1 e2;exact⟨e1,e2.symm⟩
 rw[e0]
 clear e0 hz2
 obtain⟨_,_,_,_,hcont⟩:=hC.srel.has id b h2 (Ua5 h4) h3
 rcases hcont with⟨_,row,vs,tt,m1,m2,m3,m4⟩ | ⟨t',K',El,fl,es,clk,m1,_⟩
 case inr=>exact (Bb2 h4 m1).elim
 have hrow:i7 b.elems 0=row:=by rw[m1];rfl
 rw[hrow] at hle hz1
 rw[l0] at hle
 have hle:=Nat.le_of_ble_eq_true hle
 have hti:∃ i,E.P.info? t=some i∧i.size=szT E.P t:=by
  cases hd:E.P.underlying t with
  | none=>exact absurd hd hu
  | some d=>exact Ta0 hd
 obtain⟨ti,hi1,hi2⟩:=hti
 generalize hsz:szT E.P t=k at *
 have hcell:∀ j,j < k→w.cell? ⟨(ρ id).blk,c+j,none⟩=some (vs.getD (c+j) undef):=fun j hj=>by
  have hlt:c+j < vs.size:=by omega
  simp[World.cell?,m2,hlt]
 have hrel:∀ j,j < k→∀ y,row[c+j]?=some y→XC ρ H F w y (vs.getD (c+j) undef):=fun j hj y hy=>by
  have hlt:c+j < vs.size:=by omega
  exact (m4 (c+j) y _ hy (by simp[hlt])).2
 have hvals:∀ (j:Nat) v,((List.range k).map fun j=>vs.getD (c+j) undef)[j]?=some v→w.cell? (Addr.add ⟨(ρ id).blk,c,none⟩ j)=some v:=fun j v hj=>by
  obtain⟨hj1,hj2⟩:=Aa9 hj
  rw[T5 rfl]
  rw[← hj2]
  exact hcell j hj1
 have hev:ac.eval (.tmp p)=.pointer (some ⟨(ρ id).blk,c,none⟩):=h5
 cases hag:agT E.P t with
 | true =>
  rw[hag] at hz1
  have hz1:some (b7.agg (r7 (ba4 H) (H6 (g8 row c) k)))=some z:=hz1
  injection hz1 with hz1
  subst hz1
  have hlc:(Go.loadCells ⟨(ρ id).blk,c,none⟩ k).run E.P w=.ok ((List.range k).map fun j=>vs.getD (c+j) undef).toArray w:=by
   have:=run_loadCells_list (P:=E.P) w ⟨(ρ id).blk,c,none⟩ ((List.range k).map fun j=>vs.getD (c+j) undef) hvals
   simpa using this
  refine .value (x':=.agg ((List.range k).map fun j=>vs.getD (c+j) undef).toArray) (w':=w) ?_ ⟨ρ,F,W',hC,fun _ _ h=>h,.w (.val (.agg _ _ ?_ fun i y y' hy hy'=>?_))⟩
  ·simp[execOp,ho,hev,Instr.loadAt,Instr.sureAddr,loadVar,Sa3 hag,sizeOf,typeInfo,hi1,hi2,hlc]
  ·rw[o1,I4,F5];simp;omega
  ·rw[o1,I4,F5,List.getElem?_map] at hy
   have hy':((List.range k).map fun j=>vs.getD (c+j) undef)[i]?=some y':=by simpa using hy'
   obtain⟨hj1,hj2⟩:=Aa9 hy'
   rw[List.getElem?_take,if_pos hj1,List.getElem?_drop] at hy
   cases hq:row[c+i]? with
   | none=>rw[hq] at hy;cases hy
   | some q =>
    rw[hq] at hy
    injection hy with hy
    subst hy
    rw[← hj2]
    exact pe3 (hrel i hj1 q hq)
 | false =>
  rw[hag] at hz1
  have hz1:(match H6 (g8 row c) k with | [x]=>some x | _=>none:Option b7)=some z:=hz1
  rw[I4,F5] at hz1
  have hk1:k=1∧row[c]?=some z:=by
   have hl:((row.drop c).take k).length=k:=by simp;omega
   split at hz1
   ·rename_i y hy
    injection hz1 with hz1
    subst hz1
    rw[hy] at hl
    have hk:k=1:=by simpa using hl.symm
    refine⟨hk,?_⟩
    have h0:((row.drop c).take k)[0]?=some y:=by rw[hy];rfl
    rw[List.getElem?_take,if_pos (by omega),List.getElem?_drop] at h0
    simpa using h0
   ·cases hz1
  obtain⟨hk,hz⟩:=hk1
  subst hk
  have hc0:=hcell 0 (by omega)
  rw[Nat.add_zero] at hc0
  refine .value (x':=vs.getD c undef) (w':=w) ?_ ⟨ρ,F,W',hC,fun _ _ h=>h,.c ?_⟩
  ·simp[execOp,ho,hev,Instr.loadAt,Instr.sureAddr,loadVar,Fa8 hag hu,hc0]
  ·have:=hrel 0 (by omega) z (by rw[Nat.add_zero];exact hz)
   rwa [Nat.add_zero] at this
omit hJ in
theorem pe4 {s : TypeId} {p f : Nat} {fs : Array Field} {fd : Field} (ho : o.op = .fieldAddr s (.tmp p) f) (hp : Nat.blt p n = true) (hs' : E.P.underlying s = some (.struct fs)) (hf : fs[f]? = some fd) (hz : szT E.P fd.type ≠ 0)
  (he:(kb8 E a H (.bfld fd.offset p)).run=some (x,H')):i6 E.P o ac w (gb9 E.P WB K J ρ0 H0 F0 w0 ρ H F w up ds x H'):=by
 have hyr:=bb3 hv hn hG (.tmp p) hp
 simp only[kb8] at he
 cases hs:Mb4 0 H (c8 E a (.t p)) with
 | none=>rw[hs] at he;cases he
 | some q =>
 obtain⟨id,c,g,b⟩:=q
 rw[hs] at he
 have he':some (b7.ptr id 0 (c+fd.offset) g,H)=some (x,H'):=he
 obtain⟨rfl,rfl⟩:x=b7.ptr id 0 (c+fd.offset) g∧H=H':=by injection he' with he';injection he' with e1 e2;exact⟨e1.symm,e2⟩
 obtain⟨h1,h2,h3,h4,h5⟩:=Xb5 hs hyr
 obtain⟨ti,hi,hi0,hi1⟩:=pc8 hz
 have hev:ac.eval (.tmp p)=.pointer (some ⟨(ρ id).blk,c,none⟩):=h5
 refine .value (x':=.pointer (some (Addr.add ⟨(ρ id).blk,c,none⟩ fd.offset))) (w':=w) (by simp[execOp,ho,hev,Instr.fieldAt,Instr.sureAddr,run_underlying hs',hf,fieldPlace,sizeOf,typeInfo,hi,hi1]) ⟨ρ,F,W',hC,fun _ _ h=>h,.c ?_⟩
 rw[T5 rfl]
 exact .box id (c+fd.offset) g b h2 h3 h4
omit hJ in
theorem Wd8 {p : Nat} (ho : o.op = .move (.tmp p) ∨ o.op = .assign (.tmp p)) (hp : Nat.blt p n = true)
  (he:(kb8 E a H (.bmv p)).run=some (x,H')):i6 E.P o ac w (gb9 E.P WB K J ρ0 H0 F0 w0 ρ H F w up ds x H'):=by
 have hyr:=bb3 hv hn hG (.tmp p) hp
 have he':some (c8 E a (.t p),H)=some (x,H'):=he
 injection he' with he'
 injection he' with e1 e2
 subst e1 e2
 refine .value (x':=ac.eval (.tmp p)) (w':=w) (by rcases ho with ho | ho<;>simp[execOp,ho]) ⟨ρ,F,W',hC,fun _ _ h=>h,hyr⟩
theorem Md6 {t : TypeId} {p : Nat} {y : Operand} (ho : o.op = .store t (.tmp p) y) (hp : Nat.blt p n = true) (hy : ltO n y = true) (h0 : szT E.P t ≠ 0) (he : (kb8 E a H (.bstore (szT E.P t) p (g9 y))).run = some (x, H')) :
  i6 E.P o ac w (gb9 E.P WB K J ρ0 H0 F0 w0 ρ H F w up ds x H'):=by
 have hpr:=bb3 hv hn hG (.tmp p) hp
 have hyr:=bb3 hv hn hG y hy
 simp only[kb8] at he
 cases hs:Mb4 0 H (c8 E a (.t p)) with
 | none=>rw[hs] at he;cases he
 | some q =>
 obtain⟨id,c,g,b⟩:=q
 rw[hs] at he
 simp only at he
 obtain⟨h1,h2,h3,h4,h5⟩:=Xb5 hs hpr
 generalize hcs:B7 (c8 E a (g9 y))=cs at *
 cases hcc:(Nat.ble (c+szT E.P t) (len (i7 b.elems 0))&&Nat.beq (len cs) (szT E.P t)&&(Fa6 (c8 E a (g9 y))&&Mb0 Jd5 cs)) with
 | false=>rw[hcc] at he;cases he
 | true =>
 rw[hcc] at he
 have he':some (b7.v (.tuple #[]),setAt H id { b with elems:=[P7 (i7 b.elems 0) c cs] })=some (x,H'):=he
 injection he' with he';injection he' with e1 e2;subst e1 e2
 simp only[Bool.and_eq_true,l0] at hcc
 obtain⟨⟨hle,hlen⟩,hpo,hbo⟩:=hcc
 have hle:=Nat.le_of_ble_eq_true hle
 have hlen:=Nat.eq_of_beq_eq_true hlen
 rw[← hcs] at hbo
 obtain⟨k1,k2⟩:=jd5 hyr hpo hbo
 rw[hcs] at k1 k2
 obtain⟨hWB,hnW,hnF,hlt,hcont⟩:=hC.srel.has id b h2 (Ua5 h4) h3
 rcases hcont with⟨_,row,vs,tt,m1,m2,m3,m4⟩ | ⟨t',K',El,fl,es,clk,m1,_⟩
 case inr=>exact (Bb2 h4 m1).elim
 have hrow:i7 b.elems 0=row:=by rw[m1];rfl
 rw[hrow] at hle ⊢
 generalize hys:(ac.eval y).cells.toList=ys at *
 have hl2:ys.length=cs.length:=k1.symm
 have hone:∀ v∈ys,v.oneCell'=true:=fun v hv'=>by
  obtain⟨j,hj,rfl⟩:=List.mem_iff_getElem.1 hv'
  have hj':j < cs.length:=by omega
  exact (k2 j _ _ (List.getElem?_eq_getElem hj') (List.getElem?_eq_getElem hj)).1
 have hfits:c+ys.length≤vs.size:=by omega
 have hstore:=run_storeCells_at (P:=E.P) (ρ id).blk c tt ys 0 vs w m2 (by simpa using hfits) hone
 simp only[Nat.add_zero] at hstore
 obtain⟨ti,hi1,hi2⟩:=ed8 h0
 have hsz0:(ac.eval y).cells.size=ti.size:=by
  have:(ac.eval y).cells.toList.length=ys.length:=by rw[hys]
  rw[Array.length_toList] at this
  omega
 have hev:ac.eval (.tmp p)=.pointer (some ⟨(ρ id).blk,c,none⟩):=h5
 have hid:=(List.getElem?_eq_some_iff.1 h2).1
 rw[z7]
 refine .skip (w':=w.setRow (ρ id).blk (vs.toList.take c++ys++vs.toList.drop (c+ys.length)).toArray) ?_ ?_
 ·simp[execOp,ho,hev,Instr.storeAt,Instr.sureAddr,storeVar,sizeOf,typeInfo,hi1,hsz0,hys,hstore]
 ·have hheap:=setRow_heap w (ρ id).blk vs (vs.toList.take c++ys++vs.toList.drop (c+ys.length)).toArray tt (0,0) m2
  have hsize:((vs.toList.take c++ys++vs.toList.drop (c+ys.length)).toArray).size=vs.size:=by simp;omega
  have hK:=fun k (hk:K k)=>hC.kept k hk
  have hnK:∀ k,K k→k≠(ρ id).blk:=fun k hk e=>hC.far id b h2 (Ua5 h4) h3 (e ▸ hk)
  obtain⟨c1,c2⟩:=hC.change (w':=w.setRow (ρ id).blk (vs.toList.take c++ys++vs.toList.drop (c+ys.length)).toArray) (H':=H.set id { b with elems:=[P7 row c cs] }) (up':=up) (ρ id).blk hWB hnW hnF rfl rfl rfl (Nat.le_refl _) (by simp[World.setRow]) (fun j hj=>setRow_other w _ j _ hj)
   (fun cc t' fr hcc=>by rw[m2] at hcc;cases hcc;exact⟨_,hheap,hsize⟩) (by simp)
   (fun id' b' hb'=>by
    by_cases e:id=id'
    ·subst e
     obtain rfl:b'=b:=Option.some.inj (hb'.symm.trans h2)
     exact⟨{ b' with elems:=[P7 row c cs] },by simp[hid],rfl,rfl,rfl,rfl,by rw[m1];simp,fun hs0=>by rw[Ua5 h4] at hs0;cases hs0⟩
    ·exact⟨b',by rw[List.getElem?_set_ne e];exact hb',rfl,rfl,rfl,rfl,Nat.le_refl _,fun _=>rfl⟩)
   (fun id' b' hb' hs' hd' hne=>by
    have e:id≠id':=fun e=>hne (by rw[e])
    rw[List.getElem?_set_ne e];exact hb')
   (fun hx id' b' hb' hs' hd' hblk=>by
    have e:id=id':=Classical.byContradiction fun hne=>by
     rw[List.getElem?_set_ne hne] at hb'
     exact hC.srel.apart id id' b b' h2 hb' (Ua5 h4) hs' h3 hd' hne hblk.symm
    subst e
    have:b'={ b with elems:=[P7 row c cs] }:=by simpa [hid] using hb'.symm
    subst this
    have hfit:c+cs.length≤row.length:=by omega
    refine .inl ⟨h4,_,_,tt,rfl,hheap,by rw[Ia5 hfit,hsize];exact m3,fun j u u' hu hu'=>?_⟩
    rw[lb4 hfits] at hu'
    rcases Ib0 hfit hu with⟨g1,g2,g3⟩ | ⟨g1,g3⟩
    ·rw[if_pos (by omega)] at hu'
     obtain⟨q1,q2⟩:=k2 (j - c) u u' g3 hu'
     exact⟨q1,hx _ _ q2⟩
    ·rw[if_neg (by omega)] at hu'
     obtain⟨q1,q2⟩:=m4 j u u' g3 hu'
     exact⟨q1,hx _ _ q2⟩)
   (hJ up w _ (fun k hk=>setRow_other w _ k _ (hnK k hk)) hC.jot)
   (fun D _ hD e=>by rw[e,m2] at hD;cases hD)
  exact⟨ρ,F,W',c1,c2,.w (.ofv _)⟩
end
end Go.Ev
namespace Go.Ev
open Go
section
variable {P:Program} {w:World}
def Wd9 (P:Program) (w:World) (em:Bool) (m:Nat) (t:TypeId) (l:List (Nat×CK)):Prop :=
 ∀ v:Value,(agT P t=true→v=.agg v.cells)→(agT P t=false→v.cells=#[v])→(∀ p∈l,sa0 v.cells p)→(Instr.checkKey em m t v).run P w=.ok () w
theorem Wd9.step {em : Bool} {m : Nat} {t : TypeId} {l : List (Nat × CK)} (h : Wd9 P w em m t l) (hf : ne0 P w 0 t l ∨ True) (hu : P.underlying t ≠ none) (hone : agT P t = false → l ≠ [] ∧ ∀ p ∈ l, p.1 = 0) {xs : Array Value} {off : Nat} (hl : ∀ p ∈ l, p.1 < szT P t) (hx : ∀ p ∈ l.map fun p => (off + p.1, p.2), sa0 xs p) :
  ∃ a,(part t xs off).run P w=.ok a w∧(Instr.checkKey em m t a).run P w=.ok () w:=by
 have hx':∀ p∈l,sa0 xs (off+p.1,p.2):=fun p hp=>hx _ (List.mem_map.2 ⟨p,hp,rfl⟩)
 obtain⟨a,a1,a2,a4,a3⟩:=tc3 (w:=w) hu hone hl hx'
 refine⟨a,a1,h a a2 a4 fun p hp=>?_⟩
 have:=hx' p hp;unfold sa0 at this ⊢;rw[a3 p hp];exact this
theorem Xc4 (em:Bool):∀ (d:Nat) (t:TypeId) (l:List (Nat×CK)),T4 P d t=some l→∀ m,d≤m→Wd9 P w em m t l
 | 0,_,_,h,_,_=>by cases h
 | d+1,t,l,h,0,hm=>by omega
 | d+1,t,l,h,m+1,hm=>by
  intro v hv1 hv2 hv3
  unfold T4 at h
  cases hu:P.underlying t with
  | none=>simp[hu] at h
  | some u =>
  cases u with
  | int k =>
   simp only[hu] at h
   injection h with h;subst h
   have hag:agT P t=false:=pc7 (by simp[hu]) (by simp[hu])
   obtain⟨n,e1⟩:=hv3 (0,.int k) (by simp)
   rw[hv2 hag] at e1
   have e1':v=.int k n:=by simpa using e1
   subst e1'
   simp[Instr.checkKey,run_underlying hu]
  | bool =>
   simp only[hu] at h
   injection h with h;subst h
   have hag:agT P t=false:=pc7 (by simp[hu]) (by simp[hu])
   obtain⟨n,e1⟩:=hv3 (0,.bool) (by simp)
   rw[hv2 hag] at e1
   have e1':v=.bool n:=by simpa using e1
   subst e1'
   simp[Instr.checkKey,run_underlying hu]
  | struct fs =>
   simp only[hu] at h
   split at h
   ·cases h
   have hag:agT P t=true:=by simp[agT,hu]
   rw[hv1 hag]
   generalize v.cells=xs at *
   rw[Instr.checkKey]
   simp only[Sem.run_bind,run_underlying hu,Result.andThen_ok]
   rw[← Array.forIn_toList]
   clear hu hv1 hv2 hag
   generalize fs.toList=fl at *
   induction fl generalizing l with
   | nil=>simp
   | cons f fl ih =>
    simp only[List.map_cons,ha0] at h
    split at h
    ·rename_i l1 l2 e1 e2
     injection h with h;subst h
     split at e1
     ·cases e1
     rename_i hnm
     obtain⟨l',g1,g2,g3⟩:=za3 e1
     subst g3
     have hfl:=ab9 (w:=w) d f.type l' g1
     obtain⟨a,p1,p2⟩:=(Xc4 em d f.type l' g1 m (by omega)).step (w:=w) (.inr trivial) hfl.und hfl.one g2 (fun p hp=>hv3 p (List.mem_append_left _ hp))
     simp only[List.forIn_cons,Sem.run_bind,hnm,ne_eq,not_false_eq_true,if_true,Result.andThen_ok,p1,p2,Sem.run_pure]
     exact ih l2 (fun p hp=>hv3 p (List.mem_append_right _ hp)) e2
    ·cases h
  | array n e =>
   simp only[hu] at h
   split at h
   case isFalse=>cases h
   rename_i hi
   obtain⟨ti,hi⟩:=Option.isSome_iff_exists.1 hi
   have hag:agT P t=true:=by simp[agT,hu]
   rw[hv1 hag]
   generalize v.cells=xs at *
   rw[Instr.checkKey]
   simp only[Sem.run_bind,run_underlying hu,Result.andThen_ok]
   simp only[Std.Legacy.Range.forIn_eq_forIn_range',Std.Legacy.Range.size,Nat.sub_zero,Nat.add_one_sub_one,Nat.div_one]
   rw[List.range_eq_range'] at h
   have hsz:∀ w:World,(sizeOf e).run P w=.ok (szT P e) w:=fun w=>by simp[sizeOf,typeInfo,hi,szT]
   clear hu hv1 hv2 hag
   generalize List.range' 0 n=fl at *
   induction fl generalizing l with
   | nil=>simp
   | cons f fl ih =>
    simp only[List.map_cons,ha0] at h
    split at h
    ·rename_i l1 l2 e1 e2
     injection h with h;subst h
     obtain⟨l',g1,g2,g3⟩:=za3 e1
     subst g3
     have hfl:=ab9 (w:=w) d e l' g1
     obtain⟨a,p1,p2⟩:=(Xc4 em d e l' g1 m (by omega)).step (w:=w) (.inr trivial) hfl.und hfl.one g2 (fun p hp=>hv3 p (List.mem_append_left _ hp))
     simp only[List.forIn_cons,Sem.run_bind,hsz,Result.andThen_ok,p1,p2,Sem.run_pure]
     exact ih l2 (fun p hp=>hv3 p (List.mem_append_right _ hp)) e2
    ·cases h
  | _=>simp[hu] at h
theorem xd4 {fl : List (Nat × CK)} (hk : ∀ p ∈ fl, (∃ i, p.2 = .int i) ∨ p.2 = .bool) {vs us : Array Value} (h1 : ∀ p ∈ fl, sa0 vs p) (h2 : ∀ p ∈ fl, sa0 us p) {cs ds : List b7} (hc : ∀ (i : Nat) v, vs[i]? = some v → hdA (g8 cs i) = .v v) (hd : ∀ (i : Nat) v, us[i]? = some v → hdA (g8 ds i) = .v v) :
  fl.all (Ma2 vs us)=kb7 fl cs ds:=by
 induction fl with
 | nil=>rfl
 | cons p fl ih =>
  have e:kb7 (p::fl) cs ds=(Ce9 p.2 (hdA (g8 cs p.1)) (hdA (g8 ds p.1))&&kb7 fl cs ds):=rfl
  rw[List.all_cons,ih (fun q hq=>hk q (by simp[hq])) (fun q hq=>h1 q (by simp[hq])) (fun q hq=>h2 q (by simp[hq])),e]
  congr 1
  have g1:=h1 p (by simp)
  have g2:=h2 p (by simp)
  obtain⟨n,kk⟩:=p
  unfold sa0 at g1 g2
  unfold Ma2
  rcases hk (n,kk) (by simp) with⟨i,hi⟩ | hi
  ·simp only at hi;subst hi
   obtain⟨m,hm⟩:=g1
   obtain⟨m',hm'⟩:=g2
   simp only at hm hm' ⊢
   rw[hc n _ hm,hd n _ hm',hm,hm']
   rfl
  ·simp only at hi;subst hi
   obtain⟨m,hm⟩:=g1
   obtain⟨m',hm'⟩:=g2
   simp only at hm hm' ⊢
   rw[hc n _ hm,hd n _ hm',hm,hm']
   rfl
theorem Xd0 {ks:Array Value} {r:List b7} (i:Nat) (v:Value) (h:ks[i]?=some v):hdA (g8 (ks.toList.map .v++r) i)=.v v:=by
 rw[Nb4]
 have hlt:=(Array.getElem?_eq_some_iff.1 h).1
 rw[List.getElem?_append_left (by simpa using hlt),List.getElem?_map]
 simp[h]
theorem Fe4 {ks:Array Value} (i:Nat) (v:Value) (h:ks[i]?=some v):hdA (g8 (ks.toList.map .v) i)=.v v:=by
 have:=Xd0 (r:=[]) i v h
 rwa [List.append_nil] at this
section
variable {K:TypeId} {fl:List (Nat×CK)} {kl:Nat} (hag:agT P K=true) (hf:T4 P 9 K=some fl)
include hag hf
theorem Fe5 {ks us:Array Value} (h1:∀ p∈fl,sa0 ks p) (h2:∀ p∈fl,sa0 us p):(Op.equal K (.agg ks) (.agg us)).run P w=.ok (fl.all (Ma2 ks us)) w :=
 (ab9 (w:=w) (9+9991) K fl (Ib3 hf 9991)).eq (.agg ks) (.agg us) (fun _=>rfl) (fun _=>rfl) (fun h=>by rw[hag] at h;cases h) (fun h=>by rw[hag] at h;cases h) h1 h2
theorem jd6 {ks : Array Value} (h1 : ∀ p ∈ fl, sa0 ks p) : ∀ (es : List MapEntry) (rows : List (List b7)) (i : Nat), es.length = rows.length → (∀ (j : Nat) r e, rows[j]? = some r → es[j]? = some e → wc7 fl kl r e) →
  ((Instr.findAsking K (.agg ks) es i).run P w=.ok none w∧Mb6 fl (ks.toList.map .v) rows=none∧∀ new,T3 fl (ks.toList.map .v) new rows=rows++[new]) ∨
  (∃ j e r,(Instr.findAsking K (.agg ks) es i).run P w=.ok (some (i+j,e.val)) w∧es[j]?=some e∧rows[j]?=some r∧Mb6 fl (ks.toList.map .v) rows=some r∧(∀ new,T3 fl (ks.toList.map .v) new rows=rows.set j new)∧∃ us,e.key=.agg us∧fl.all (Ma2 ks us)=true)
 | [],[],i,_,_=>.inl ⟨by simp[Instr.findAsking],rfl,fun new=>rfl⟩
 | [],r::rows,i,hl,_=>by simp at hl
 | e::es,[],i,hl,_=>by simp at hl
 | e::es,r::rows,i,hl,hr=>by
  obtain⟨us,v,g1,g2,g3,g4,g5⟩:=hr 0 r e rfl rfl
  have hk:=Ta3 9 K fl hf
  have he:=Fe5 (w:=w) hag hf h1 g5
  have hq:fl.all (Ma2 ks us)=kb7 fl (ks.toList.map .v) r:=by
   rw[g1]
   exact xd4 hk h1 g5 Fe4 Xd0
  have eR:Mb6 fl (ks.toList.map .v) (r::rows)=Bool.rec (motive:=fun _=>Option (List b7)) (Mb6 fl (ks.toList.map .v) rows) (some r) (kb7 fl (ks.toList.map .v) r):=rfl
  have eU:∀ new,T3 fl (ks.toList.map .v) new (r::rows)=Bool.rec (motive:=fun _=>List (List b7)) (r::T3 fl (ks.toList.map .v) new rows) (new::rows) (kb7 fl (ks.toList.map .v) r):=fun _=>rfl
  cases hb:fl.all (Ma2 ks us) with
  | true =>
   rw[hb] at he
   rw[hb] at hq
   refine .inr ⟨0,e,r,by simp[Instr.findAsking,g3,he],rfl,rfl,by rw[eR,← hq],fun new=>by rw[eU,← hq];rfl,us,g3,hb⟩
  | false =>
   rw[hb] at he
   rw[hb] at hq
   rcases jd6 h1 es rows (i+1) (by simpa using hl) (fun j r' e' hj hj'=>hr (j+1) r' e' (by simpa using hj) (by simpa using hj')) with⟨k1,k2,k3⟩ | ⟨j,e',r',k1,k2,k3,k4,k5,k6⟩
   ·refine .inl ⟨by simp[Instr.findAsking,g3,he,k1],by rw[eR,← hq];exact k2,fun new=>by rw[eU,← hq];show r::T3 _ _ _ _=_;rw[k3 new];rfl⟩
   ·refine .inr ⟨j+1,e',r',by simp[Instr.findAsking,g3,he,k1,Nat.add_assoc,Nat.add_comm 1 j],by simpa using k2,by simpa using k3,by rw[eR,← hq];exact k4,fun new=>by rw[eU,← hq];show r::T3 _ _ _ _=_;rw[k5 new];rfl,k6⟩
end
end
end Go.Ev
namespace Go.Ev
open Go
def vb3 (fl:List (Nat×CK)) (kl:Nat):Bool:=(List.range kl).all fun i=>fl.any fun p=>Nat.beq p.1 i
def Xd1 (P:Program) (t:TypeId):Bool:=match P.info? t with
 | some i=>match i.zero with
  | some (.bool b)=>!b
  | _=>false
 | none=>false
theorem Pc9 {fl:List (Nat×CK)} {kl i:Nat} (h:vb3 fl kl=true) (hi:i < kl):∃ p∈fl,p.1=i:=by
 unfold vb3 at h
 rw[List.all_eq_true] at h
 have:=h i (List.mem_range.2 hi)
 rw[List.any_eq_true] at this
 obtain⟨p,h1,h2⟩:=this
 exact⟨p,h1,Nat.eq_of_beq_eq_true h2⟩
section
variable {WB K:Nat→Prop} {J:List Value→World→Prop} {ρ ρ0:Rho} {H H0 H':List b9} {F F0:Fz} {w w0 w':World} {W':Nat→Prop} {up:List Value} {E:Env} {a:List b7} {ac:Act} {x:b7} {o:Oper}
theorem Md7 {x x':Value} (h:XW ρ H F w (.v x) x'):x'=x:=by
 cases h with
 | w h=>exact Z8 h
 | c h=>cases h with
  | n h=>exact Z8 (.val (.cell h))
theorem Xd2 {fl : List (Nat × CK)} {kl : Nat} {ks : List b7} {v : Value} (hcov : vb3 fl kl = true) (hk : ∀ p ∈ fl, (∃ i, p.2 = .int i) ∨ p.2 = .bool) (hx : XW ρ H F w (.agg ks) v) (hlen : ks.length = kl) (hok : td8 fl ks = true) :
  ∃ vs:Array Value,v=.agg vs∧ks=vs.toList.map .v∧vs.size=kl∧∀ p∈fl,sa0 vs p:=by
 have hx':z8 ρ (n7 H) F w (.agg ks) v:=by
  cases hx with
  | w h=>exact h
  | c h=>cases h with
   | n h=>exact .val (.cell h)
 obtain⟨vs,rfl,hl,hr⟩:=oa8 hx'
 have h1:=tc5 hok
 have k1:∀ p∈fl,sa0 vs p:=fun p hp=>(tb3 hl hr (hk p hp) (h1 p hp)).1
 refine⟨vs,rfl,List.ext_getElem (by simpa using hl) fun i hi hi'=>?_,by rw[← hl];exact hlen,k1⟩
 obtain⟨p,hp,rfl⟩:=Pc9 hcov (hlen ▸ hi)
 have h2:=h1 p hp
 rw[Nb4,List.getElem?_eq_getElem hi] at h2
 simp only[Option.getD_some] at h2
 have hi2:p.1 < vs.size:=hl ▸ hi
 have hrel:=hr p.1 _ _ (List.getElem?_eq_getElem hi) (Array.getElem?_eq_getElem hi2)
 have hv:∃ u,ks[p.1]=.v u:=by
  rcases hk p hp with⟨q,e⟩ | e<;>rw[e] at h2<;>revert h2<;>cases ks[p.1]<;>intro h2<;>first | exact⟨_,rfl⟩ | cases h2
 obtain⟨u,hu⟩:=hv
 rw[hu] at hrel ⊢
 have:=Z8 (.val (.cell hrel))
 simp[this]
theorem Xd3 (m:Nat) (k:IntKind) (a:Int):Instr.sameBits m (.int k a) (.int k a)=true:=by cases m<;>simp[Instr.sameBits]
theorem Md8 (m:Nat) (a:Bool):Instr.sameBits m (.bool a) (.bool a)=true:=by cases m<;>simp[Instr.sameBits]
theorem Md9 {fl : List (Nat × CK)} {kl m : Nat} {ks us : Array Value} (hcov : vb3 fl kl = true) (hk : ∀ p ∈ fl, (∃ i, p.2 = .int i) ∨ p.2 = .bool) (h1 : ks.size = kl) (h2 : us.size = kl) (a1 : ∀ p ∈ fl, sa0 ks p) (a2 : ∀ p ∈ fl, sa0 us p) (he : fl.all (Ma2 ks us) = true) :
  Instr.sameBits (m+1) (.agg us) (.agg ks)=true:=by
 rw[Instr.sameBits]
 rw[Bool.and_eq_true]
 refine⟨by simp[h1,h2],?_⟩
 rw[List.all_eq_true]
 intro q hq
 obtain⟨i,hi,hq⟩:=List.mem_iff_getElem.1 hq
 rw[List.getElem_zip] at hq
 have hi':i < kl:=by rw[List.length_zip,Array.length_toList,Array.length_toList] at hi;omega
 obtain⟨p,hp,rfl⟩:=Pc9 hcov hi'
 have e:=List.all_eq_true.1 he p hp
 have b1:=a1 p hp
 have b2:=a2 p hp
 have g1:ks[p.1]?=some (ks[p.1]'(by omega)):=Array.getElem?_eq_getElem _
 have g2:us[p.1]?=some (us[p.1]'(by omega)):=Array.getElem?_eq_getElem _
 rw[← hq]
 simp only[Array.getElem_toList]
 unfold sa0 at b1 b2
 unfold Ma2 at e
 rcases hk p hp with⟨k,hkk⟩ | hkk
 ·rw[hkk] at b1 b2
  obtain⟨n,b1⟩:=b1
  obtain⟨n',b2⟩:=b2
  rw[b1,b2] at e
  have e:n=n':=by simpa using e
  subst e
  rw[g1] at b1;rw[g2] at b2
  rw[Option.some.inj b1,Option.some.inj b2]
  exact Xd3 _ _ _
 ·rw[hkk] at b1 b2
  obtain⟨n,b1⟩:=b1
  obtain⟨n',b2⟩:=b2
  rw[b1,b2] at e
  have e:n=n':=by simpa using e
  subst e
  rw[g1] at b1;rw[g2] at b2
  rw[Option.some.inj b1,Option.some.inj b2]
  exact Md8 _ _
theorem vb4 {k:Nat} {es:Array MapEntry} {clk:Nat} (P:Program) (h:w.heap[k]?=some (.map es clk)):(getObj k).run P w=.ok (.map es clk) w:=by simp[getObj,Sem.run,h]
theorem vb5 {k:Nat} {es:Array MapEntry} {clk:Nat} (P:Program) (o:Obj) (h:w.heap[k]?=some (.map es clk)):(setObj k o).run P w=.ok () (w.putObj k o):=by simp[setObj,Sem.run,h,World.putObj]
theorem gc5 {P : Program} {t : TypeId} {fl : List (Nat × CK)} {kl : Nat} (hag : agT P t = true) (hf : T4 P 9 t = some fl) {ks : Array Value} (h1 : ∀ p ∈ fl, sa0 ks p) (es : List MapEntry) (rows : List (List b7)) (hl : es.length = rows.length) (hr : ∀ (j : Nat) r e, rows[j]? = some r → es[j]? = some e → wc7 fl kl r e) :
  ((Instr.findKey t (.agg ks) es).run P w=.ok none w∧Mb6 fl (ks.toList.map .v) rows=none∧∀ new,T3 fl (ks.toList.map .v) new rows=rows++[new]) ∨
  (∃ j e r,(Instr.findKey t (.agg ks) es).run P w=.ok (some (j,e.val)) w∧es[j]?=some e∧rows[j]?=some r∧Mb6 fl (ks.toList.map .v) rows=some r∧(∀ new,T3 fl (ks.toList.map .v) new rows=rows.set j new)∧∃ us,e.key=.agg us∧fl.all (Ma2 ks us)=true):=by
 have hu:∃ d,P.underlying t=some d∧∀ e es i,Instr.findNow d (.agg ks) (e::es) i=none:=by
  unfold agT at hag
  split at hag
  ·rename_i fs h;exact⟨_,h,fun e es i=>rfl⟩
  ·rename_i n e h;exact⟨_,h,fun e es i=>rfl⟩
  ·cases hag
 obtain⟨d,hd,hnow⟩:=hu
 have:=jd6 (w:=w) (kl:=kl) hag hf h1 es rows 0 hl hr
 have e0:(Instr.findKey t (.agg ks) es).run P w=(Instr.findAsking t (.agg ks) es 0).run P w:=by
  unfold Instr.findKey
  simp only[Sem.run_bind,run_underlying hd,Result.andThen_ok]
  cases es with
  | nil=>simp[Instr.findNow,Instr.findAsking]
  | cons e es=>rw[hnow]
 rw[e0]
 simpa using this
section
variable {ds:List Deferred} {n:Nat} (hC:C2 E.P WB K J ρ0 H0 F0 w0 H ds w ρ F W' up) (hJ:Jb4 K J)
include hC hJ
theorem Xd4 {t : TypeId} {kt el : TypeId} {fl : List (Nat × CK)} (ho : o.op = .makeMap t none) (hu : E.P.underlying t = some (.map kt el)) (hf : T4 E.P 9 kt = some fl) (he : (kb8 E a H (.mmake t)).run = some (x, H')) :
  i6 E.P o ac w (gb9 E.P WB K J ρ0 H0 F0 w0 ρ H F w up ds x H'):=by
 have he':some (b7.ptr (len H) 0 0 0,Mb5 H (t+1) [])=some (x,H'):=he
 injection he' with he';injection he' with e1 e2;subst e1 e2
 rw[l0]
 obtain⟨c1,c2,c3,c4⟩:=hC.alloc hJ (.map #[] 0)
 have hap:∀ (id:Nat) b,H[id]?=some b→B9 b=true→b.dead=false→(ρ id).blk≠w.heap.size:=fun id b hb hs hd=>Nat.ne_of_lt (hC.srel.has id b hb hs hd).2.2.2.1
 rw[jd4]
 have hnew:(w.alloc (.map #[] 0)).heap[w.heap.size]?=some (.map #[] 0):=World.alloc_heap_new w _
 refine .value (x':=.map (some w.heap.size)) (w':=w.alloc (.map #[] 0)) (by simp[execOp,ho,Instr.makeMap,run_newObj_alloc]) ?_
 obtain⟨d1,d2⟩:=c1.adopt w.heap.size 0 c3 (fun h=>h.2 rfl) (fun o hf=>c4 o hf) (by simp) hap (fun hk=>Nat.lt_irrefl _ (hC.kept _ hk).2) { et:=t+1,es:=0,elems:=[],own:=true,dead:=false,g:=0 } (Ua6 (t:=t) ⟨rfl,rfl⟩) rfl
  (.inr ⟨t,kt,el,fl,#[],0,⟨rfl,rfl⟩,hu,hf,hnew,rfl,fun i r e hr=>by simp at hr⟩)
 refine⟨_,F,_,d1,fun x x' hx=>d2 _ _ (c2 _ _ hx),.c ?_⟩
 have hρn:(ρnew ρ H ⟨w.heap.size,0,0⟩ H.length).blk=w.heap.size:=by simp[ρnew]
 have:=XC.map (ρ:=ρnew ρ H ⟨w.heap.size,0,0⟩) (F:=F) (w:=w.alloc (.map #[] 0)) H.length 0 0 { et:=t+1,es:=0,elems:=[],own:=true,dead:=false,g:=0 } t (H:=H++[{ et:=t+1,es:=0,elems:=[],own:=true,dead:=false,g:=0 }]) (by simp) rfl ⟨rfl,rfl⟩
 rwa [hρn] at this
variable (hv:VR ρ H F w a (ac.tmps.toList++up)) (hn:ac.tmps.size=n) (hG:GOk E F w)
include hv hn hG
omit hJ in
theorem Xd5 {t : TypeId} {kt el : TypeId} {fl : List (Nat × CK)} {m : Nat} {y : Operand} (ho : o.op = .lookup t (.tmp m) y false) (hm : Nat.blt m n = true) (hy : ltO n y = true) (hu : E.P.underlying t = some (.map kt el)) (hag : agT E.P kt = true) (hf : T4 E.P 9 kt = some fl) (hcov : vb3 fl (szT E.P kt) = true) (hz : Xd1 E.P el = true)
  (he:(kb8 E a H (.mlook t (szT E.P kt) fl m (g9 y))).run=some (x,H')) :
  i6 E.P o ac w (gb9 E.P WB K J ρ0 H0 F0 w0 ρ H F w up ds x H'):=by
 have hmr:=bb3 hv hn hG (.tmp m) hm
 have hyr:=bb3 hv hn hG y hy
 have hev:(ac.eval (.tmp m))=ac.tmps.getD m undef:=rfl
 simp only[kb8] at he
 have hcA:g9 (.tmp m)=.t m:=rfl
 rw[hcA] at hmr
 cases hs:Mb4 (t+1) H (c8 E a (.t m)) with
 | none=>rw[hs] at he;cases he
 | some q =>
 obtain⟨id,c,g,b⟩:=q
 rw[hs] at he
 simp only at he
 obtain⟨h1,h2,h3,h4,h5⟩:=Pc8 hs hmr
 revert he hyr
 generalize c8 E a (g9 y)=ya
 intro hyr he
 split at he
 case h_2=>cases he
 ·rename_i ks
  obtain⟨hgd,he⟩:=DT.run_guard_some he
  have he:some (b7.v (.bool (za2 (szT E.P kt) fl ks b.elems)),H)=some (x,H'):=he
  rw[Bool.and_eq_true,l0] at hgd
  obtain⟨vs,e1,e2,e3,e4⟩:=Xd2 hcov (Ta3 9 kt fl hf) hyr (Nat.eq_of_beq_eq_true hgd.1) hgd.2
  obtain⟨rfl,rfl⟩:x=b7.v (.bool (za2 (szT E.P kt) fl ks b.elems))∧H=H':=by injection he with he;injection he with e1 e2;exact⟨e1.symm,e2⟩
  subst e2
  obtain⟨_,_,_,_,hcont⟩:=hC.srel.has id b h2 (Ua6 h4) h3
  rcases hcont with⟨hb,_⟩ | ⟨t',K',El,fl',es,clk,m1,m2,m3,m4,m5,m6⟩
  ·exact (Bb2 hb h4).elim
  have ht:t'=t:=Nat.succ.inj (m1.2.symm.trans h4.2)
  subst ht
  rw[hu] at m2
  injection m2 with m2;injection m2 with q1 q2;subst q1 q2
  rw[hf] at m3
  injection m3 with m3;subst m3
  have hlen:es.toList.length=b.elems.length:=by rw[Array.length_toList];exact m5.symm
  have hrow:∀ (j:Nat) r e,b.elems[j]?=some r→es.toList[j]?=some e→wc7 fl (szT E.P kt) r e:=fun j r e hr he=>m6 j r e hr (by simpa using he)
  have hfind:=gc5 (w:=w) (kl:=szT E.P kt) hag hf e4 es.toList b.elems hlen hrow
  have hck:(Instr.checkKey es.isEmpty 10000 kt (.agg vs)).run E.P w=.ok () w:=Xc4 es.isEmpty 9 kt fl hf 10000 (by decide) (.agg vs) (fun _=>rfl) (fun h=>by rw[hag] at h;cases h) e4
  have hgo:(getObj (ρ id).blk).run E.P w=.ok (.map es clk) w:=vb4 E.P m4
  rcases hfind with⟨k1,k2,_⟩ | ⟨j,e,r,k1,k2,k3,k4,_,_⟩
  ·have hz' : (zeroValue el).run E.P w = .ok (.bool false) w := by
    unfold Xd1 at hz
    split at hz
    ·rename_i i hi
     split at hz
     ·rename_i bb hbb
      cases bb with
      | true=>cases hz
      | false=>simp[zeroValue,typeInfo,hi,hbb]
     ·cases hz
    ·cases hz
   refine .value (x':=.bool false) (w':=w) ?_ ⟨ρ,F,W',hC,fun _ _ h=>h,?_⟩
   ·simp[execOp,ho,Instr.lookup,run_underlying hu,h5,e1,hgo,hck,k1,hz']
   ·unfold za2
    rw[k2]
    exact .w (.val (.cell (.v _)))
  ·obtain⟨us,bb,g1,g2,g3,g4,g5⟩:=hrow j r e k3 k2
   refine .value (x':=.bool bb) (w':=w) ?_ ⟨ρ,F,W',hC,fun _ _ h=>h,?_⟩
   ·simp[execOp,ho,Instr.lookup,run_underlying hu,h5,e1,hgo,hck,k1,g4]
   ·unfold za2
    rw[k4]
    have:toB (hdA (g8 r (szT E.P kt)))=bb:=by
     rw[Nb4,g1,← g2]
     rw[List.getElem?_append_right (by simp)]
     simp[toB]
    show XW ρ H F w (.v (.bool (toB (hdA (g8 r (szT E.P kt)))))) _
    rw[this]
    exact .w (.val (.cell (.v _)))
theorem pe5 {t : TypeId} {kt el : TypeId} {fl : List (Nat × CK)} {m : Nat} {y z : Operand} (ho : o.op = .mapUpdate t (.tmp m) y z) (hm : Nat.blt m n = true) (hy : ltO n y = true) (hz : ltO n z = true) (hu : E.P.underlying t = some (.map kt el)) (hag : agT E.P kt = true) (hf : T4 E.P 9 kt = some fl) (hcov : vb3 fl (szT E.P kt) = true)
  (he:(kb8 E a H (.mupd t (szT E.P kt) fl m (g9 y) (g9 z))).run=some (x,H')) :
  i6 E.P o ac w (gb9 E.P WB K J ρ0 H0 F0 w0 ρ H F w up ds x H'):=by
 have hmr:=bb3 hv hn hG (.tmp m) hm
 have hyr:=bb3 hv hn hG y hy
 have hzr:=bb3 hv hn hG z hz
 simp only[kb8] at he
 have hcA:g9 (.tmp m)=.t m:=rfl
 rw[hcA] at hmr
 cases hs:Mb4 (t+1) H (c8 E a (.t m)) with
 | none=>rw[hs] at he;cases he
 | some q =>
 obtain⟨id,c,g,b⟩:=q
 rw[hs] at he
 simp only at he
 obtain⟨h1,h2,h3,h4,h5⟩:=Pc8 hs hmr
 revert he hyr hzr
 generalize c8 E a (g9 y)=ya
 generalize c8 E a (g9 z)=za
 intro hyr hzr he
 split at he
 case h_2=>cases he
 rename_i ks bv
 obtain⟨hgd,he⟩:=DT.run_guard_some he
 have he:some (b7.v (.tuple #[]),setAt H id { b with elems:=T3 fl ks (app ks [.v (.bool bv)]) b.elems })=some (x,H'):=he
 rw[Bool.and_eq_true,l0] at hgd
 have hkinds:=Ta3 9 kt fl hf
 obtain⟨vs,e1,e2,e3,e4⟩:=Xd2 hcov hkinds hyr (Nat.eq_of_beq_eq_true hgd.1) hgd.2
 have e5:=Md7 hzr
 injection he with he;injection he with q1 q2
 subst q1 q2 e2
 obtain⟨hWB,hnW,hnF,hlt,hcont⟩:=hC.srel.has id b h2 (Ua6 h4) h3
 rcases hcont with⟨hb,_⟩ | ⟨t',K',El,fl',es,clk,m1,m2,m3,m4,m5,m6⟩
 ·exact (Bb2 hb h4).elim
 have ht:t'=t:=Nat.succ.inj (m1.2.symm.trans h4.2)
 subst ht
 rw[hu] at m2
 injection m2 with m2;injection m2 with q1 q2;subst q1 q2
 rw[hf] at m3
 injection m3 with m3;subst m3
 have hlen:es.toList.length=b.elems.length:=by rw[Array.length_toList];exact m5.symm
 have hrow:∀ (j:Nat) r e,b.elems[j]?=some r→es.toList[j]?=some e→wc7 fl (szT E.P kt) r e:=fun j r e hr he=>m6 j r e hr (by simpa using he)
 have hfind:=gc5 (w:=w) (kl:=szT E.P kt) hag hf e4 es.toList b.elems hlen hrow
 have hck:(Instr.checkKey false 10000 kt (.agg vs)).run E.P w=.ok () w:=Xc4 false 9 kt fl hf 10000 (by decide) (.agg vs) (fun _=>rfl) (fun h=>by rw[hag] at h;cases h) e4
 have hgo:(getObj (ρ id).blk).run E.P w=.ok (.map es clk) w:=vb4 E.P m4
 have hnK:∀ k,K k→k≠(ρ id).blk:=fun k hk e=>hC.far id b h2 (Ua6 h4) h3 (e ▸ hk)
 have hid:=(List.getElem?_eq_some_iff.1 h2).1
 have hnewrow:∀ us:MapEntry,wc7 fl (szT E.P kt) (app (vs.toList.map .v) [.v (.bool bv)]) { us with key:=.agg vs,val:=.bool bv }:=fun us=>⟨vs,bv,by rw[E5],e3,rfl,rfl,e4⟩
 have hfin : ∀ (es' : Array MapEntry) (clk' : Nat), (T3 fl (vs.toList.map .v) (app (vs.toList.map .v) [.v (.bool bv)]) b.elems).length = es'.size → b.elems.length ≤ es'.size → (∀ (i : Nat) r e, (T3 fl (vs.toList.map .v) (app (vs.toList.map .v) [.v (.bool bv)]) b.elems)[i]? = some r → es'[i]? = some e → wc7 fl (szT E.P kt) r e) →
   gb9 E.P WB K J ρ0 H0 F0 w0 ρ H F w up ds (.v (.tuple #[])) (H.set id { b with elems:=T3 fl (vs.toList.map .v) (app (vs.toList.map .v) [.v (.bool bv)]) b.elems }) (.tuple #[]) (w.putObj (ρ id).blk (.map es' clk')):=fun es' clk' hl1 hl2 hrows=>by
  obtain⟨c1,c2⟩:=hC.change (w':=w.putObj (ρ id).blk (.map es' clk')) (H':=H.set id { b with elems:=T3 fl (vs.toList.map .v) (app (vs.toList.map .v) [.v (.bool bv)]) b.elems }) (up':=up) (ρ id).blk hWB hnW hnF rfl rfl rfl (Nat.le_refl _) (by simp) (fun j hj=>World.putObj_heap_other hj)
   (fun cc t' fr hcc=>by rw[m4] at hcc;cases hcc) (by simp)
   (fun id' b' hb'=>by
    by_cases e:id=id'
    ·subst e
     obtain rfl:b'=b:=Option.some.inj (hb'.symm.trans h2)
     exact⟨{ b' with elems:=T3 fl (vs.toList.map .v) (app (vs.toList.map .v) [.v (.bool bv)]) b'.elems },by simp[hid],rfl,rfl,rfl,rfl,by simp only;rw[hl1];exact hl2,fun hs0=>by rw[Ua6 h4] at hs0;cases hs0⟩
    ·exact⟨b',by rw[List.getElem?_set_ne e];exact hb',rfl,rfl,rfl,rfl,Nat.le_refl _,fun _=>rfl⟩)
   (fun id' b' hb' hs' hd' hne=>by
    have e:id≠id':=fun e=>hne (by rw[e])
    rw[List.getElem?_set_ne e];exact hb')
   (fun hx id' b' hb' hs' hd' hblk=>by
    have e:id=id':=Classical.byContradiction fun hne=>by
     rw[List.getElem?_set_ne hne] at hb'
     exact hC.srel.apart id id' b b' h2 hb' (Ua6 h4) hs' h3 hd' hne hblk.symm
    subst e
    have:b'={ b with elems:=T3 fl (vs.toList.map .v) (app (vs.toList.map .v) [.v (.bool bv)]) b.elems }:=by simpa [hid] using hb'.symm
    subst this
    exact .inr ⟨t',kt,el,fl,es',clk',h4,hu,hf,World.putObj_heap_same hlt,hl1,hrows⟩)
   (hJ up w _ (fun k hk=>World.putObj_heap_other (hnK k hk)) hC.jot)
   (fun D _ hD e=>by rw[e,m4] at hD;cases hD)
  exact⟨ρ,F,W',c1,c2,.w (.ofv _)⟩
 rw[z7]
 rcases hfind with⟨k1,_,k3⟩ | ⟨j,e,r,k1,k2,k3,k4,k5,us,k6,k7⟩
 ·have hso:=vb5 E.P (.map (es.push { key:=.agg vs,val:=.bool bv,born:=clk }) (clk+1)) m4
  refine .skip (w':=w.putObj (ρ id).blk (.map (es.push { key:=.agg vs,val:=.bool bv,born:=clk }) (clk+1))) ?_ (hfin _ _ ?_ ?_ ?_)
  ·simp[execOp,ho,Instr.mapUpdate,run_underlying hu,h5,e1,e5,hgo,hck,k1,hso]
  ·rw[k3];simp[m5]
  ·simp[m5]
  ·intro i r e hr he
   rw[k3] at hr
   by_cases hi:i < b.elems.length
   ·rw[List.getElem?_append_left hi] at hr
    rw[Array.getElem?_push,if_neg (by omega)] at he
    exact m6 i r e hr he
   ·rw[List.getElem?_append_right (by omega)] at hr
    have hi0:i - b.elems.length=0:=by
     rcases Nat.eq_zero_or_pos (i - b.elems.length) with h | h
     ·exact h
     ·rw[List.getElem?_eq_none (by simp;omega)] at hr;cases hr
    rw[hi0] at hr
    rw[Array.getElem?_push,if_pos (by omega)] at he
    simp at hr he
    subst hr he
    exact hnewrow { key:=.agg vs,val:=.bool bv,born:=clk }
 ·have k2':es[j]?=some e:=by simpa using k2
  obtain⟨us',bb,g1,g2,g3,g4,g5⟩:=hrow j r e k3 k2
  rw[k6] at g3
  injection g3 with g3
  subst g3
  have hsame:Instr.sameBits 10000 (.agg us) (.agg vs)=true:=Md9 (m:=9999) hcov hkinds e3 g2 e4 g5 k7
  have hso:=vb5 E.P (.map (es.modify j fun e=>{ e with key:=.agg vs,val:=.bool bv }) clk) m4
  refine .skip (w':=w.putObj (ρ id).blk (.map (es.modify j fun e=>{ e with key:=.agg vs,val:=.bool bv }) clk)) ?_ (hfin _ _ ?_ ?_ ?_)
  ·simp[execOp,ho,Instr.mapUpdate,run_underlying hu,h5,e1,e5,hgo,hck,k1,k2',k6,Instr.keyThatStays,hsame,hso]
  ·rw[k5];simp[m5]
  ·simp[m5]
  ·intro i r' e' hr he
   rw[k5] at hr
   rw[Array.getElem?_modify] at he
   by_cases hi:j=i
   ·subst hi
    rw[if_pos rfl,k2'] at he
    have hj:=(List.getElem?_eq_some_iff.1 k3).1
    rw[List.getElem?_set_self hj] at hr
    simp at hr he
    subst hr he
    exact hnewrow e
   ·rw[if_neg hi] at he
    rw[List.getElem?_set_ne hi] at hr
    exact m6 i r' e' hr he
end
end
end Go.Ev
namespace Go.Ev
open Go
def xd5 (pr:List Nat):Operand→Option Nat
 | .tmp p=>if pr.contains p then some p else none
 | _=>none
def Xd6 (pr:List Nat) (o:Oper):Bool:=match o.dst with
 | some d=>pr.contains d
 | none=>false
def pb8 (b:Bool) (x:SP):SP:=match b with
 | true=>x
 | false=>.bad
structure Ne4 where
 kt:TypeId
 el:TypeId
 fl:List (Nat×CK)
def Xd7 (P:Program) (t:TypeId):Option Ne4:=match P.underlying t with
 | some (.map kt el)=>match T4 P 9 kt with
  | some fl=>match agT P kt&&vb3 fl (szT P kt) with
   | true=>some ⟨kt,el,fl⟩
   | false=>none
  | none=>none
 | _=>none
def cSp (P:Program) (n:Nat) (pr:List Nat) (o:Oper):Option SP :=
 match o.op with
 | .alloc t=>match Xd6 pr o with
  | true=>match zeT P t with
   | some z=>some (.balloc z)
   | none=>some .bad
  | false=>none
 | .box _ x=>match Xd6 pr o with
  | true=>some (pb8 (ltO n x) (.bbox (g9 x)))
  | false=>none
 | .load t x=>match xd5 pr x with
  | some p=>some (pb8 (Nat.blt p n&&(P.underlying t).isSome) (.bload (szT P t) (agT P t) p))
  | none=>none
 | .store t x y=>match xd5 pr x with
  | some p=>some (pb8 (Nat.blt p n&&ltO n y&&!Nat.beq (szT P t) 0) (.bstore (szT P t) p (g9 y)))
  | none=>none
 | .fieldAddr s x f=>match xd5 pr x with
  | some p=>match P.underlying s with
   | some (.struct fs)=>match fs[f]? with
    | some fd=>some (pb8 (Nat.blt p n&&!Nat.beq (szT P fd.type) 0) (.bfld fd.offset p))
    | none=>some .bad
   | _=>some .bad
  | none=>none
 | .move x=>match xd5 pr x with
  | some p=>some (pb8 (Nat.blt p n) (.bmv p))
  | none=>none
 | .assign x=>match xd5 pr x with
  | some p=>some (pb8 (Nat.blt p n) (.bmv p))
  | none=>none
 | .makeMap t none=>match Xd7 P t with
  | some _=>some (.mmake t)
  | none=>some .bad
 | .lookup t (.tmp m) y false=>match Xd7 P t with
  | some q=>some (pb8 (Nat.blt m n&&ltO n y&&Xd1 P q.el) (.mlook t (szT P q.kt) q.fl m (g9 y)))
  | none=>some .bad
 | .mapUpdate t (.tmp m) y z=>match Xd7 P t with
  | some q=>some (pb8 (Nat.blt m n&&ltO n y&&ltO n z) (.mupd t (szT P q.kt) q.fl m (g9 y) (g9 z)))
  | none=>some .bad
 | .call c=>match c.callee with
  | .builtin .append=>match Xd6 pr o with
   | true=>match c.args.toList,c.argTypes.toList with
    | [s,x],[t,u]=>match P.underlying t with
     | some (.slice e)=>some (pb8 (Nat.blt 0 (szT P e)&&Nat.beq t u) (.old n (.apre (szT P e) (g9 s) (g9 x))))
     | _=>some .bad
    | _,_=>some .bad
   | false=>none
  | .builtin .clear=>match c.args.toList,c.argTypes.toList with
   | [x],[t]=>match P.underlying t with
    | some (.slice e)=>match zeT P e with
     | some z=>some (pb8 (Nat.blt 0 (szT P e)) (.old n (.clr (szT P e) z (g9 x))))
     | none=>some .bad
    | _=>some .bad
   | _,_=>some .bad
  | _=>none
 | _=>none
structure Rd where
 nOut:Nat
 ps:List Nat
 asq:PC
 body:PC
abbrev HL:=List (Nat×Option (Nat×Bool))
def Xd8:Option (Nat×Bool)→Option (Nat×Bool)→Bool
 | none,_=>true
 | some (d,b),some (d',b')=>Nat.beq d d'&&(b==b')
 | some _,none=>false
def Xd9 (S:HL) (t:Nat) (g:Option (Nat×Bool)):Bool:=S.any fun p=>Nat.beq p.1 t&&Xd8 p.2 g
def Pb3 (ops:Array Oper) (S:HL) (o:Oper):Option (List Operand):=match o.op with
 | .call c=>match c.callee with
  | .value (.tmp t)=>match Q9 ops o with
   | some g=>if Xd9 S t g then some c.args.toList else none
   | none=>none
  | _=>none
 | _=>none
def xc0 (ops:Array Oper) (S:HL) (o:Oper):Option (Nat×Option (Nat×Bool)):=match o.op,o.dst with
 | .move (.tmp t),some d=>match Q9 ops o with
  | some g=>if Xd9 S t g then some (d,g) else none
  | none=>none
 | _,_=>none
def gOk (n:Nat):Option (Nat×Bool)→Bool
 | none=>true
 | some (d,_)=>Nat.blt d n
def dOk (n:Nat):Option Nat→Bool
 | none=>true
 | some d=>Nat.blt d n
def rmL (S:HL) (dd:List Nat):HL:=S.filter fun p=>!dd.contains p.1&&match p.2 with
 | none=>true
 | some (d,_)=>!dd.contains d
def rmD (S:HL):Option Nat→HL
 | none=>S
 | some d=>rmL S [d]
def Jb5 (l:List Oper):List Nat:=l.filterMap (·.dst)
def Xb6 (p:Oper→Bool):List Oper→Nat
 | []=>0
 | o::r=>match p o with
  | true=>Xb6 p r+1
  | false=>0
def jd7 (P:Program) (n:Nat) (pr:List Nat) (ops:Array Oper) (S:HL) (o:Oper):Bool:=(cSp P n pr o).isNone&&(Pb3 ops S o).isNone&&(xc0 ops S o).isNone
def Yd0 (l r:HL):Bool:=l.all fun p=>Xd9 r p.1 p.2
def jd8 (P:Program) (n:Nat) (pr:List Nat) (yl:Option Rd) (S0:HL) (ops:Array Oper):Nat→List Oper→HL→PC
 | 0,_,_=>.bad
 | _+1,[],S=>match Yd0 S0 S with
  | true=>.skip
  | false=>.bad
 | f+1,o::r,S=>match Pb3 ops S o with
  | some args=>match yl,Q9 ops o with
   | some rd,some g=>match gOk n g&&dOk n o.dst&&args.all (ltO n)&&Nat.beq args.length rd.ps.length with
    | true=>.seq (.round o.dst g (args.map g9) n rd.nOut rd.ps rd.asq rd.body) (jd8 P n pr yl S0 ops f r (rmD S o.dst))
    | false=>.bad
   | _,_=>.bad
  | none=>match xc0 ops S o with
   | some (d,g)=>match Nat.blt d n with
    | true=>.seq (.mask n [d] (.ops [⟨some d,none,[],.mv (.c .unk)⟩])) (jd8 P n pr yl S0 ops f r ((d,g)::rmL S [d]))
    | false=>.bad
   | none=>match cSp P n pr o with
    | some so=>match Q9 ops o with
     | some g=>match gOk n g&&dOk n o.dst with
      | true=>.seq (.sp o.dst g so) (jd8 P n pr yl S0 ops f r (rmD S o.dst))
      | false=>.bad
     | none=>.bad
    | none=>match Cb8 P ops (o::r.take (Xb6 (jd7 P n pr ops S) r)) with
     | some l=>.seq (.mask n (Jb5 (o::r.take (Xb6 (jd7 P n pr ops S) r))) (.ops l)) (jd8 P n pr yl S0 ops f (r.drop (Xb6 (jd7 P n pr ops S) r)) (rmL S (Jb5 (o::r.take (Xb6 (jd7 P n pr ops S) r)))))
     | none=>.bad
def oa0 (P:Program) (n:Nat) (pr:List Nat) (yl:Option Rd) (S0:HL) (kp:Nat→List Nat) (rf:Operand→Array Tmp→Code→Code→PC) (cur:Nat):Code→PC
 | .skip=>.skip
 | .region _ ops d=>match d with
  | false=>jd8 P n pr yl S0 ops (ops.size+1) ops.toList S0
  | true=>match Yd0 S0 (rmL S0 (Jb5 ops.toList)) with
   | true=>.mask n (Jb5 ops.toList) (Sa9 P ops)
   | false=>.bad
 | .seq a b=>.seq (oa0 P n pr yl S0 kp rf cur a) (oa0 P n pr yl S0 kp rf cur b)
 | .cond c x y=>match ltO n c with
  | true=>.cond (g9 c) (oa0 P n pr yl S0 kp rf cur x) (oa0 P n pr yl S0 kp rf cur y)
  | false=>.bad
 | .block id c=>.block id (oa0 P n pr yl S0 kp rf id c)
 | .loop c=>.loopM (kp cur) (oa0 P n pr yl S0 kp rf cur c)
 | .label _=>.skip
 | .exit id=>.exit id
 | .ret=>.ret
 | .rangeFunc g ps asq body=>rf g ps asq body
 | _=>.bad
structure Ic1 where
 pr:List Nat
 kp:List (Nat×List Nat)
 fi:FuncId
 ki:List (Nat×List Nat)
def Nd0 (l:List (Nat×List Nat)) (id:Nat):List Nat:=match l.find? fun p=>Nat.beq p.1 id with
 | some p=>p.2
 | none=>[]
def Pb4 (_:Operand) (_:Array Tmp) (_ _:Code):PC:=.bad
def Ne5 (P:Program) (h:Ic1) (n:Nat) (ps:Array Tmp) (asq body:Code):Rd :=
 ⟨n,ps.toList,oa0 P n h.pr none [] (Nd0 h.kp) Pb4 0 asq,oa0 P n h.pr none [] (Nd0 h.kp) Pb4 0 body⟩
def xd6 (P:Program) (h:Ic1) (fnI:Func) (cI:Code) (n:Nat) (g:Operand) (ps:Array Tmp) (asq body:Code):PC :=
 match ltO n g&&Nat.beq fnI.results.size 0&&ps.toList.all (fun p=>Nat.blt p n) with
 | true=>.inner h.fi (g9 g) fnI.ntmps (oa0 P fnI.ntmps [] (some (Ne5 P h n ps asq body)) [(0,none)] (Nd0 h.ki) Pb4 0 cI)
 | false=>.bad
def Ua7 (P:Program) (h:Ic1) (fnI fn:Func):Option PFn :=
 match fn.body,fnI.body with
 | some c,some cI =>
  if fn.results.toList.all (ed5 P) then some ⟨fn.ntmps,fn.results.toList.map (sc9 P),oa0 P fn.ntmps h.pr none [] (Nd0 h.kp) (xd6 P h fnI cI fn.ntmps) 0 c⟩ else none
 | _,_=>none
noncomputable def jd9 (H:List b9):Bool:=List.rec (motive:=fun _=>Bool) true (fun b _ ih=>Bool.rec (motive:=fun _=>Bool) ih false (B9 b)) H
noncomputable def mb8 (E:Env) (fn:PFn) (args:List b7) (blks:List b9):DT (b7×List b9) :=
 .guard (Bool.and (jd9 blks) (Nat.ble (len args) fn.ntmps)) ((J7 E (len blks) fn.body ⟨app args (List.replicate (fn.ntmps - len args) (.v (.tuple #[]))),blks⟩).bind fun r =>
  match r.1 with
  | .exit _=>.fail
  | _=>match Ka3 (Ma0 (r7 (ba4 r.2.H) r.2.a) (n7 r.2.H)) fn.res with
   | some l=>.guard (jd9 (H6 r.2.H (len blks))) (sb6 (len blks) (n7 r.2.H) (db0 l))
   | none=>.fail)
end Go.Ev
namespace Go.Ev
open Go
section
variable {WB K:Nat→Prop} {J:List Value→World→Prop} {DF:List Deferred→Prop} {S:HL} {rv:Value} {ρ ρ0:Rho} {H H0 H':List b9} {F F0:Fz} {w w0 w':World} {W':Nat→Prop} {up:List Value} {E:Env} {a:List b7} {s s':St} {ac:Act} {x:b7} {o:Oper} {n:Nat}
def pb9 (tmps:Array Value):Option (Nat×Bool)→Prop
 | none=>True
 | some (d,b)=>tmps[d]?=some (.bool b)
structure I3 (P:Program) (WB K:Nat→Prop) (J:List Value→World→Prop) (n:Nat) (S:HL) (rv:Value) (DF:List Deferred→Prop) (ρ0:Rho) (H0:List b9) (F0:Fz) (w0:World) (s:St) (ac:Act) (w:World):Prop where
 inv:Md4 P WB K J n ρ0 H0 F0 w0 s ac w
 held:∀ p∈S,pb9 ac.tmps p.2→ac.tmps[p.1]?=some rv
 df:DF ac.defers
theorem ma9 {b:Bool} {so:SP} (h:(kb8 E a H (pb8 b so)).run=some (x,H')):b=true∧pb8 b so=so:=by
 cases b with
 | true=>exact⟨rfl,rfl⟩
 | false=>cases h
theorem hb5 {pr:List Nat} {y:Operand} {p:Nat} (h:xd5 pr y=some p):y=.tmp p:=by
 unfold xd5 at h
 split at h
 ·split at h
  ·injection h with h;rw[h]
  ·cases h
 ·cases h
theorem Xb7 {P:Program} {t:TypeId} {q:Ne4} (h:Xd7 P t=some q):P.underlying t=some (.map q.kt q.el)∧T4 P 9 q.kt=some q.fl∧agT P q.kt=true∧vb3 q.fl (szT P q.kt)=true:=by
 unfold Xd7 at h
 split at h
 ·rename_i kt el hu
  split at h
  ·rename_i fl hf
   split at h
   ·rename_i hc
    injection h with h
    subst h
    rw[Bool.and_eq_true] at hc
    exact⟨hu,hf,hc.1,hc.2⟩
   ·cases h
  ·cases h
 ·cases h
theorem Pb5 {k:Nat} (h:(!Nat.beq k 0)=true):k≠0:=fun e=>by subst e;cases h
theorem VR.arel (hv:VR ρ H F w a (ac.tmps.toList++up)) (hn:ac.tmps.size=n):ja8 ρ (n7 H) F w (r7 (ba4 H) (H6 a n)) ac.tmps:=by
 have hl:=hv.1
 have hsz:ac.tmps.toList.length=ac.tmps.size:=Array.length_toList
 rw[List.length_append] at hl
 rw[o1,I4]
 refine⟨by rw[List.length_map,List.length_take];omega,fun i x x' hx hx'=>?_⟩
 rw[List.getElem?_map] at hx
 have hi:i < n:=hn ▸ (Array.getElem?_eq_some_iff.1 hx').1
 rw[List.getElem?_take,if_pos hi] at hx
 cases hy:a[i]? with
 | none=>rw[hy] at hx;cases hx
 | some y =>
  rw[hy] at hx
  injection hx with hx
  subst hx
  refine Pc6 (hv.2 i y x' hy ?_)
  rw[List.getElem?_append_left (by rw[Array.length_toList];omega)]
  simpa using hx'
theorem Yd1 {px : PO} {ds : List Deferred} (hC : C2 E.P WB K J ρ0 H0 F0 w0 H ds w ρ F W' up) (hJ : Jb4 K J)
  (hop:∀ H1,(evalOp E (r7 (ba4 H) (H6 a n)) (n7 H) px).run=some (x,H1)→i6 E.P o ac w (K9 W' ρ (n7 H) F w x H1)) (he:(kb8 E a H (.old n px)).run=some (x,H')):i6 E.P o ac w (gb9 E.P WB K J ρ0 H0 F0 w0 ρ H F w up ds x H'):=by
 obtain⟨⟨x1,H1⟩,h1,h2⟩:=DT.run_bind_some (show ((evalOp E (r7 (ba4 H) (H6 a n)) (n7 H) px).bind fun r=>.guard (Mb3 H r.2) (.ret (r.1,v8 H r.2))).run=some (x,H') from he)
 obtain⟨hok,h2⟩:=DT.run_guard_some h2
 have h2:some (x1,v8 H H1)=some (x,H'):=h2
 injection h2 with h2;injection h2 with e1 e2;subst e1 e2
 intro next Q hp
 refine hop H1 h1 next Q fun x' w' ⟨ρ',F',k1,k2,k3⟩=>hp x' w' ?_
 obtain⟨c1,c2⟩:=hC.step hJ k1 hok k2
 exact⟨_,F',W',c1,c2,.w (xd3 k1 hok k3)⟩
theorem ze5 {α:Type} {l:Array α} {a b:α} (h:l.toList=[a,b]):l=#[a,b]:=by
 apply Array.ext'
 simpa using h
theorem ze6 {α:Type} {l:Array α} {a:α} (h:l.toList=[a]):l=#[a]:=by
 apply Array.ext'
 simpa using h
theorem Ne6 {pr : List Nat} {so : SP} {ds : List Deferred} (hC : C2 E.P WB K J ρ0 H0 F0 w0 H ds w ρ F W' up) (hJ : Jb4 K J) (hv : VR ρ H F w a (ac.tmps.toList ++ up)) (hn : ac.tmps.size = n) (hG : GOk E F w)
  (hs:cSp E.P n pr o=some so) (he:(kb8 E a H so).run=some (x,H')):i6 E.P o ac w (gb9 E.P WB K J ρ0 H0 F0 w0 ρ H F w up ds x H'):=by
 unfold cSp at hs
 split at hs
 ·rename_i t ho
  split at hs
  ·split at hs
   ·rename_i z hz
    injection hs with hs;subst hs
    exact Md5 hC hJ ho hz he
   ·injection hs with hs;subst hs;cases he
  ·cases hs
 ·rename_i t y ho
  split at hs
  ·injection hs with hs;subst hs
   obtain⟨h1,h2⟩:=ma9 he
   rw[h2] at he
   exact pe2 hC hJ hv hn hG ho h1 he
  ·cases hs
 ·rename_i t y ho
  split at hs
  ·rename_i p hp
   injection hs with hs;subst hs
   obtain⟨h1,h2⟩:=ma9 he
   rw[h2] at he
   rw[Bool.and_eq_true] at h1
   rw[hb5 hp] at ho
   exact Wd7 hC hv hn hG ho h1.1 (fun e=>by rw[e] at h1;cases h1.2) he
  ·cases hs
 ·rename_i t y z ho
  split at hs
  ·rename_i p hp
   injection hs with hs;subst hs
   obtain⟨h1,h2⟩:=ma9 he
   rw[h2] at he
   rw[Bool.and_eq_true,Bool.and_eq_true] at h1
   rw[hb5 hp] at ho
   exact Md6 hC hJ hv hn hG ho h1.1.1 h1.1.2 (Pb5 h1.2) he
  ·cases hs
 ·rename_i st y f ho
  split at hs
  ·rename_i p hp
   split at hs
   ·rename_i fs hu
    split at hs
    ·rename_i fd hf
     injection hs with hs;subst hs
     obtain⟨h1,h2⟩:=ma9 he
     rw[h2] at he
     rw[Bool.and_eq_true] at h1
     rw[hb5 hp] at ho
     exact pe4 hC hv hn hG ho h1.1 hu hf (Pb5 h1.2) he
    ·injection hs with hs;subst hs;cases he
   ·injection hs with hs;subst hs;cases he
  ·cases hs
 ·rename_i y ho
  split at hs
  ·rename_i p hp
   injection hs with hs;subst hs
   obtain⟨h1,h2⟩:=ma9 he
   rw[h2] at he
   rw[hb5 hp] at ho
   exact Wd8 hC hv hn hG (.inl ho) h1 he
  ·cases hs
 ·rename_i y ho
  split at hs
  ·rename_i p hp
   injection hs with hs;subst hs
   obtain⟨h1,h2⟩:=ma9 he
   rw[h2] at he
   rw[hb5 hp] at ho
   exact Wd8 hC hv hn hG (.inr ho) h1 he
  ·cases hs
 ·rename_i t ho
  split at hs
  ·rename_i q hq
   injection hs with hs;subst hs
   obtain⟨h1,h2,_,_⟩:=Xb7 hq
   exact Xd4 hC hJ ho h1 h2 he
  ·injection hs with hs;subst hs;cases he
 ·rename_i t m y ho
  split at hs
  ·rename_i q hq
   injection hs with hs;subst hs
   obtain⟨h1,h2,h3,h4⟩:=Xb7 hq
   obtain⟨k1,k2⟩:=ma9 he
   rw[k2] at he
   rw[Bool.and_eq_true,Bool.and_eq_true] at k1
   exact Xd5 hC hv hn hG ho k1.1.1 k1.1.2 h1 h3 h2 h4 k1.2 he
  ·injection hs with hs;subst hs;cases he
 ·rename_i t m y z ho
  split at hs
  ·rename_i q hq
   injection hs with hs;subst hs
   obtain⟨h1,h2,h3,h4⟩:=Xb7 hq
   obtain⟨k1,k2⟩:=ma9 he
   rw[k2] at he
   rw[Bool.and_eq_true,Bool.and_eq_true] at k1
   exact pe5 hC hJ hv hn hG ho k1.1.1 k1.1.2 k1.2 h1 h3 h2 h4 he
  ·injection hs with hs;subst hs;cases he
 ·rename_i c ho
  split at hs
  ·rename_i hcb
   split at hs
   ·split at hs
    ·rename_i y z t u hargs htys
     split at hs
     ·rename_i e hu
      injection hs with hs;subst hs
      obtain⟨k1,k2⟩:=ma9 he
      rw[k2] at he
      rw[Bool.and_eq_true,Nat.blt_eq] at k1
      have htu:=Nat.eq_of_beq_eq_true k1.2
      subst htu
      obtain⟨ti,hi,hi0,hi1⟩:=pc8 (Nat.ne_of_gt k1.1)
      refine Yd1 hC hJ (fun H1 h1=>?_) he
      exact tc2 (hv.arel hn) hC.hrel hG ho hcb (ze5 hargs) (ze5 htys) hu hi (by omega) h1
     ·injection hs with hs;subst hs;cases he
    ·injection hs with hs;subst hs;cases he
   ·cases hs
  ·rename_i hcb
   split at hs
   ·rename_i y t hargs htys
    split at hs
    ·rename_i e hu
     split at hs
     ·rename_i z hz
      injection hs with hs;subst hs
      obtain⟨k1,k2⟩:=ma9 he
      rw[k2] at he
      rw[Nat.blt_eq] at k1
      refine Yd1 hC hJ (fun H1 h1=>?_) he
      exact Nc8 (hv.arel hn) hC.hrel hG ho hcb (ze6 hargs) (ze6 htys) hu hz k1 h1
     ·injection hs with hs;subst hs;cases he
    ·injection hs with hs;subst hs;cases he
   ·injection hs with hs;subst hs;cases he
  ·cases hs
 ·cases hs
theorem VR.putA (hv:VR ρ H F w a (ac.tmps.toList++up)) (hn:ac.tmps.size=n) {dst:Option Nat} (hd:dOk n dst=true) {x':Value} (hx:XW ρ H F w x x'):VR ρ H F w (Ev.putA a dst x) ((ac.put dst x').tmps.toList++up):=by
 rw[Ab3]
 cases dst with
 | none=>exact hv
 | some d =>
  have hd:d < n:=by have:=hd;unfold dOk at this;rwa [Nat.blt_eq] at this
  have e:(ac.put (some d) x').tmps.toList++up=(ac.tmps.toList++up).set d x':=by
   rw[List.set_append_left _ _ (by rw[Array.length_toList];omega)]
   simp[Act.put]
  rw[e]
  refine⟨by simp only[List.length_set];exact hv.1,fun i y y' hy hy'=>?_⟩
  rw[List.getElem?_set] at hy hy'
  by_cases hi:d=i
  ·subst hi
   have hl:d < (ac.tmps.toList++up).length:=by rw[List.length_append,Array.length_toList];omega
   rw[if_pos rfl,if_pos (hv.1 ▸ hl)] at hy
   rw[if_pos rfl,if_pos hl] at hy'
   injection hy with hy;injection hy' with hy'
   subst hy hy'
   exact hx
  ·rw[if_neg hi] at hy hy'
   exact hv.2 i y y' hy hy'
theorem VR.tr {vs:List Value} {ρ':Rho} {F':Fz} (hv:VR ρ H F w a vs) (ht:Tr ρ H F w ρ' H' F' w'):VR ρ' H' F' w' a vs:=⟨hv.1,fun i x x' hx hx'=>ht _ _ (hv.2 i x x' hx hx')⟩
theorem VR.at (hv:VR ρ H F w a (ac.tmps.toList++up)) (hn:ac.tmps.size=n) {t:Nat} (ht:t < n):∃ x',ac.tmps[t]?=some x'∧XW ρ H F w (c8 E a (.t t)) x':=by
 have hl:=hv.1
 have hsz:ac.tmps.toList.length=ac.tmps.size:=Array.length_toList
 rw[List.length_append] at hl
 have h1:t < a.length:=by omega
 have h2:t < ac.tmps.size:=by omega
 refine⟨ac.tmps[t],by simp[h2],?_⟩
 rw[Ia4,List.getElem?_eq_getElem h1]
 refine hv.2 t _ _ (List.getElem?_eq_getElem h1) ?_
 rw[List.getElem?_append_left (by rw[Array.length_toList];exact h2)]
 simp[h2]
theorem Fb2 {ops : Array Oper} {g : Option (Nat × Bool)} {d : St → DT St} (hg : Q9 ops o = some g) (hgn : gOk n g = true) (hv : VR ρ H F w s.a (ac.tmps.toList ++ up)) (hn : ac.tmps.size = n) (he : (pc4 E s o.dst g d).run = some s') :
  (Region.wanted o (yielded ops ac.tmps)=true∧(d s).run=some s')∨(Region.wanted o (yielded ops ac.tmps)=false∧s'=⟨putA s.a o.dst (.v (.tuple #[])),s.H⟩):=by
 unfold Q9 at hg
 unfold Region.wanted
 cases hgo:o.guard with
 | none =>
  simp only[hgo] at hg ⊢
  injection hg with hg
  subst hg
  exact .inl ⟨trivial,he⟩
 | some jw =>
  obtain⟨j,want⟩:=jw
  simp only[hgo] at hg ⊢
  cases hj:ops[j]? with
  | none=>simp[hj] at hg
  | some oj =>
  simp only[hj] at hg
  cases hd:oj.dst with
  | none=>simp[hd] at hg
  | some dd =>
  simp only[hd] at hg
  injection hg with hg
  subst hg
  have hdn:dd < n:=by have:=hgn;unfold gOk at this;rwa [Nat.blt_eq] at this
  obtain⟨u',hu1,hu2⟩:=hv.at (E:=E) hn hdn
  have he':(match c8 E s.a (.t dd) with
   | .v (.bool b) => Bool.rec (motive := fun _ => DT St)
     (.ite b (.ret ⟨putA (setAt s.a dd (.v (.bool true))) o.dst (.v (.tuple #[])),s.H⟩) (d ⟨setAt s.a dd (.v (.bool false)),s.H⟩))
     (.ite b (d ⟨setAt s.a dd (.v (.bool true)),s.H⟩) (.ret ⟨putA (setAt s.a dd (.v (.bool false))) o.dst (.v (.tuple #[])),s.H⟩)) want
   | .v (.tuple _)=>.ret ⟨putA s.a o.dst (.v (.tuple #[])),s.H⟩
   | _=>.fail).run=some s':=he
  have hset:∀ b,c8 E s.a (.t dd)=.v (.bool b)→setAt s.a dd (.v (.bool b))=s.a:=fun b h=>gd8 (E:=E) (by simp) h
  revert he' hu2 hset
  generalize c8 E s.a (.t dd)=u
  intro hu2 he' hset
  split at he'
  ·rename_i b
   have hb:=Md7 hu2
   subst hb
   rw[lb5 hj hd hu1]
   have hs:=hset b rfl
   cases want<;>cases b
   ·rw[hs] at he';exact .inl ⟨rfl,he'⟩
   ·refine .inr ⟨rfl,?_⟩
    rw[hs] at he'
    exact (Option.some.inj he').symm
   ·refine .inr ⟨rfl,?_⟩
    rw[hs] at he'
    exact (Option.some.inj he').symm
   ·rw[hs] at he';exact .inl ⟨rfl,he'⟩
  ·rename_i vs
   have hb:=Md7 hu2
   subst hb
   rw[db2 hj hd hu1]
   exact .inr ⟨rfl,(Option.some.inj he').symm⟩
  ·cases he'
theorem xc1 {a a':Array Value} {dd:List Nat} (h:∀ p∈S,pb9 a p.2→a[p.1]?=some rv) (hs:∀ t,¬ t∈dd→a'[t]?=a[t]?):∀ p∈rmL S dd,pb9 a' p.2→a'[p.1]?=some rv:=by
 intro p hp hg
 simp only[rmL,List.mem_filter,Bool.and_eq_true] at hp
 obtain⟨h1,h2,h3⟩:=hp
 rw[hs p.1 (by simpa using h2)]
 refine h p h1 ?_
 obtain⟨t,g⟩:=p
 cases g with
 | none=>trivial
 | some q =>
  obtain⟨d,b⟩:=q
  have h3:¬ d∈dd:=by simpa using h3
  exact (hs d h3).symm.trans hg
theorem Ua8 {dst:Option Nat} {v:Value} (h:∀ p∈S,pb9 ac.tmps p.2→ac.tmps[p.1]?=some rv):∀ p∈rmD S dst,pb9 (ac.put dst v).tmps p.2→(ac.put dst v).tmps[p.1]?=some rv:=by
 cases dst with
 | none=>exact h
 | some d=>exact xc1 h fun t ht=>Pb2 fun e=>by injection e with e;subst e;simp at ht
theorem xd7 {tmps:Array Value} {g g':Option (Nat×Bool)} (h:Xd8 g g'=true) (hg:pb9 tmps g'):pb9 tmps g:=by
 cases g with
 | none=>trivial
 | some q =>
  obtain⟨d,b⟩:=q
  cases g' with
  | none=>cases h
  | some q' =>
   obtain⟨d',b'⟩:=q'
   simp only[Xd8,Bool.and_eq_true,beq_iff_eq] at h
   have h1:=Nat.eq_of_beq_eq_true h.1
   obtain⟨_,h2⟩:=h
   subst h1 h2
   exact hg
theorem Xb8 {tmps:Array Value} {t:Nat} {g:Option (Nat×Bool)} (h:∀ p∈S,pb9 tmps p.2→tmps[p.1]?=some rv) (hs:Xd9 S t g=true) (hg:pb9 tmps g):tmps[t]?=some rv:=by
 simp only[Xd9,List.any_eq_true,Bool.and_eq_true] at hs
 obtain⟨p,h1,h2,h3⟩:=hs
 have:=h p h1 (xd7 h3 hg)
 rwa [Nat.eq_of_beq_eq_true h2] at this
theorem vb6 {ops:Array Oper} {o:Oper} {g:Option (Nat×Bool)} {tmps:Array Value} (hg:Q9 ops o=some g):Region.wanted o (yielded ops tmps)=true↔pb9 tmps g:=by
 unfold Q9 at hg
 unfold Region.wanted
 cases hgo:o.guard with
 | none =>
  simp only[hgo] at hg ⊢
  injection hg with hg
  subst hg
  exact⟨fun _=>trivial,fun _=>trivial⟩
 | some jw =>
  obtain⟨j,want⟩:=jw
  simp only[hgo] at hg ⊢
  cases hj:ops[j]? with
  | none=>simp[hj] at hg
  | some oj =>
  simp only[hj] at hg
  cases hd:oj.dst with
  | none=>simp[hd] at hg
  | some d =>
  simp only[hd] at hg
  injection hg with hg
  subst hg
  simp only[yielded,hj,Option.bind_some,hd,pb9]
  cases tmps[d]? with
  | none=>simp
  | some v=>cases v<;>simp
theorem Fe6 {Fe : Fence} {m i : Nat} {pr : List Nat} {so : SP} {g : Option (Nat × Bool)} {ops : Array Oper} {rest : List Nat} {Q : Exit → Act → World → Prop} (hF : FW Fe) (hG0 : GOk E F0 w0) (hJ : Jb4 K J) (hi : ops[i]? = some o)
  (hs:cSp E.P n pr o=some so) (hg:Q9 ops o=some g) (hgn:gOk n g=true) (hdn:dOk n o.dst=true) (hI:I3 E.P WB K J n S rv DF ρ0 H0 F0 w0 s ac w) (he:(td9 E s o.dst g so).run=some s')
  (hQ:∀ ac' w',I3 E.P WB K J n (rmD S o.dst) rv DF ρ0 H0 F0 w0 s' ac' w'→wpOpsIn Fe m E.P ops Q rest ac' w'):wpOpsIn Fe m E.P ops Q (i::rest) ac w:=by
 obtain⟨⟨ρ,F,W',up,hI2⟩,hheld,hdf⟩:=hI
 simp only[wpOpsIn,hi]
 rcases Fb2 hg hgn hI2.vals hI2.size he with⟨hw,he⟩ | ⟨hw,rfl⟩
 ·rw[if_pos hw]
  obtain⟨⟨x,H'⟩,h1,h2⟩:=DT.run_bind_some he
  have h2:some (⟨putA s.a o.dst x,H'⟩:St)=some s':=h2
  injection h2 with h2
  subst h2
  have hop:=Ne6 (ac:={ ac with defers:=[] }) (ds:=ac.defers) hI2.core hJ hI2.vals hI2.size (hG0.adv hI2.core.adv) hs h1
  refine hop.inAny hF m _ _ fun x' w' hp=>?_
  obtain⟨ρ',F',W'',c1,c2,c3⟩:=hp
  exact hQ _ _ ⟨⟨ρ',F',W'',up,by rw[r8];exact c1,(hI2.vals.tr c2).putA hI2.size hdn c3,(ja1 _ _).trans hI2.size⟩,Ua8 hheld,by rw[r8];exact hdf⟩
 ·rw[if_neg (by simp[hw])]
  refine⟨fun f _=>hF.fn f,hQ _ _ ⟨⟨ρ,F,W',up,by rw[r8];exact hI2.core,hI2.vals.putA hI2.size hdn (.w (.ofv _)),(ja1 _ _).trans hI2.size⟩,Ua8 hheld,by rw[r8];exact hdf⟩⟩
theorem Yd2 {Fe : Fence} {m i d k : Nat} {g : Option (Nat × Bool)} {ops : Array Oper} {rest : List Nat} {Q : Exit → Act → World → Prop} {xx : f0} (hF : FW Fe) (hG0 : GOk E F0 w0) (hcalls : ∀ f, i4 E.P E.G f (E.call f)) (hJ : Jb4 K J) (hi : ops[i]? = some o)
  (hc:xc0 ops S o=some (d,g)) (hdn:d < n) (hI:I3 E.P WB K J n S rv DF ρ0 H0 F0 w0 s ac w) (he:(J7 E k (.mask n [d] (.ops [⟨some d,none,[],.mv (.c .unk)⟩])) s).run=some (xx,s'))
  (hQ:xx=.normal→∀ ac' w',I3 E.P WB K J n ((d,g)::rmL S [d]) rv DF ρ0 H0 F0 w0 s' ac' w'→wpOpsIn Fe m E.P ops Q rest ac' w'):wpOpsIn Fe m E.P ops Q (i::rest) ac w:=by
 obtain⟨⟨ρ,F,W',up,hI2⟩,hheld,hdf⟩:=hI
 unfold xc0 at hc
 split at hc
 case h_2=>cases hc
 rename_i t d' ho hd
 split at hc
 case h_2=>cases hc
 rename_i g' hg
 split at hc
 case isFalse=>cases hc
 rename_i hS
 injection hc with hc
 injection hc with e1 e2
 subst e1 e2
 simp only[wpOpsIn,hi]
 have he':((J7 E k (.ops [⟨some d',none,[],.mv (.c .unk)⟩]) ⟨r7 (ba4 s.H) (H6 s.a n),n7 s.H⟩).bind fun r=>.guard (Mb3 s.H r.2.H) (.ret (r.1,⟨ia3 [d'] s.a r.2.a 0,v8 s.H r.2.H⟩))).run=some (xx,s'):=he
 obtain⟨⟨x1,s1⟩,h1,h2⟩:=DT.run_bind_some he'
 obtain⟨hok,h2⟩:=DT.run_guard_some h2
 have h1:some (f0.normal,(⟨putA (r7 (ba4 s.H) (H6 s.a n)) (some d') .unk,n7 s.H⟩:St))=some (x1,s1):=h1
 injection h1 with h1;injection h1 with e1 e2;subst e1 e2
 have h2:some (f0.normal,(⟨ia3 [d'] s.a (putA (r7 (ba4 s.H) (H6 s.a n)) (some d') .unk) 0,v8 s.H (n7 s.H)⟩:St))=some (xx,s'):=h2
 injection h2 with h2;injection h2 with e1 e2;subst e1 e2
 obtain⟨c1,c2⟩:=hI2.core.step hJ .refl hok hI2.core.hrel
 have hvr:∀ v,VR (ρsp s.H ρ ρ) (v8 s.H (n7 s.H)) F w (ia3 [d'] s.a (putA (r7 (ba4 s.H) (H6 s.a n)) (some d') .unk) 0) ((ac.put o.dst v).tmps.toList++up):=fun v=>by
  refine⟨by rw[vb2];have:=hI2.vals.1;rw[List.length_append,Array.length_toList] at this ⊢;rw[ja1];exact this,fun i y y' hy hy'=>?_⟩
  rw[vb1] at hy
  cases hz:s.a[i]? with
  | none=>rw[hz] at hy;cases hy
  | some z =>
   rw[hz] at hy
   injection hy with hy
   rw[Nat.zero_add] at hy
   by_cases hid:i=d'
   ·subst hid
    have hm:Ka4 i [i]=true:=(wc9 _ _).2 (by simp)
    rw[hm] at hy
    have hy:((putA (r7 (ba4 s.H) (H6 s.a n)) (some i) .unk)[i]?).getD .unk=y:=hy
    rw[Ab3] at hy
    simp only[List.getElem?_set] at hy
    have:y=.unk:=by
     rw[← hy]
     simp only[if_true]
     split<;>rfl
    subst this
    exact .w (.unk _)
   ·have hm : Ka4 i [d'] = false := by
     cases h:Ka4 i [d'] with
     | false=>rfl
     | true=>exact absurd (by simpa using (wc9 _ _).1 h) hid
    rw[hm] at hy
    have hy:z=y:=hy
    subst hy
    refine c2 _ _ (hI2.vals.2 i z y' hz ?_)
    rw[hd] at hy'
    simpa [Act.put,List.getElem?_append,Array.getElem?_setIfInBounds_ne,Ne.symm hid] using hy'
 have hfin:∀ v,(Region.wanted o (yielded ops ac.tmps)=true→v=rv)→(Region.wanted o (yielded ops ac.tmps)=false→v=undef)→wpOpsIn Fe m E.P ops Q rest (ac.put o.dst v) w:=fun v hv1 hv2=>by
  refine hQ rfl _ _ ⟨⟨_,F,W',up,by rw[r8];exact c1,hvr v,(ja1 _ _).trans hI2.size⟩,fun p hp hgp=>?_,by rw[r8];exact hdf⟩
  have hlt:d' < ac.tmps.size:=Nat.lt_of_lt_of_eq hdn hI2.size.symm
  have hset:(ac.put (some d') v).tmps[d']?=some v:=by
   show (ac.tmps.setIfInBounds d' v)[d']?=some v
   exact Array.getElem?_setIfInBounds_self_of_lt hlt
  rcases List.mem_cons.1 hp with rfl | hp
  ·cases hw:Region.wanted o (yielded ops ac.tmps) with
   | true=>rw[hd,← hv1 hw];exact hset
   | false =>
    exfalso
    have hng:¬ pb9 ac.tmps g':=fun h=>by rw[(vb6 hg).2 h] at hw;cases hw
    cases g' with
    | none=>exact hng trivial
    | some q =>
     obtain⟨dg,b⟩:=q
     have hgq:(ac.put o.dst v).tmps[dg]?=some (.bool b):=hgp
     by_cases he:dg=d'
     ·subst he
      rw[hd,hset,hv2 hw] at hgq
      injection hgq with hgq
      cases hgq
     ·rw[Pb2 (fun e=>he (by rw[hd] at e;injection e with e;exact e.symm))] at hgq
      exact hng hgq
  ·have:=Ua8 (dst:=some d') (v:=v) hheld p hp
   rw[hd] at hgp ⊢
   exact this hgp
 by_cases hw:Region.wanted o (yielded ops ac.tmps)=true
 ·rw[if_pos hw]
  have ht:=Xb8 hheld hS ((vb6 hg).1 hw)
  have hop:i6 E.P o { ac with defers:=[] } w (fun v w'=>v=rv∧w'=w):=by
   have hev:({ ac with defers:=[] }:Act).eval (.tmp t)=rv:=by
    show ac.tmps.getD t undef=rv
    have hlt:=(Array.getElem?_eq_some_iff.1 ht).1
    have:=(Array.getElem?_eq_some_iff.1 ht).2
    simp[Array.getD,hlt,this]
   exact .value (x':=rv) (w':=w) (by simp[execOp,ho,hev]) ⟨rfl,rfl⟩
  refine hop.inAny hF m _ _ fun v w' hp=>?_
  obtain⟨rfl,rfl⟩:=hp
  exact hfin _ (fun _=>rfl) fun h=>by rw[hw] at h;cases h
 ·rw[if_neg hw]
  exact⟨fun f _=>hF.fn f,hfin _ (fun h=>absurd h hw) fun _=>rfl⟩
end
end Go.Ev
namespace Go.Ev
open Go
section
variable {P:Program} {k:Nat} {WB K:Nat→Prop} {J:List Value→World→Prop} {DF:List Deferred→Prop} {S:HL} {rv:Value} {ρ ρ0:Rho} {H H0 H2:List b9} {F F0:Fz} {w w0:World} {W':Nat→Prop} {up:List Value} {E:Env} {R:List Nat} {n:Nat}
noncomputable def Yd3 (H:List b9) (x:b7) (r:List Nat):List Nat:=match x with
 | .ptr id _ _ g=>match blkAt H id g with
  | some _=>(pa2 r id).2
  | none=>r
 | .sl id _ _ g=>match blkAt H id g with
  | some _=>(pa2 r id).2
  | none=>r
 | _=>r
theorem Yd4 (H:List b9) (x:b7) (r:List Nat) (hr:TOk k r):TOk k (Yd3 H x r)∧TLe r (Yd3 H x r):=by
 have step:∀ id,TOk k (pa2 r id).2∧TLe r (pa2 r id).2:=fun id=>by
  obtain⟨h1,h2,_⟩:=hr.idx (id:=id) (j:=(pa2 r id).1) (r:=(pa2 r id).2) rfl
  exact⟨h1,h2⟩
 unfold Yd3
 split
 ·split
  ·exact step _
  ·exact⟨hr,.refl _⟩
 ·split
  ·exact step _
  ·exact⟨hr,.refl _⟩
 ·exact⟨hr,.refl _⟩
theorem kd0 (H:List b9):∀ (cs:List b7) (r:List Nat),TOk k r→TOk k (Cd7 H cs r)∧TLe r (Cd7 H cs r)
 | [],r,hr=>⟨hr,.refl _⟩
 | x::cs,r,hr=>by
  have hx:=Yd4 H x r hr
  obtain⟨h1,h2⟩:=kd0 H cs _ hx.1
  exact⟨h1,hx.2.trans h2⟩
noncomputable def Yd5 (H:List b9) (id:Nat) (r:List Nat):List Nat:=match nth H id with
 | some b=>match B9 b&&Nat.beq b.et 0 with
  | true=>Cd7 H (i7 b.elems 0) r
  | false=>r
 | none=>r
theorem Yd6 (H:List b9) (id:Nat) (r:List Nat) (hr:TOk k r):TOk k (Yd5 H id r)∧TLe r (Yd5 H id r):=by
 unfold Yd5
 split
 ·split
  ·exact kd0 H _ r hr
  ·exact⟨hr,.refl _⟩
 ·exact⟨hr,.refl _⟩
theorem kd1 (H:List b9):∀ (ids:List Nat) (r:List Nat),TOk k r→TOk k (Nc0 H ids r)∧TLe r (Nc0 H ids r)
 | [],r,hr=>⟨hr,.refl _⟩
 | id::ids,r,hr=>by
  have hx:=Yd6 H id r hr
  obtain⟨h1,h2⟩:=kd1 H ids _ hx.1
  exact⟨h1,hx.2.trans h2⟩
noncomputable def Fd1 (b:b9):b9:=Bool.rec (motive:=fun _=>b9) b { b with dead:=true } (B9 b)
theorem Xb9 (H:List b9):n7 H=H.map Fd1:=Ua4 H
theorem mb9:∀ {R:List Nat} {j:Nat} {H2:List b9},ua0 k H j R=some H2→ua0 k (n7 H) j R=some (n7 H2)
 | [],j,H2,h=>by
  simp only[ua0] at h ⊢
  injection h with h
  subst h
  rfl
 | id::R,j,H2,h=>by
  simp only[ua0,w9] at h ⊢
  cases hb:H[id]? with
  | none=>simp[hb] at h
  | some b =>
  simp only[hb] at h
  cases hr:ua0 k H (j+1) R with
  | none=>simp[hr] at h
  | some l =>
  simp only[hr] at h
  injection h with h
  subst h
  have e:(n7 H)[id]?=some (Fd1 b):=by rw[Xb9,List.getElem?_map,hb];rfl
  rw[e,mb9 hr]
  simp only[Xb9,List.map_cons]
  congr 2
  unfold Fd1
  cases Nat.blt j k<;>cases hs:B9 b<;>simp[B9] at hs ⊢<;>simp[hs]
theorem pe6 (x:b7):TC k H R x (Td8 k H R x):=by
 unfold Td8
 split
 ·rename_i id i c g
  split
  ·rename_i b hb
   split
   ·rename_i j hj
    have:=(Pa4 R 0 id j hj).2
    exact .ptr id i c g j b hb (by simpa using this)
   ·exact .unk _
  ·exact .unk _
 ·rename_i id off n g
  split
  ·rename_i b hb
   split
   ·rename_i j hj
    have:=(Pa4 R 0 id j hj).2
    exact .sl id off n g j b hb (by simpa using this)
   ·exact .unk _
  ·exact .unk _
 ·rename_i h1 h2
  refine .same x ?_
  cases x<;>first | exact trivial | (exact (h1 _ _ _ _ rfl).elim) | (exact (h2 _ _ _ _ rfl).elim)
theorem qc2 {x z:b7} {x':Value} (h:TC k H R x z) (hx:X0 ρ (n7 H) F w x x'):TC k (n7 H) R x z:=by
 cases h with
 | unk=>exact .unk _
 | ptr id i c g j b hb hj =>
  obtain⟨hb1,hd1,hg1⟩:=s8 hb
  obtain⟨ad,b2,e,m1,m2,m3,m4⟩:=ra9 (.val (.cell hx))
  obtain⟨n1,n2⟩:=ha3 m1 m2
  have:b2=b:=Option.some.inj (n1.symm.trans hb1)
  subst this
  exact .ptr id i c g j b2 (by unfold blkAt;simp only[w9,m1,m2,hg1];simp) hj
 | sl id off n g j b hb hj =>
  obtain⟨hb1,hd1,hg1⟩:=s8 hb
  obtain⟨ad,cap,b2,e,m1,m2,m3,_⟩:=ta6 (.val (.cell hx))
  obtain⟨n1,n2⟩:=ha3 m1 m2
  have:b2=b:=Option.some.inj (n1.symm.trans hb1)
  subst this
  exact .sl id off n g j b2 (by unfold blkAt;simp only[w9,m1,m2,hg1];simp) hj
 | same x h=>exact .same x h
theorem Fd2 {x z:b7} {x':Value} (h:TV k H R x z) (hx:Y0 ρ (n7 H) F w x x'):TV k (n7 H) R x z:=by
 cases h with
 | cell hb h =>
  cases hx with
  | cell hx=>exact .cell hb (qc2 h hx)
  | _=>cases hb
 | agg cs ds hl h =>
  obtain⟨vs,e,hl2,h2⟩:=oa8 (.val hx)
  refine .agg cs ds hl fun i x z hx hz=>?_
  have hi:i < vs.size:=hl2 ▸ (List.getElem?_eq_some_iff.1 hx).1
  exact qc2 (h i x z hx hz) (h2 i x _ hx (Array.getElem?_eq_getElem hi))
 | fn f cs ds hl h =>
  obtain⟨vs,e,hl2,h2⟩:=lb3 (.val hx)
  refine .fn f cs ds hl fun i x z hx hz=>?_
  have hi:i < vs.size:=hl2 ▸ (List.getElem?_eq_some_iff.1 hx).1
  exact qc2 (h i x z hx hz) (h2 i x _ hx (Array.getElem?_eq_getElem hi))
 | tup l=>exact .tup l
theorem pe7 {x z:b7} {x':Value} (h:TW k H R x z) (hx:z8 ρ (n7 H) F w x x'):TW k (n7 H) R x z:=by
 cases h with
 | val hn h =>
  cases hx with
  | val hx=>exact .val hn (Fd2 h hx)
  | tup cs vs hl h2=>exact absurd rfl (hn cs)
 | tup cs ds hl h =>
  obtain⟨vs,e,hl2,h2⟩:=Vc4 hx
  refine .tup cs ds hl fun i x z hx hz=>?_
  have hi:i < vs.size:=hl2 ▸ (List.getElem?_eq_some_iff.1 hx).1
  exact Fd2 (h i x z hx hz) (h2 i x _ hx (Array.getElem?_eq_getElem hi))
theorem Qc0 {b:b9} (h:B9 b=false):Aa7 k H R b=b:=by unfold Aa7;rw[h];rfl
theorem nb0 (b:b9):(Aa7 k H R b).et=b.et∧(Aa7 k H R b).es=b.es∧(Aa7 k H R b).dead=b.dead∧(Aa7 k H R b).g=b.g∧(Aa7 k H R b).elems.length=b.elems.length∧B9 (Aa7 k H R b)=B9 b:=by
 unfold Aa7
 cases B9 b&&Nat.beq b.et 0
 ·exact⟨rfl,rfl,rfl,rfl,rfl,rfl⟩
 ·refine⟨rfl,rfl,rfl,rfl,by simp[o1],rfl⟩
section
variable (hR:TOk k R) (hb:ua0 k H 0 R=some H2)
include hR hb
theorem Xc5 {j:Nat} {c:b9} (hc:(r7 (Aa7 k H R) H2)[j]?=some c):∃ id b,R[j]?=some id∧(R[j]?).getD 0=id∧H[id]?=some b∧c=Aa7 k H R (reG k j b):=by
 rw[o1,List.getElem?_map] at hc
 cases h:H2[j]? with
 | none=>rw[h] at hc;cases hc
 | some c2 =>
  rw[h] at hc
  injection hc with hc
  obtain⟨id,b,h1,h2,h3,h4⟩:=Nb7 hb h
  exact⟨id,b,h1,h2,h3,by rw[← hc,h4]⟩
theorem Yd7 {j id:Nat} {b:b9} (hj:R[j]?=some id) (hid:H[id]?=some b):(r7 (Aa7 k H R) H2)[j]?=some (Aa7 k H R (reG k j b)):=by
 obtain⟨_,hat⟩:=tb6 hb
 obtain⟨b',h1,h2⟩:=hat j id hj
 have:b'=b:=Option.some.inj (h1.symm.trans hid)
 subst this
 rw[Nat.zero_add] at h2
 rw[o1,List.getElem?_map,h2]
 rfl
theorem xc2 (j:Nat) (b:b9):B9 (reG k j b)=B9 b:=by unfold B9;rw[Ta6]
theorem Qc1:vc7 (fun j=>ρ ((R[j]?).getD 0)) (n7 H2) (fun j=>ρ ((R[j]?).getD 0)) (n7 (r7 (Aa7 k H R) H2)):=fun j b hb' hd=>by
 obtain⟨h1,h2⟩:=ha3 hb' hd
 refine⟨b,ea0 ?_ h2,hd,Nat.le_refl _,fun _=>⟨rfl,rfl,Nat.le_refl _⟩⟩
 rw[o1,List.getElem?_map,h1]
 simp[Qc0 h2]
theorem Ne7 {x z:b7} {x':Value} (h:TC k H R x z) (hx:X0 ρ (n7 H) F w x x'):X0 (fun j=>ρ ((R[j]?).getD 0)) (n7 (r7 (Aa7 k H R) H2)) F w z x' :=
 (Ab2 (mb9 hb) (qc2 h hx) hx).carry (Qc1 hR hb) (fun _ _ h=>h) (fun _ _ _=>rfl)
theorem ze7 {x z:b7} {x':Value} (h:TW k H R x z) (hx:z8 ρ (n7 H) F w x x'):z8 (fun j=>ρ ((R[j]?).getD 0)) (n7 (r7 (Aa7 k H R) H2)) F w z x' :=
 (Wc3 (mb9 hb) (pe7 h hx) hx).carry (Qc1 hR hb) (fun _ _ h=>h) (fun _ _ _=>rfl)
theorem xd8 {x z:b7} {x':Value} (h:TC k H R x z) (hx:XC ρ H F w x x'):XW (fun j=>ρ ((R[j]?).getD 0)) (r7 (Aa7 k H R) H2) F w z x'∧(XC (fun j=>ρ ((R[j]?).getD 0)) (r7 (Aa7 k H R) H2) F w z x'):=by
 have main:XC (fun j=>ρ ((R[j]?).getD 0)) (r7 (Aa7 k H R) H2) F w z x':=by
  cases hx with
  | n hx=>exact .n (Ne7 hR hb h hx)
  | box id c g b hb1 hd he =>
   cases h with
   | unk=>exact .n (.unk _)
   | ptr _ _ _ _ j b2 hb2 hj =>
    have e:ρ id=(fun j=>ρ ((R[j]?).getD 0)) j:=by simp[hj]
    rw[e]
    obtain⟨q1,q2,q3,q4,q5,q6⟩:=nb0 (k:=k) (H:=H) (R:=R) (reG k j b)
    exact .box j c _ _ (Yd7 hR hb hj hb1) (by rw[q3,ua1];exact hd) ⟨by rw[q2,Ta6];exact he.1,by rw[q1,Ib6];exact he.2⟩
   | same _ hs=>exact hs.elim
  | map id c g b t hb1 hd he =>
   cases h with
   | unk=>exact .n (.unk _)
   | ptr _ _ _ _ j b2 hb2 hj =>
    have e:ρ id=(fun j=>ρ ((R[j]?).getD 0)) j:=by simp[hj]
    rw[e]
    obtain⟨q1,q2,q3,q4,q5,q6⟩:=nb0 (k:=k) (H:=H) (R:=R) (reG k j b)
    exact .map j c _ _ t (Yd7 hR hb hj hb1) (by rw[q3,ua1];exact hd) ⟨by rw[q2,Ta6];exact he.1,by rw[q1,Ib6];exact he.2⟩
   | same _ hs=>exact hs.elim
 exact⟨.c main,main⟩
theorem Fe7 {x z:b7} {x':Value} (h:TW k H R x z) (hx:XW ρ H F w x x'):XW (fun j=>ρ ((R[j]?).getD 0)) (r7 (Aa7 k H R) H2) F w z x':=by
 cases hx with
 | w hx=>exact .w (ze7 hR hb h hx)
 | c hx =>
  have hx0:=hx
  cases hx with
  | n hx=>exact .w (ze7 hR hb h (.val (.cell hx)))
  | box =>
   cases h with
   | val _ h=>cases h with
    | cell _ h=>exact (xd8 hR hb h hx0).1
  | map =>
   cases h with
   | val _ h=>cases h with
    | cell _ h=>exact (xd8 hR hb h hx0).1
theorem Yd8 (h:Wd1 P WB W' ρ H F w):Wd1 P WB W' (fun j=>ρ ((R[j]?).getD 0)) (r7 (Aa7 k H R) H2) F w:=by
 refine⟨fun j c hc hs hd=>?_,fun j j' c c' hc hc' hs hs' hd hd' hne=>?_⟩
 ·obtain⟨id,b,h1,h2,h3,h4⟩:=Xc5 hR hb hc
  subst h4
  obtain⟨q1,q2,q3,q4,q5,q6⟩:=nb0 (k:=k) (H:=H) (R:=R) (reG k j b)
  rw[q6,xc2 hR hb] at hs
  rw[q3,ua1] at hd
  obtain⟨k1,k2,k3,k4,k5⟩:=h.has id b h3 hs hd
  simp only[h2]
  refine⟨k1,k2,k3,k4,?_⟩
  rcases k5 with⟨e,row,vs,t,m1,m2,m3,m4⟩ | ⟨t,K,El,fl,es,clk,m1,m2,m3,m4,m5,m6⟩
  ·refine .inl ⟨⟨by rw[q2,Ta6];exact e.1,by rw[q1,Ib6];exact e.2⟩,row.map (Td8 k H R),vs,t,?_,m2,by simpa using m3,fun i z x' hz hx'=>?_⟩
   ·unfold Aa7
    have:(B9 (reG k j b)&&Nat.beq (reG k j b).et 0)=true:=by rw[xc2 hR hb,hs,Ib6,e.2];rfl
    rw[this]
    show r7 (r7 (Td8 k H R)) (reG k j b).elems=_
    rw[za4,m1,o1]
    simp[o1]
   ·rw[List.getElem?_map] at hz
    cases hq:row[i]? with
    | none=>rw[hq] at hz;cases hz
    | some q =>
     rw[hq] at hz
     injection hz with hz
     subst hz
     obtain⟨g1,g2⟩:=m4 i q x' hq hx'
     exact⟨g1,(xd8 hR hb (pe6 q) g2).2⟩
  ·have hnb : Aa7 k H R (reG k j b) = reG k j b := by
    unfold Aa7
    have:(B9 (reG k j b)&&Nat.beq (reG k j b).et 0)=false:=by
     rw[Ib6,m1.2,Bool.and_eq_false_iff];exact .inr rfl
    rw[this]
   rw[hnb]
   exact .inr ⟨t,K,El,fl,es,clk,⟨by rw[Ta6];exact m1.1,by rw[Ib6];exact m1.2⟩,m2,m3,m4,by rw[za4];exact m5,by rw[za4];exact m6⟩
 ·obtain⟨id,b,h1,h2,h3,h4⟩:=Xc5 hR hb hc
  obtain⟨id',b',h1',h2',h3',h4'⟩:=Xc5 hR hb hc'
  subst h4 h4'
  obtain⟨_,_,q3,_,_,q6⟩:=nb0 (k:=k) (H:=H) (R:=R) (reG k j b)
  obtain⟨_,_,q3',_,_,q6'⟩:=nb0 (k:=k) (H:=H) (R:=R) (reG k j' b')
  rw[q6,xc2 hR hb] at hs
  rw[q6',xc2 hR hb] at hs'
  rw[q3,ua1] at hd
  rw[q3',ua1] at hd'
  simp only[h2,h2']
  refine h.apart id id' b b' h3 h3' hs hs' hd hd' fun e=>hne ?_
  subst e
  obtain⟨a1,a2⟩:=List.getElem?_eq_some_iff.1 h1
  obtain⟨b1,b2⟩:=List.getElem?_eq_some_iff.1 h1'
  exact (List.getElem_inj hR.nodup).1 (a2.trans b2.symm)
end
theorem Fe8 {ds:List Deferred} (hR:TOk H0.length R) (hb:ua0 H0.length H 0 R=some H2) (h:C2 P WB K J ρ0 H0 F0 w0 H ds w ρ F W' up):C2 P WB K J ρ0 H0 F0 w0 (r7 (Aa7 H0.length H R) H2) ds w (fun j=>ρ ((R[j]?).getD 0)) F W' up:=by
 have hAd:=Nb8 hR hb h.adv
 have hat:∀ (j:Nat) c,H2[j]?=some c→(r7 (Aa7 H0.length H R) H2)[j]?=some (Aa7 H0.length H R c):=fun j c hc=>by rw[o1,List.getElem?_map,hc];rfl
 refine⟨h.sub,⟨hAd.ext,fun id b hid=>?_,hAd.more,hAd.new,fun id b' hb' hn=>?_⟩,?_,Yd8 hR hb h.srel,h.kept,fun j c hc hs hd=>?_,h.jot,h.marks⟩
 ·obtain⟨b',k1,k2,k3,k4⟩:=hAd.heap id b hid
  obtain⟨q1,q2,q3,q4,q5,q6⟩:=nb0 (k:=H0.length) (H:=H) (R:=R) b'
  exact⟨_,hat id b' k1,q3.trans k2,by rw[q4];exact k3,fun hg=>by rw[q2,q5];exact k4 (q4 ▸ hg)⟩
 ·rw[o1,List.getElem?_map] at hb'
  cases hq:H2[id]? with
  | none=>rw[hq] at hb';cases hb'
  | some c =>
   rw[hq] at hb'
   injection hb' with hb'
   subst hb'
   obtain⟨_,_,_,q4,_,_⟩:=nb0 (k:=H0.length) (H:=H) (R:=R) c
   exact hAd.fresh id c hq fun b hb1=>by rw[← q4];exact hn b hb1
 ·refine (Ab1 hR h.hrel (mb9 hb)).pull (fun i=>i) (fun i b hb1 hd=>?_) (fun _ _ _ _ _ _ _ _ e=>e)
  obtain⟨h1,h2⟩:=ha3 hb1 hd
  rw[o1,List.getElem?_map] at h1
  cases hq:H2[i]? with
  | none=>rw[hq] at h1;cases h1
  | some c =>
   rw[hq] at h1
   injection h1 with h1
   have hsc:B9 c=false:=by
    obtain⟨_,_,_,_,_,q6⟩:=nb0 (k:=H0.length) (H:=H) (R:=R) c
    rw[← q6,h1];exact h2
   rw[Qc0 hsc] at h1
   subst h1
   exact⟨ea0 hq hsc,rfl⟩
 ·obtain⟨id,b,h1,h2,h3,h4⟩:=Xc5 hR hb hc
  subst h4
  obtain⟨_,_,q3,_,_,q6⟩:=nb0 (k:=H0.length) (H:=H) (R:=R) (reG H0.length j b)
  rw[q6,xc2 hR hb] at hs
  rw[q3,ua1] at hd
  simp only[h2]
  exact h.far id b h3 hs hd
theorem I3.tidyM {s s':St} {ac:Act} {keep:List Nat} (h:I3 P WB K J n S rv DF ρ0 H0 F0 w0 s ac w) (he:(Ev.tidyM H0.length ⟨K0 keep s.a 0,s.H⟩).run=some s'):I3 P WB K J n S rv DF ρ0 H0 F0 w0 s' ac w:=by
 obtain⟨⟨ρ,F,W',up,hI⟩,hheld,hdf⟩:=h
 unfold Ev.tidyM at he
 cases ht:Mb2 H0.length s.H (K0 keep s.a 0) (List.range H0.length) with
 | mk a roots =>
 simp only[ht] at he
 cases hb:ua0 H0.length s.H 0 (Nc0 s.H roots roots) with
 | none=>simp[hb] at he
 | some H2 =>
 simp only[hb] at he
 have he':some (⟨a,r7 (Aa7 H0.length s.H (Nc0 s.H roots roots)) H2⟩:St)=some s':=he
 injection he' with he'
 subst he'
 obtain⟨k1,_,k3,k4⟩:=uc1 (TOk.start _) ht
 obtain⟨m1,m2⟩:=kd1 s.H roots roots k1
 obtain⟨g1,g2⟩:=tb7 keep s.a 0
 refine⟨⟨_,F,W',up,Fe8 m1 hb hI.core,⟨(k3.trans g1).trans hI.vals.1,fun i x x' hx hx'=>?_⟩,hI.size⟩,hheld,hdf⟩
 have hi:i < (K0 keep s.a 0).length:=k3 ▸ (List.getElem?_eq_some_iff.1 hx).1
 have hk:=k4 i _ x (List.getElem?_eq_getElem hi) hx
 refine Fe7 m1 hb (hk.le m2) ?_
 rcases g2 i _ (List.getElem?_eq_getElem hi) with e | e
 ·rw[e];exact .w (.unk _)
 ·exact hI.vals.2 i _ x' e hx'
end
end Go.Ev
namespace Go.Ev
open Go
section
variable {DS:Nat→Prop} {tm:Array Value} {ds:List Deferred} {Fe:Fence} {nn:Nat}
variable {W:Nat→Prop} {ρ0:Rho} {H0:List b9} {F0:Fz} {w0 w:World}
variable {tr:Nat} {E:Env} {ops:Array Oper} {M:List Nat} {ks:List (Nat×PI)} {s:St} {U T:Nat→St}
structure vb7 (DS:Nat→Prop) (tm:Array Value) (ds:List Deferred) (W:Nat→Prop) (ρ0:Rho) (H0:List b9) (F0:Fz) (w0:World) (tr:Nat) (E:Env) (ops:Array Oper) (a0:List b7) (U T:Nat→St) (m:Nat) (listed:Array Bool) (ac:Act) (w:World):Prop where
 size:listed.size=ops.size
 closed:∀ j,j < ops.size→L8 listed j→∀ i∈X1 (ia0 ops j),L8 listed i
 hm:m≤ops.size
 heavy:∀ j,j < ops.size→B5 tr E.P ops j=2→(L8 listed j↔j < m)
 inv:mb6 DS tm ds W ρ0 H0 F0 w0 ⟨ia9 (T ops.size).a a0 (u9 ops listed),D5 (T m).H (m0 tr E.P ops U listed)⟩ ac w
variable (hD:DC tr E.P ops M ks) (hT:Hc8 E ops ks s U T) (hin:∀ j,j < ops.size→B5 tr E.P ops j=0→∀ d,Q6 ops j=some d→d < s.a.length)
include hD
theorem ya6 {m:Nat} {listed:Array Bool} {ac:Act} (hR:vb7 DS tm ds W ρ0 H0 F0 w0 tr E ops s.a U T m listed ac w) {j:Nat} (hj:j < ops.size) (hd:∀ i∈X1 (ia0 ops j),L8 listed i) {i:Nat} (hi:i < ops.size) (hb:l6 M i j=true):L8 listed i :=
 ub2 hD.rows (L8 listed) (fun j' o ho hx i hi=>by
  have hj':=(Array.getElem?_eq_some_iff.1 ho).1
  have:o=ia0 ops j':=Option.some.inj (ho.symm.trans (U6 hj'))
  subst this
  exact hR.closed j' hj' hx i hi) j _ (U6 hj) hd i hi hb
include hT
theorem xc3 {m : Nat} {listed : Array Bool} {ac : Act} (hR : vb7 DS tm ds W ρ0 H0 F0 w0 tr E ops s.a U T m listed ac w) {j : Nat} (hj : j < ops.size) (hnx : ¬ L8 listed j) (hd : ∀ i ∈ X1 (ia0 ops j), L8 listed i) :
  Agr (T j).a (ia9 (T ops.size).a s.a (u9 ops listed)) (sb9 (rb4 ops j)++Pa3 (ia1 tr E.P ops j)):=fun t ht=>by
 have huniq:∀ {i i':Nat},i < ops.size→i' < ops.size→Q6 ops i=some t→Q6 ops i'=some t→i=i':=fun {i i'} h1 h2 e1 e2=>((hD.slots h1 h2 e1).2).resolve_right fun h=>h e2
 have hend:(∀ i,j≤i→i < ops.size→Q6 ops i≠some t)→(T j).a[t]?=(T ops.size).a[t]?:=fun h=>by
  have:=db4 hD hT (t:=t) (ops.size - j) j (by omega) fun i h1 h2 _=>h i h1 (by omega)
  rw[show j+(ops.size - j)=ops.size by omega] at this
  exact this.symm
 by_cases hw:∃ i,i < ops.size∧Q6 ops i=some t
 ·obtain⟨i,hi,hdi⟩:=hw
  rcases (hD.slots hi hj hdi).1 ht with hb | ⟨_,hna,hb⟩
  ·have hxi:=ya6 hD hR hj hd hi hb
   rw[ma7]
   ·refine hend fun k h1 h2 he=>?_
    have:=huniq hi h2 hdi he
    have:=sa2 hD hj hi hb
    omega
   ·rintro⟨k,h1,h2,h3⟩
    have:=huniq hi h1 hdi h2
    subst this
    exact h3 hxi
  ·have hxi : ¬ L8 listed i := fun hx => by
    rcases hb with hb | hb
    ·exact hnx (ya6 hD hR hi (hR.closed i hi hx) hj hb)
    ·subst hb;exact hnx hx
   have hji:j≤i:=by
    rcases hb with hb | hb
    ·have:=sa2 hD hi hj hb;omega
    ·omega
   have h1:=db4 hD hT (t:=t) j 0 (by omega) fun k _ h2 _ he=>by
    have:=huniq hi (by omega) hdi he
    omega
   have h2:=Xb1 hD hT (t:=t) ops.size 0 (by omega) fun k _ h2 hk he=>by
    have:=huniq hi (by omega) hdi he
    subst this
    have:=Ob2 hk
    rw[hna] at this
    cases this
   rw[Nat.zero_add] at h1 h2
   rw[h1,hT.t0,h2,hT.u0]
   rcases Nat.lt_or_ge t (T ops.size).a.length with hlt | hge
   ·rw[gb7 ⟨i,hi,hdi,hxi⟩ hlt]
    rw[(ua2 hD hT ops.size (Nat.le_refl _)).2] at hlt
    rw[List.getElem?_eq_getElem hlt]
    rfl
   ·rw[List.getElem?_eq_none (by rw[← (ua2 hD hT ops.size (Nat.le_refl _)).2];exact hge),List.getElem?_eq_none (by rw[ma6];exact hge)]
 ·rw[ma7]
  ·exact hend fun k _ h2 he=>hw ⟨k,h2,he⟩
  ·rintro⟨k,h1,h2,_⟩
   exact hw ⟨k,h1,h2⟩
end
section
variable {DS:Nat→Prop} {tm:Array Value} {ds:List Deferred} {Fe:Fence} {nn:Nat}
variable {W:Nat→Prop} {ρ0:Rho} {H0:List b9} {F0:Fz} {w0 w:World}
variable {tr:Nat} {E:Env} {ops:Array Oper} {M:List Nat} {ks:List (Nat×PI)} {s:St} {U T:Nat→St}
variable (hD:DC tr E.P ops M ks) (hT:Hc8 E ops ks s U T) (hin:∀ j,j < ops.size→B5 tr E.P ops j=0→∀ d,Q6 ops j=some d→d < s.a.length)
variable (hpairs:wa1 E (T ops.size).a (ra8 ops.size M ks)=true)
variable (hF:FW Fe) (hDS:∀ j d,j < ops.size→Q6 ops j=some d→DS d)
variable (hG0:GOk E F0 w0) (hcalls:∀ f,i4 E.P E.G f (E.call f))
include hD
theorem vb7.next {m m' : Nat} {listed : Array Bool} {ac ac' : Act} {w' : World} (hR : vb7 DS tm ds W ρ0 H0 F0 w0 tr E ops s.a U T m listed ac w) {i : Nat} (hi : i < ops.size) (hdi : ∀ j ∈ X1 (ia0 ops i), L8 listed j)
  (hm':m'≤ops.size) (hheavy:∀ j,j < ops.size→B5 tr E.P ops j=2→(L8 (listed.setIfInBounds i true) j↔j < m'))
  {x:b7} (hx:∀ d,Q6 ops i=some d→d < (T ops.size).a.length→(T ops.size).a[d]?=some x)
  (hI:mb6 DS tm ds W ρ0 H0 F0 w0 ⟨putA (ia9 (T ops.size).a s.a (u9 ops listed)) (Q6 ops i) x,D5 (T m').H (m0 tr E.P ops U (listed.setIfInBounds i true))⟩ ac' w') :
  vb7 DS tm ds W ρ0 H0 F0 w0 tr E ops s.a U T m' (listed.setIfInBounds i true) ac' w':=by
 refine⟨by simpa using hR.size,fun j hj hx k hk=>?_,hm',hheavy,by rw[Pc1 hD hR.size hi hx];exact hI⟩
 have his:i < listed.size:=by rw[hR.size];exact hi
 rcases (ba5 his).1 hx with h | h
 ·exact (ba5 his).2 (.inl (hR.closed j hj h k hk))
 ·subst h;exact (ba5 his).2 (.inl (hdi k hk))
omit hD in
theorem mb6.puts {ac:Act} {j:Nat} (hDS:∀ j d,j < ops.size→Q6 ops j=some d→DS d) (hj:j < ops.size) (hsm:∀ t,¬ DS t→ac.tmps[t]?=tm[t]?) (v:Value) (t:Nat) (ht:¬ DS t):(ac.put (Q6 ops j) v).tmps[t]?=tm[t]?:=(Pb2 fun e=>ht (hDS j t hj e)).trans (hsm t ht)
include hG0 hcalls hF hDS in
theorem Yb0 {ac : Act} {i : Nat} {a : List b7} {H H' : List b9} {b : Bool} {x : b7} {Q : Exit → Act → World → Prop} {K : Act → World → Prop} (hi : i < ops.size)
  (hI:mb6 DS tm ds W ρ0 H0 F0 w0 ⟨a,H⟩ ac w) (hg:Ob1 E a (rb4 ops i)=some b)
  (h1:b=true→(evalOp E a H (ia1 tr E.P ops i)).run=some (x,H')) (h2:b=false→x=.v (.tuple #[])∧H'=H)
  (hK:∀ ac' w',mb6 DS tm ds W ρ0 H0 F0 w0 ⟨putA a (Q6 ops i) x,H'⟩ ac' w'→K ac' w'):wpOpIn Fe nn E.P ops Q i K ac w:=by
 obtain⟨hd,hsz,hsm,ρ,F,hAdv,hH,hA⟩:=hI
 have hw:=gc3 (hD.guard i hi) hA hg
 unfold wpOpIn
 simp only[U6 hi,hw]
 cases b with
 | true =>
  rw[if_pos rfl]
  refine (Oc4 (ac:={ ac with defers:=[] }) tr hA hH (hG0.adv hAdv) hcalls (h1 rfl)).inAny hF nn _ _ fun x' w' hp=>?_
  obtain⟨ρ',F',a1,a2,a3⟩:=hp
  exact hK _ _ ⟨(r8 _ _).trans hd,(ja1 _ _).trans hsz,mb6.puts hDS hi hsm _,ρ',F',hAdv.trans a1,a2,(hA.adv a1).putA _ a3⟩
 | false =>
  rw[if_neg (by simp)]
  obtain⟨e1,e2⟩:=h2 rfl
  subst e1 e2
  exact⟨fun f _=>hF.fn f,hK _ _ ⟨(r8 _ _).trans hd,(ja1 _ _).trans hsz,mb6.puts hDS hi hsm _,ρ,F,hAdv,hH,hA.putA _ (.ofv _)⟩⟩
include hT hin hpairs hG0 hcalls hF hDS
theorem kd2 {m : Nat} {listed : Array Bool} {ac : Act} (hR : vb7 DS tm ds W ρ0 H0 F0 w0 tr E ops s.a U T m listed ac w) {i : Nat} (hi : i < ops.size) (hk : B5 tr E.P ops i = 1) (hnx : ¬ L8 listed i) (hdi : ∀ j ∈ X1 (ia0 ops i), L8 listed j)
  {Q:Exit→Act→World→Prop} {K:Act→World→Prop} (hK:∀ ac' w',vb7 DS tm ds W ρ0 H0 F0 w0 tr E ops s.a U T m (listed.setIfInBounds i true) ac' w'→K ac' w'):wpOpIn Fe nn E.P ops Q i K ac w:=by
 obtain⟨b,x,g1,g2,g3,g4⟩:=Ob7 hD hT hi hk
 have hread:=xc3 hD hT hR hi hnx hdi
 have hne:B5 tr E.P ops i≠0:=by omega
 refine Yb0 hD hF hDS hG0 hcalls (H':=D5 (T m).H (m0 tr E.P ops U listed)) hi hR.inv ((Fa9 hread.left).symm.trans g1) (fun hb=>?_) (fun hb=>⟨g4 hb,rfl⟩) fun ac' w' hI'=>hK ac' w' ?_
 ·have he:=g3 hb
  rw[Pa7 _ hread.right] at he
  refine (lb7 (vc1 hk) he).2 _ fun id hid=>?_
  -- the block that is looked at stands in the heap at hand
  have hlive:∃ b',(D5 (T m).H (m0 tr E.P ops U listed))[id]?=some b'∧b'.dead=false:=by
   obtain⟨hd0,_,_,ρ,F,hAdv,hH,hA⟩:=hR.inv
   have harg:∀ (y:Arg),Mb8 y=true→id∈U5 (c8 E (ia9 (T ops.size).a s.a (u9 ops listed)) y)→∃ b',(D5 (T m).H (m0 tr E.P ops U listed))[id]?=some b'∧b'.dead=false:=fun y hy hm=>by
    cases y with
    | c z =>
     exfalso
     have hm':id∈U5 z:=hm
     cases z<;>first | (cases hm';done) | (cases hy;done)
    | g n =>
     exfalso
     have hm':id∈U5 (.tptr (r7 .v (E.G n))):=hm
     cases hm'
    | t n =>
     rw[Ia4] at hm
     cases hn:(ia9 (T ops.size).a s.a (u9 ops listed))[n]? with
     | none=>rw[hn] at hm;cases hm
     | some u =>
     rw[hn] at hm
     simp only[Option.getD_some] at hm
     have hlt:n < ac.tmps.size:=hA.1 ▸ (List.getElem?_eq_some_iff.1 hn).1
     have hW:=hA.2 n u _ hn (Array.getElem?_eq_getElem hlt)
     cases u with
     | ptr id' i c g =>
      have:id=id':=by simpa [U5] using hm
      subst this
      obtain⟨_,b',_,h1,h2,_⟩:=ra9 hW
      exact⟨b',h1,h2⟩
     | sl id' off n g =>
      have:id=id':=by simpa [U5] using hm
      subst this
      obtain⟨_,_,b',_,h1,h2,_⟩:=ta6 hW
      exact⟨b',h1,h2⟩
     | _=>cases hm
   have hbare:=hD.bare hi
   revert hbare hid
   generalize ia1 tr E.P ops i=q
   intro hid hbare
   cases q with
   | load ks n agg y=>exact harg y hbare hid
   | idxS es y z=>exact harg y hbare hid
   | slice es y lo hi=>exact harg y hbare hid
   | _=>cases hid
  obtain⟨b',hb1,hb2⟩:=hlive
  obtain⟨hnD,hb3⟩:=uc6 hb1 hb2
  have huse:id∈ta5 E (T ops.size).a (ia1 tr E.P ops i):=by
   rw[← hd7 hD hT hi,mb0 hread.right];exact hid
  -- nobody between touches it
  have hbetween:∀ j,j < ops.size→B5 tr E.P ops j=2→l6 M i j=false→l6 M j i=false→id∉K8 E (T ops.size).a (ia1 tr E.P ops j):=fun j hj hkj h1 h2 =>
   Ib9 hpairs (hD.pair hj hi hk hkj h2 h1) id huse
  have hlike:K1 (T i).H (T m).H id:=by
   rcases Nat.lt_or_ge i m with him | him
   ·have := vc6 hD hT hin (id := id) (m - i) i (by have := hR.hm; omega) fun j h1 h2 hkj => by
     have hj:j < ops.size:=by have:=hR.hm;omega
     have hxj:=(hR.heavy j hj hkj).2 (by omega)
     refine hbetween j hj hkj ?_ ?_
     ·cases hc:l6 M i j with
      | false=>rfl
      | true=>exact absurd (ya6 hD hR hj (hR.closed j hj hxj) hi hc) hnx
     ·cases hc:l6 M j i with
      | false=>rfl
      | true=>have:=sa2 hD hi hj hc;omega
    rwa [show i+(m - i)=m by omega] at this
   ·have := vc6 hD hT hin (id := id) (i - m) m (by omega) fun j h1 h2 hkj => by
     have hj:j < ops.size:=by omega
     have hxj:¬ L8 listed j:=fun h=>by have:=(hR.heavy j hj hkj).1 h;omega
     refine hbetween j hj hkj ?_ ?_
     ·cases hc:l6 M i j with
      | false=>rfl
      | true=>have:=sa2 hD hj hi hc;omega
     ·cases hc:l6 M j i with
      | false=>rfl
      | true=>exact absurd (ya6 hD hR hi hdi hj hc) hxj
    rw[show m+(i - m)=i by omega] at this
    intro b0 hb0
    obtain⟨b2,h3,h4⟩:=this b' hb3
    have:b2=b0:=Option.some.inj (h3.symm.trans hb0)
    subst this
    exact⟨b',hb3,h4.1.symm,h4.2.1.symm,h4.2.2.1.symm,h4.2.2.2.1.symm,h4.2.2.2.2.symm⟩
  refine hlike.trans fun b0 hb0=>⟨b0,?_,.refl b0⟩
  rw[s7 hnD];exact hb0
 ·refine vb7.next hD hR hi hdi hR.hm (fun j hj hkj=>?_) (x:=x) (fun d hd hlt=>?_) ?_
  ·rw[ba5 (hR.size ▸ hi)]
   rw[← hR.heavy j hj hkj]
   exact⟨fun h=>h.resolve_right fun e=>by subst e;omega,.inl⟩
  ·rw[Dd3 hD hT hi hd,g2,hd]
   refine Ab7 ?_
   rw[(ua2 hD hT i (by omega)).2,← (ua2 hD hT ops.size (Nat.le_refl _)).2]
   exact hlt
  ·rw[Ab8 hR.size hi hne];exact hI'
omit hpairs in
theorem kd3 {m : Nat} {listed : Array Bool} {ac : Act} (hR : vb7 DS tm ds W ρ0 H0 F0 w0 tr E ops s.a U T m listed ac w) {i : Nat} (hi : i < ops.size) (hk : B5 tr E.P ops i = 2) (hnx : ¬ L8 listed i) (hdi : ∀ j ∈ X1 (ia0 ops i), L8 listed j)
  {Q:Exit→Act→World→Prop} {K:Act→World→Prop} (hK:∀ ac' w',vb7 DS tm ds W ρ0 H0 F0 w0 tr E ops s.a U T (i+1) (listed.setIfInBounds i true) ac' w'→K ac' w'):wpOpIn Fe nn E.P ops Q i K ac w:=by
 obtain⟨b,x,g1,g2,g3,g4⟩:=qc1 hD hT hin hi hk
 have hread:=xc3 hD hT hR hi hnx hdi
 have hne:B5 tr E.P ops i≠0:=by omega
 have hmi:m≤i:=by
  rcases Nat.lt_or_ge i m with h | h
  ·exact absurd ((hR.heavy i hi hk).2 h) hnx
  ·exact h
 have hno:∀ j,m≤j→j < i→B5 tr E.P ops j≠2:=fun j h1 h2 hkj=>by
  have hj:j < ops.size:=by omega
  have:=(hR.heavy j hj hkj).1 (ya6 hD hR hi hdi hj (hD.chain h2 hi hkj hk).1)
  omega
 have hsame:(T m).H=(T i).H:=by
  have:=vc4 hD hT (i - m) m (by omega) fun j h1 h2=>hno j h1 (by omega)
  rw[show m+(i - m)=i by omega] at this
  exact this.symm
 have hfin:∀ {H':List b9} {ac':Act} {w':World},H'=D5 (T (i+1)).H (m0 tr E.P ops U listed)→mb6 DS tm ds W ρ0 H0 F0 w0 ⟨putA (ia9 (T ops.size).a s.a (u9 ops listed)) (Q6 ops i) x,H'⟩ ac' w'→K ac' w':=fun {H' ac' w'} e hI'=>by
  refine hK ac' w' (vb7.next hD hR hi hdi (by omega) (fun j hj hkj=>?_) (x:=x) (fun d hd hlt=>?_) ?_)
  ·rw[ba5 (hR.size ▸ hi)]
   constructor
   ·rintro (h | h)
    ·have:=(hR.heavy j hj hkj).1 h;omega
    ·omega
   ·intro h
    by_cases e:j=i
    ·exact .inr e
    ·refine .inl ((hR.heavy j hj hkj).2 ?_)
     rcases Nat.lt_or_ge j m with h' | h'
     ·exact h'
     ·exact absurd hkj (hno j h' (by omega))
  ·rw[Dd3 hD hT hi hd,g2,hd]
   refine Ab7 ?_
   rw[(ua2 hD hT i (by omega)).2,← (ua2 hD hT ops.size (Nat.le_refl _)).2]
   exact hlt
  ·rw[Ab8 hR.size hi hne,← e];exact hI'
 cases b with
 | false =>
  obtain⟨h1,h2⟩:=g4 rfl
  exact Yb0 hD hF hDS hG0 hcalls (x:=x) (H':=D5 (T m).H (m0 tr E.P ops U listed)) hi hR.inv ((Fa9 hread.left).symm.trans g1) (fun h=>by cases h) (fun _=>⟨h1,rfl⟩) fun ac' w' hI'=>hfin (by rw[h2,hsame]) hI'
 | true =>
  obtain⟨hid,H',h5,h6,h7⟩:=g3 rfl
  rw[Pa7 _ hread.right] at h6
  have hall:∀ id∈hid,id < (T i).H.length:=fun id hid'=>by
   obtain⟨b',k1,k2,k3,rfl⟩:=(h5 id).1 hid'
   exact wd2 hD hT hin hi hk k1 k2 k3
  have hsub:∀ id,m0 tr E.P ops U listed id→id∈hid:=fun id ⟨b',k1,k2,k3,k4⟩=>by
   refine (h5 id).2 ⟨b',k1,k2,?_,k4⟩
   cases hc:l6 M b' i with
   | false=>rfl
   | true=>exact absurd (ya6 hD hR hi hdi k1 hc) k3
  have hMono:D2 (·∈hid) (D5 (T i).H (·∈hid)) (D5 (T i).H (m0 tr E.P ops U listed)) (D5 (T i).H (·∈hid)) (D5 (T i).H (m0 tr E.P ops U listed)):=by
   refine⟨by rw[ja0,ja0],fun id hn=>?_,fun id b hm hb=>?_,fun _ _=>rfl,fun _ _=>rfl,fun id h=>by rw[ja0];exact hall id h⟩
   ·rw[s7 (D:=(·∈hid)) hn,s7 fun h=>hn (hsub id h)]
   ·rw[L7 (D:=(·∈hid)) hm] at hb
    simp only[Option.map_eq_some_iff] at hb
    obtain⟨c,_,rfl⟩:=hb
    rfl
  obtain⟨H2',h8,h9⟩:=hMono.evalOp (ub4 hk) h6
  refine Yb0 hD hF hDS hG0 hcalls (x:=x) (H':=H2') hi hR.inv ((Fa9 hread.left).symm.trans g1) (fun _=>by rw[hsame];exact h8) (fun h=>by cases h) fun ac' w' hI'=>hfin ?_ hI'
  refine List.ext_getElem? fun id=>?_
  rw[h7]
  by_cases hm:id∈hid
  ·rw[h9.at2 id hm]
   have hr:=Ab5 (H0:=(T i).H) (H:=H') hm (hall id hm) (h9.bound id hm)
   by_cases hd:m0 tr E.P ops U listed id
   ·rw[L7 hd,L7 hd,hr]
   ·rw[s7 hd,s7 hd,hr]
  ·rw[← h9.same id hm,s7 fun h=>hm (hsub id h),Ib8 hm]
end
end Go.Ev
namespace Go.Ev
open Go
section
variable {DS:Nat→Prop} {tm:Array Value} {ds:List Deferred} {Fe:Fence} {nn:Nat}
variable {W:Nat→Prop} {ρ0:Rho} {H0:List b9} {F0:Fz} {w0 w:World}
variable {tr:Nat} {E:Env} {ops:Array Oper} {M:List Nat} {ks:List (Nat×PI)} {s:St} {U T:Nat→St}
variable (hD:DC tr E.P ops M ks) (hT:Hc8 E ops ks s U T) (hin:∀ j,j < ops.size→B5 tr E.P ops j=0→∀ d,Q6 ops j=some d→d < s.a.length) (hlen:H0.length≤s.H.length)
variable (hF:FW Fe) (hDS:∀ j d,j < ops.size→Q6 ops j=some d→DS d)
include hD hT hin hlen
include hF hDS in
theorem kd4 {m : Nat} {listed : Array Bool} {ac : Act} (hR : vb7 DS tm ds W ρ0 H0 F0 w0 tr E ops s.a U T m listed ac w) {i : Nat} (hi : i < ops.size) (hk : B5 tr E.P ops i = 0) (hnx : ¬ L8 listed i) (hdi : ∀ j ∈ X1 (ia0 ops i), L8 listed j)
  {Q:Exit→Act→World→Prop} {K:Act→World→Prop} (hK:∀ ac' w',vb7 DS tm ds W ρ0 H0 F0 w0 tr E ops s.a U T m (listed.setIfInBounds i true) ac' w'→K ac' w'):wpOpIn Fe nn E.P ops Q i K ac w:=by
 obtain⟨t,z,d,ho,hgn,hz,hd,hU⟩:=Pa8 hD hT hi hk
 obtain⟨hd0,hsz,hsm,ρ,F,hAdv,hH,hA⟩:=hR.inv
 simp only at hAdv hH hA
 generalize hHS:D5 (T m).H (m0 tr E.P ops U listed)=HS at hAdv hH hA
 have hHSlen:HS.length=(T m).H.length:=by rw[← hHS,ja0]
 have his:i < listed.size:=by rw[hR.size];exact hi
 -- the block stands in the text's heap,asq it was made
 have hblk:(T m).H[(U i).H.length]?=some (S8 z):=by
  have h1:=vc5 hD hT hin hi hk m hR.hm fun h h1 h2=>by
   cases hc:l6 M i h with
   | false=>rfl
   | true =>
    have hh:h < ops.size:=by have:=hR.hm;omega
    exact absurd (ya6 hD hR hh (hR.closed h hh ((hR.heavy h hh h2).2 h1)) hi hc) hnx
  obtain⟨t',z',h2,h3,h4⟩:=Wc9 hD hT hi hk
  have:t'=t:=by rw[ho] at h2;injection h2 with h2;exact h2.symm
  subst this
  have:z'=z:=Option.some.inj (h3.symm.trans hz)
  subst this
  rw[h1,h4]
 have hidlt:(U i).H.length < HS.length:=by rw[hHSlen];exact (List.getElem?_eq_some_iff.1 hblk).1
 have hidge:s.H.length≤(U i).H.length:=(Xb2 hD hT (by omega)).1
 have hdead:m0 tr E.P ops U listed (U i).H.length:=⟨i,hi,hk,hnx,rfl⟩
 have hinj:∀ b,b < ops.size→B5 tr E.P ops b=0→(U i).H.length=(U b).H.length→b=i:=fun b hb hkb he=>by
  rcases Nat.lt_trichotomy b i with h | h | h
  ·have:=ne4 hD hT h (by omega) hkb;omega
  ·exact h
  ·have:=ne4 hD hT h (by omega) hk;omega
 have hdead':∀ id,m0 tr E.P ops U (listed.setIfInBounds i true) id↔m0 tr E.P ops U listed id∧id≠(U i).H.length:=fun id=>by
  constructor
  ·rintro⟨b,h1,h2,h3,h4⟩
   refine⟨⟨b,h1,h2,fun h=>h3 ((ba5 his).2 (.inl h)),h4⟩,fun e=>h3 ((ba5 his).2 (.inr ?_))⟩
   exact hinj b h1 h2 (e.symm.trans h4)
  ·rintro⟨⟨b,h1,h2,h3,h4⟩,h5⟩
   refine⟨b,h1,h2,fun h=>?_,h4⟩
   rcases (ba5 his).1 h with h | h
   ·exact h3 h
   ·subst h;exact h5 h4
 generalize hHS':D5 (T m).H (m0 tr E.P ops U (listed.setIfInBounds i true))=HS'
 have hoff:∀ id,id≠(U i).H.length→HS'[id]?=HS[id]?:=fun id hne=>by
  rw[← hHS',← hHS]
  by_cases h:m0 tr E.P ops U listed id
  ·rw[L7 h,L7 ((hdead' id).2 ⟨h,hne⟩)]
  ·rw[s7 h,s7 fun h'=>h ((hdead' id).1 h').1]
 have hon:HS'[(U i).H.length]?=some (S8 z):=by
  rw[← hHS',s7 fun h'=>((hdead' _).1 h').2 rfl]
  exact hblk
 have hHSdead:∀ b,HS[(U i).H.length]?=some b→b.dead=true:=fun b hb=>by
  rw[← hHS,L7 hdead] at hb
  simp only[Option.map_eq_some_iff] at hb
  obtain⟨c,_,rfl⟩:=hb
  rfl
 -- the operation
 have hev:(evalOp E (ia9 (T ops.size).a s.a (u9 ops listed)) HS (.alloc z)).run=some (.ptr HS.length 0 0 0,HS++[S8 z]):=by
  simp only[evalOp,DT.run_ret,l0,ia8,E5,S8]
 unfold wpOpIn
 have hw:Region.wanted (ia0 ops i) (yielded ops ac.tmps)=true:=by simp[Region.wanted,hgn]
 simp only[U6 hi,hw]
 rw[if_pos trivial]
 refine (tb2 (ac:={ ac with defers:=[] }) hH ho hz hev).inAny hF nn _ _ (fun x' w' hp=>hK _ _ (vb7.next hD hR hi hdi hR.hm (fun j hj hkj=>?_) (x:=.ptr (U i).H.length 0 0 0) (fun d' hd' hlt=>?_) ?_))
 ·rw[ba5 his,← hR.heavy j hj hkj]
  exact⟨fun h=>h.resolve_right fun e=>by subst e;omega,.inl⟩
 ·refine qc0 hD hT hi hk hd' ?_ (Nat.le_refl _)
  rw[← (ua2 hD hT ops.size (Nat.le_refl _)).2]
  exact hlt
 ·obtain⟨ρ',F',a1,a2,a3⟩:=hp
  rw[hHS']
  have hadv:=hAdv.trans a1
  let ρ2:Rho:=fun id=>if id=(U i).H.length then ρ' HS.length else ρ' id
  have hρ2:∀ id,id≠(U i).H.length→ρ2 id=ρ' id:=fun id h=>if_neg h
  have hρ2':ρ2 (U i).H.length=ρ' HS.length:=if_pos rfl
  have hold:∀ id b,HS'[id]?=some b→id≠(U i).H.length→(HS++[S8 z])[id]?=some b:=fun id b hb hne=>by
   rw[hoff id hne] at hb
   rw[List.getElem?_append_left (List.getElem?_eq_some_iff.1 hb).1]
   exact hb
  have hN:(HS++[S8 z])[HS.length]?=some (S8 z):=by simp
  refine⟨(r8 _ _).trans hd0,(ja1 _ _).trans hsz,mb6.puts hDS hi hsm _,ρ2,F',⟨hadv.ext,fun id b hb=>?_,hadv.more,hadv.new,fun id b' hb' hn=>?_⟩,?_,?_⟩
  ·have hidH:id < s.H.length:=by have:=(List.getElem?_eq_some_iff.1 hb).1;omega
   have hne:id≠(U i).H.length:=by omega
   obtain⟨b',h1,h2⟩:=hadv.heap id b hb
   rw[List.getElem?_append_left (by omega)] at h1
   refine⟨b',by rw[hoff id hne];exact h1,?_⟩
   rw[hρ2 id hne]
   exact h2
  ·by_cases he:id=(U i).H.length
   ·subst he
    rw[hρ2']
    exact hadv.fresh HS.length _ hN fun b hb=>by have:=(List.getElem?_eq_some_iff.1 hb).1;omega
   ·rw[hρ2 id he]
    exact hadv.fresh id b' (hold id b' hb' he) hn
  ·refine a2.pull (fun id=>if id=(U i).H.length then HS.length else id) (fun id b hb hdd=>?_) fun id id' b b' hb hdd hb' hdd' he=>?_
   ·by_cases e:id=(U i).H.length
    ·subst e
     simp only[if_true]
     have:b=S8 z:=Option.some.inj (hb.symm.trans hon)
     subst this
     exact⟨hN,hρ2'⟩
    ·simp only[if_neg e]
     exact⟨hold id b hb e,hρ2 id e⟩
   ·have hlt : ∀ id b, HS'[id]? = some b → id ≠ (U i).H.length → id < HS.length := fun id b hb hne => by
     rw[hoff id hne] at hb
     exact (List.getElem?_eq_some_iff.1 hb).1
    by_cases e:id=(U i).H.length
    ·by_cases e':id'=(U i).H.length
     ·rw[e,e']
     ·simp only[if_pos e,if_neg e'] at he
      have:=hlt id' b' hb' e'
      omega
    ·by_cases e':id'=(U i).H.length
     ·simp only[if_neg e,if_pos e'] at he
      have:=hlt id b hb e
      omega
     ·simpa only[if_neg e,if_neg e'] using he
  ·have hA2 : ja8 ρ2 HS' F' w' (ia9 (T ops.size).a s.a (u9 ops listed)) ac.tmps := by
    refine hA.carry (fun id b hb hdd=>?_) a1.more a1.ext.cells
    have hne:id≠(U i).H.length:=fun e=>by
     subst e
     rw[hHSdead b hb] at hdd
     cases hdd
    obtain⟨b',h1,h2,h3,h4⟩:=a1.heap id b hb
    rw[List.getElem?_append_left (List.getElem?_eq_some_iff.1 hb).1] at h1
    refine⟨b',by rw[hoff id hne];exact h1,h2.trans hdd,h3,fun hg=>?_⟩
    rw[hρ2 id hne]
    exact h4 hg
   have hW:z8 ρ2 HS' F' w' (.ptr (U i).H.length 0 0 0) x':=by
    obtain⟨ad,b,e,h1,h2,h3,h4⟩:=ra9 a3
    have:b=S8 z:=Option.some.inj (h1.symm.trans hN)
    subst this
    rw[e]
    refine .val (.cell (.ptr _ 0 0 0 ad _ hon rfl (Nat.le_refl _) fun _=>?_))
    rw[hρ2']
    exact h4 rfl
   exact hA2.putA (Q6 ops i) hW
omit hin in
theorem kd5 {ac : Act} (hI : mb6 DS tm ds W ρ0 H0 F0 w0 s ac w) :
  vb7 DS tm ds W ρ0 H0 F0 w0 tr E ops s.a U T 0 (Array.replicate ops.size false) ac { w with drawn:=w.drawn+1 }:=by
 have hnx:∀ j,j < ops.size→¬ L8 (Array.replicate ops.size false) j:=fun j hj h=>by
  unfold L8 at h
  simp[Array.getD,hj] at h
 obtain⟨hd0,hsz,hsm,ρ,F,hAdv,hH,hA⟩:=hI
 have hdead:∀ id,m0 tr E.P ops U (Array.replicate ops.size false) id→s.H.length≤id:=fun id ⟨b,h1,_,_,h4⟩=>by
  have:=(Xb2 hD hT (j:=b) (by omega)).1
  omega
 have hlow:∀ id,id < s.H.length→(D5 (T 0).H (m0 tr E.P ops U (Array.replicate ops.size false)))[id]?=s.H[id]?:=fun id hid=>by
  rw[s7 fun h=>by have:=hdead id h;omega,hT.t0]
  exact (Xb2 hD hT (Nat.le_refl _)).2 id hid
 have hhigh:∀ id b,(D5 (T 0).H (m0 tr E.P ops U (Array.replicate ops.size false)))[id]?=some b→s.H.length≤id→b.dead=true:=fun id b hb hge=>by
  have hlt:id < (T 0).H.length:=by
   have:=(List.getElem?_eq_some_iff.1 hb).1
   rwa [ja0] at this
  rw[hT.t0] at hlt
  obtain⟨j,h1,h2,h3⟩:=Dd4 hD hT ops.size (Nat.le_refl _) id hge hlt
  rw[L7 (show m0 tr E.P ops U (Array.replicate ops.size false) id from ⟨j,h1,h2,hnx j h1,h3⟩)] at hb
  simp only[Option.map_eq_some_iff] at hb
  obtain⟨c,_,rfl⟩:=hb
  rfl
 have hH':v7 W ρ s.H F { w with drawn:=w.drawn+1 }:=hH.same rfl
 have hAdv':Adv W ρ0 H0 F0 w0 ρ s.H F { w with drawn:=w.drawn+1 }:=hAdv.trans (.same rfl rfl rfl rfl (Nat.le_succ _))
 let ρ1:Rho:=fun id=>if id < s.H.length then ρ id else ⟨w.heap.size,0,0⟩
 have hρ1:∀ id,id < s.H.length→ρ1 id=ρ id:=fun id h=>if_pos h
 have hlive:∀ id b,(D5 (T 0).H (m0 tr E.P ops U (Array.replicate ops.size false)))[id]?=some b→b.dead=false→id < s.H.length:=fun id b hb hd=>by
  rcases Nat.lt_or_ge id s.H.length with h | h
  ·exact h
  ·rw[hhigh id b hb h] at hd;cases hd
 refine⟨by simp,fun j hj hx=>absurd hx (hnx j hj),Nat.zero_le _,fun j hj _=>⟨fun h=>absurd h (hnx j hj),fun h=>by omega⟩,hd0,hsz,hsm,ρ1,F,⟨hAdv'.ext,fun id b hb=>?_,hAdv'.more,hAdv'.new,fun id b hb hn=>?_⟩,?_,?_⟩
 ·have hid:id < s.H.length:=by have:=(List.getElem?_eq_some_iff.1 hb).1;omega
  obtain⟨b',h1,h2⟩:=hAdv'.heap id b hb
  refine⟨b',(hlow id hid).trans h1,?_⟩
  rw[hρ1 id hid]
  exact h2
 ·simp only at hb
  by_cases hid:id < s.H.length
  ·rw[hlow id hid] at hb
   rw[hρ1 id hid]
   exact hAdv'.fresh id b hb hn
  ·show W (if id < s.H.length then ρ id else ⟨w.heap.size,0,0⟩).blk
   rw[if_neg hid]
   exact hH.new _ (Nat.le_refl _)
 ·refine hH'.pull (fun id=>id) (fun id b hb hd=>?_) fun _ _ _ _ _ _ _ _ h=>h
  have hid:=hlive id b hb hd
  rw[← hlow id hid]
  exact⟨hb,hρ1 id hid⟩
 ·have hcarry : vc7 ρ s.H ρ1 (D5 (T 0).H (m0 tr E.P ops U (Array.replicate ops.size false))) := fun id b hb hd => by
   have hid:=(List.getElem?_eq_some_iff.1 hb).1
   exact⟨b,(hlow id hid).trans hb,hd,Nat.le_refl _,fun _=>⟨hρ1 id hid,rfl,Nat.le_refl _⟩⟩
  refine⟨by rw[ma6,(ua2 hD hT ops.size (Nat.le_refl _)).2];exact hA.1,fun t x x' hx hx'=>?_⟩
  simp only at hx
  by_cases ht:u9 ops (Array.replicate ops.size false) t
  ·have hlt : t < (T ops.size).a.length := by
    have:=(List.getElem?_eq_some_iff.1 hx).1
    rwa [ma6] at this
   rw[gb7 ht hlt] at hx
   injection hx with hx
   rw[(ua2 hD hT ops.size (Nat.le_refl _)).2] at hlt
   rw[List.getElem?_eq_getElem hlt,Option.getD_some] at hx
   exact z8.carry (w:=w) (w':={ w with drawn:=w.drawn+1 }) hcarry (fun _ _ h=>h) (fun _ _ _=>rfl) (hA.2 t x x' (by rw[← hx];exact List.getElem?_eq_getElem hlt) hx')
  ·rw[ma7 ht] at hx
   have hno:∀ j,j < ops.size→Q6 ops j≠some t:=fun j hj he=>ht ⟨j,hj,he,hnx j hj⟩
   have h1:=db4 hD hT (t:=t) ops.size 0 (by omega) fun j _ h2 _=>hno j (by omega)
   have h2:=Xb1 hD hT (t:=t) ops.size 0 (by omega) fun j _ h2 _=>hno j (by omega)
   rw[Nat.zero_add] at h1 h2
   rw[h1,hT.t0,h2,hT.u0] at hx
   exact z8.carry (w:=w) (w':={ w with drawn:=w.drawn+1 }) hcarry (fun _ _ h=>h) (fun _ _ _=>rfl) (hA.2 t x x' hx hx')
omit hin hlen in
theorem Qc2 {m:Nat} {listed:Array Bool} {ac:Act} (hR:vb7 DS tm ds W ρ0 H0 F0 w0 tr E ops s.a U T m listed ac w) (hall:∀ j,j < ops.size→L8 listed j):mb6 DS tm ds W ρ0 H0 F0 w0 (T ops.size) ac w:=by
 have h1:ia9 (T ops.size).a s.a (u9 ops listed)=(T ops.size).a:=uc7 fun t ⟨j,h1,_,h3⟩=>h3 (hall j h1)
 have h2:D5 (T m).H (m0 tr E.P ops U listed)=(T ops.size).H:=by
  rw[uc8 fun id ⟨b,h1,_,h3,_⟩=>h3 (hall b h1)]
  have:=vc4 hD hT (ops.size - m) m (by have:=hR.hm;omega) fun j h3 h4 hk=>by
   have hj:j < ops.size:=by have:=hR.hm;omega
   have:=(hR.heavy j hj hk).1 (hall j hj)
   omega
  rw[show m+(ops.size - m)=ops.size by have:=hR.hm;omega] at this
  exact this.symm
 have h3:=hR.inv
 rw[h1,h2] at h3
 exact h3
variable (hpairs:wa1 E (T ops.size).a (ra8 ops.size M ks)=true) (hG0:GOk E F0 w0) (hcalls:∀ f,i4 E.P E.G f (E.call f))
include hpairs hG0 hcalls hF hDS
theorem Bb3 {Q:Exit→Act→World→Prop} (hQ:∀ ac' w',mb6 DS tm ds W ρ0 H0 F0 w0 (T ops.size) ac' w'→Q .normal ac' w'):∀ (fuel m:Nat) (listed:Array Bool) (ac:Act) (w:World),vb7 DS tm ds W ρ0 H0 F0 w0 tr E ops s.a U T m listed ac w→ma8 listed≤fuel→wpAnyIn Fe nn E.P .any ops Q fuel listed ac w
 | 0,m,listed,ac,w,hR,hc=>by
  have hall:∀ j,L8 listed j:=ub6 (by omega)
  refine⟨?_,hQ _ _ (Qc2 hD hT hR fun j _=>hall j)⟩
  rw[List.eq_nil_iff_forall_not_mem]
  intro i hi
  exact (mb1 hi).2.1 (hall i)
 | fuel+1,m,listed,ac,w,hR,hc=>by
  refine⟨fun h=>hQ _ _ (Qc2 hD hT hR (Pc3 hD hR.size h)),fun i hi=>?_⟩
  obtain⟨h1,h2,h3⟩:=mb1 hi
  have hdi:∀ j∈X1 (ia0 ops i),L8 listed j:=fun j hj=>h3 hR.size j hj (by have:=Ab6 hD.rows (U6 h1) hj;omega)
  have hcount:ma8 (listed.setIfInBounds i true)≤fuel:=by
   have his:i < listed.size:=by rw[hR.size];exact h1
   have hf:listed.toList[i]?=some false:=by
    have:listed.getD i true=false:=by unfold L8 at h2;simpa using h2
    simp only[Array.getD,his,dite_true] at this
    rw[List.getElem?_eq_getElem (by simpa using his)]
    congr 1
   have:=db5 listed.toList i hf
   unfold ma8 at hc ⊢
   rw[Array.toList_setIfInBounds]
   omega
  rcases gb8 (tr:=tr) (P:=E.P) (ops:=ops) i with hk | hk | hk
  ·exact kd4 hD hT hin hlen hF hDS hR h1 hk h2 hdi fun ac' w' hR'=>Bb3 hQ fuel m _ ac' w' hR' hcount
  ·exact kd2 hD hT hin hpairs hF hDS hG0 hcalls hR h1 hk h2 hdi fun ac' w' hR'=>Bb3 hQ fuel m _ ac' w' hR' hcount
  ·exact kd3 hD hT hin hF hDS hG0 hcalls hR h1 hk h2 hdi fun ac' w' hR'=>Bb3 hQ fuel (i+1) _ ac' w' hR' hcount
end
end Go.Ev
namespace Go.Ev
open Go
section
variable {DS:Nat→Prop} {tm:Array Value} {ds:List Deferred} {Fe:Fence} {nn:Nat} {E:Env}
theorem pe8 (hF : FW Fe) (hm : E.P.follows .mixedOrders = true) (hcalls : ∀ f, i4 E.P E.G f (E.call f)) {W : Nat → Prop} {ρ0 : Rho} {H0 : List b9} {F0 : Fz} {w0 : World} {k : Nat} (hG0 : GOk E F0 w0)
  {id:Nat} {ops:Array Oper} {s:St} {x:f0} {s':St} (hDS:∀ j d,j < ops.size→Q6 ops j=some d→DS d) (hlen:H0.length≤s.H.length)
  (he:(J7 E k (Sa9 E.P ops) s).run=some (x,s')) {ac:Act} {w:World} {Q:Exit→Act→World→Prop} (hI:mb6 DS tm ds W ρ0 H0 F0 w0 s ac w)
  (hQ:∀ ac' w',mb6 DS tm ds W ρ0 H0 F0 w0 s' ac' w'→Q (toX x) ac' w'):(Code.region id ops true).wpIn Fe nn E.P Q ac w:=by
 have hdr:∃ dsts asq l ps,Sa9 E.P ops=.draw dsts asq l ps:=by
  unfold Sa9 at he ⊢
  have hT:∀ tr,(∃ a b c d,Sa8 tr E.P ops=.draw a b c d)∨Sa8 tr E.P ops=.bad:=fun tr=>by
   unfold Sa8
   simp only
   cases ud4 tr E.P ops (Region.before ops).toList 0 ops.toList with
   | none=>exact .inr rfl
   | some ks =>
    simp only[Vc2]
    split
    ·exact .inl ⟨_,_,_,_,rfl⟩
    ·exact .inr rfl
  revert he
  rcases hT 0 with⟨a,b,c,d,h0⟩ | h0<;>rw[h0]<;>intro he
  ·exact⟨_,_,_,_,rfl⟩
  ·revert he
   rcases hT 1 with⟨a,b,c,d,h1⟩ | h1<;>rw[h1]<;>intro he
   ·exact⟨_,_,_,_,rfl⟩
   ·revert he
    rcases hT 2 with⟨a,b,c,d,h2⟩ | h2<;>rw[h2]<;>intro he
    ·exact⟨_,_,_,_,rfl⟩
    ·cases he
 obtain⟨dsts,asq,l,ps,hc⟩:=hdr
 rw[hc] at he
 obtain⟨tr,M,ks,hD,rfl,rfl,rfl,rfl⟩:=hd6 hc
 have he' : ((H7 E ((List.range ops.size).filterMap (ab8 ks)) s).bind fun s => (H7 E ((List.range ops.size).filterMap (Eb5 ks)) s).bind fun s =>
   Bool.rec (motive:=fun _=>DT (f0×St)) .fail (Bool.rec (motive:=fun _=>DT (f0×St)) .fail (.ret (.normal,s)) (ab5 s.a ((List.range ops.size).filterMap (ab8 ks)))) (wa1 E s.a (ra8 ops.size M ks))).run=some (x,s'):=he
 obtain⟨s1,h1,h2⟩:=DT.run_bind_some he'
 obtain⟨s2,h3,h4⟩:=DT.run_bind_some h2
 obtain⟨U,u0,u1,u2⟩:=Ba0 _ _ _ _ h1
 obtain⟨T,t0,t1,t2⟩:=Ba0 _ _ _ _ h3
 have hT:Hc8 E ops ks s U T:=⟨u0,u2,t0.trans u1.symm,t2⟩
 cases hp:wa1 E s2.a (ra8 ops.size M ks) with
 | false=>rw[hp] at h4;cases h4
 | true =>
 rw[hp] at h4
 simp only at h4
 cases hs:ab5 s2.a ((List.range ops.size).filterMap (ab8 ks)) with
 | false=>rw[hs] at h4;cases h4
 | true =>
 rw[hs] at h4
 have h4':some (f0.normal,s2)=some (x,s'):=h4
 injection h4' with h4';injection h4' with e1 e2;subst e1 e2
 rw[← t1] at hp hs hQ
 have hin:∀ j,j < ops.size→B5 tr E.P ops j=0→∀ d,Q6 ops j=some d→d < s.a.length:=fun j hj hk d hd=>by
  rw[← (ua2 hD hT ops.size (Nat.le_refl _)).2]
  refine Jb0 hs (ub3 tr E.P ops M j) ?_ d hd
  rw[List.mem_filterMap]
  exact⟨j,List.mem_range.2 hj,(Wc5 hD hj hk).1⟩
 refine wpIn_region_any hm (Bb3 hD hT hin hlen hF hDS hp hG0 hcalls hQ ops.size 0 _ ac _ (kd5 hD hT hlen hI) ?_)
 unfold ma8
 simp
end
section
variable {P:Program} {WB K:Nat→Prop} {J:List Value→World→Prop} {ρ0:Rho} {H0:List b9} {F0:Fz} {w w0:World} {s:St} {ac:Act} {E:Env}
theorem Yd9 {Fe : Fence} {n m kk id : Nat} (hm : E.P.follows .mixedOrders = true) (hF : FW Fe) (hG0 : GOk E F0 w0) (hcalls : ∀ f, i4 E.P E.G f (E.call f)) (hJ : Jb4 K J) {ops : Array Oper} {Q : Exit → Act → World → Prop} {x : f0} {s' : St}
  (hI:Md4 E.P WB K J n ρ0 H0 F0 w0 s ac w) (he:(J7 E kk (.mask n (ops.toList.filterMap (·.dst)) (Sa9 E.P ops)) s).run=some (x,s'))
  (hQ:∀ ac' w',Md4 E.P WB K J n ρ0 H0 F0 w0 s' ac' w'→ac'.defers=ac.defers→(∀ t,¬ t∈ops.toList.filterMap (·.dst)→ac'.tmps[t]?=ac.tmps[t]?)→Q (toX x) ac' w'):(Code.region id ops true).wpIn Fe m E.P Q ac w:=by
 obtain⟨ρ,F,W',up,hI⟩:=hI
 have he':((J7 E kk (Sa9 E.P ops) ⟨r7 (ba4 s.H) (H6 s.a n),n7 s.H⟩).bind fun r=>.guard (Mb3 s.H r.2.H) (.ret (r.1,⟨ia3 (ops.toList.filterMap (·.dst)) s.a r.2.a 0,v8 s.H r.2.H⟩))).run=some (x,s'):=he
 obtain⟨⟨x1,s1⟩,h1,h2⟩:=DT.run_bind_some he'
 obtain⟨ho,h2⟩:=DT.run_guard_some h2
 have h2:some (x1,(⟨ia3 (ops.toList.filterMap (·.dst)) s.a s1.a 0,v8 s.H s1.H⟩:St))=some (x,s'):=h2
 injection h2 with h2;injection h2 with e1 e2;subst e1 e2
 have hG:GOk E F w:=hG0.adv hI.core.adv
 refine pe8 (DS:=(·∈ops.toList.filterMap (·.dst))) (tm:=ac.tmps) (ds:=ac.defers) (W:=W') (ρ0:=ρ) (H0:=n7 s.H) (F0:=F) (w0:=w) hF hm hcalls hG (fun j d hj hd=>?_) (Nat.le_refl _) h1 ⟨rfl,rfl,fun _ _=>rfl,ρ,F,.refl,hI.core.hrel,hI.arel⟩ fun ac' w' hM=>?_
 ·refine List.mem_filterMap.2 ⟨ia0 ops j,?_,hd⟩
  have:=U6 hj
  exact Array.mem_toList_iff.2 (Array.mem_of_getElem? this)
 ·obtain⟨k1,k2,k3⟩:=Pc7 hJ hI ho hM
  exact hQ ac' w' k1 k2 k3
end
end Go.Ev
namespace Go.Ev
open Go
section
variable {WB K:Nat→Prop} {J:List Value→World→Prop} {DF:List Deferred→Prop} {S S0:HL} {rv:Value} {ρ ρ0:Rho} {H H0 H':List b9} {F F0:Fz} {w w0 w':World} {W':Nat→Prop} {up:List Value} {E:Env} {n m:Nat} {Fe:Fence} {pr:List Nat} {yl:Option Rd} {kp:Nat→List Nat} {rf:Operand→Array Tmp→Code→Code→PC}
def YOk (E:Env) (Fe:Fence) (m n k:Nat) (rd:Rd) (I:HL→St→Act→World→Prop):Prop :=
 ∀ (ops:Array Oper) (i:Nat) (o:Oper) (S:HL) (args:List Operand) (g:Option (Nat×Bool)) (s s':St) (xx:f0) (ac:Act) (w:World) (rest:List Nat) (Q:Exit→Act→World→Prop),
  ops[i]?=some o→Pb3 ops S o=some args→Q9 ops o=some g→gOk n g=true→dOk n o.dst=true→args.all (ltO n)=true→args.length=rd.ps.length→I S s ac w →
  (J7 E k (.round o.dst g (args.map g9) n rd.nOut rd.ps rd.asq rd.body) s).run=some (xx,s')→(xx=.normal→∀ ac' w',I (rmD S o.dst) s' ac' w'→wpOpsIn Fe m E.P ops Q rest ac' w')→wpOpsIn Fe m E.P ops Q (i::rest) ac w
def Ne8 (E:Env) (Fe:Fence) (m k:Nat) (rf:Operand→Array Tmp→Code→Code→PC) (I:St→Act→World→Prop):Prop :=
 ∀ (g:Operand) (ps:Array Tmp) (asq body:Code) (s s':St) (x:f0) (ac:Act) (w:World) (Q:Exit→Act→World→Prop),(J7 E k (rf g ps asq body) s).run=some (x,s')→I s ac w →
  (∀ ac' w',I s' ac' w'→Q (toX x) ac' w')→(Code.rangeFunc g ps asq body).wpIn Fe m E.P Q ac w
theorem I3.less {P:Program} {s:St} {ac:Act} (h:I3 P WB K J n S rv DF ρ0 H0 F0 w0 s ac w) (hs:Yd0 S0 S=true):I3 P WB K J n S0 rv DF ρ0 H0 F0 w0 s ac w:=by
 refine⟨h.inv,fun p hp hg=>?_,h.df⟩
 unfold Yd0 at hs
 rw[List.all_eq_true] at hs
 exact Xb8 h.held (hs p hp) hg
theorem kd6 {k:Nat} {l:List PI} {dd:List Nat} {s s':St} {x:f0} (he:(J7 E k (.mask n dd (.ops l)) s).run=some (x,s')):x=.normal:=by
 have he':((J7 E k (.ops l) ⟨r7 (ba4 s.H) (H6 s.a n),n7 s.H⟩).bind fun r=>.guard (Mb3 s.H r.2.H) (.ret (r.1,⟨ia3 dd s.a r.2.a 0,v8 s.H r.2.H⟩))).run=some (x,s'):=he
 obtain⟨⟨x1,s1⟩,h1,h2⟩:=DT.run_bind_some he'
 obtain⟨_,h2⟩:=DT.run_guard_some h2
 have h2:some (x1,(⟨ia3 dd s.a s1.a 0,v8 s.H s1.H⟩:St))=some (x,s'):=h2
 injection h2 with h2;injection h2 with e1 _;subst e1
 obtain⟨s2,_,h4⟩:=DT.run_bind_some (show ((H7 E l ⟨r7 (ba4 s.H) (H6 s.a n),n7 s.H⟩).bind fun s=>.ret (f0.normal,s)).run=some (x1,s1) from h1)
 have h4:some (f0.normal,s2)=some (x1,s1):=h4
 injection h4 with h4;injection h4 with e1 _
 exact e1.symm
theorem Pb6 {k:Nat} {a b:PC} {s s':St} {x:f0} (he:(J7 E k (.seq a b) s).run=some (x,s')):∃ x1 s1,(J7 E k a s).run=some (x1,s1)∧(x1=.normal→(J7 E k b s1).run=some (x,s'))∧(x1≠.normal→x1=x∧s1=s'):=by
 obtain⟨⟨x1,s1⟩,h1,h2⟩:=DT.run_bind_some (show ((J7 E k a s).bind fun r=>f0.rec (motive:=fun _=>DT (f0×St)) (J7 E k b r.2) (fun id=>.ret (.exit id,r.2)) (.ret (.ret,r.2)) r.1).run=some (x,s') from he)
 refine⟨x1,s1,h1,fun e=>by subst e;exact h2,fun e=>?_⟩
 cases x1 with
 | normal=>exact absurd rfl e
 | exit id =>
  have h2:some (f0.exit id,s1)=some (x,s'):=h2
  injection h2 with h2;injection h2 with e1 e2;exact⟨e1,e2⟩
 | ret =>
  have h2:some (f0.ret,s1)=some (x,s'):=h2
  injection h2 with h2;injection h2 with e1 e2;exact⟨e1,e2⟩
section
variable (hF:FW Fe) (hG0:GOk E F0 w0) (hcalls:∀ f,i4 E.P E.G f (E.call f)) (hJ:Jb4 K J) (hyl:∀ rd,yl=some rd→YOk E Fe m n H0.length rd fun S=>I3 E.P WB K J n S rv DF ρ0 H0 F0 w0)
include hF hG0 hcalls hJ hyl
theorem hb6 {ops : Array Oper} {Q : Exit → Act → World → Prop} : ∀ (f : Nat) (r : List Oper) (S : HL) (k : Nat) (s : St) (x : f0) (s' : St) (ac : Act) (w : World), ops.toList.drop k = r → I3 E.P WB K J n S rv DF ρ0 H0 F0 w0 s ac w →
  (J7 E H0.length (jd8 E.P n pr yl S0 ops f r S) s).run=some (x,s')→(∀ ac' w',I3 E.P WB K J n S0 rv DF ρ0 H0 F0 w0 s' ac' w'→Q (toX x) ac' w')→wpOpsIn Fe m E.P ops Q (List.range' k r.length) ac w
 | 0,r,S,k,s,x,s',ac,w,hr,hI,he,hQ=>by cases he
 | f+1,[],S,k,s,x,s',ac,w,hr,hI,he,hQ=>by
  simp only[jd8] at he
  cases hs:Yd0 S0 S with
  | false=>rw[hs] at he;cases he
  | true =>
   rw[hs] at he
   have he:some (f0.normal,s)=some (x,s'):=he
   injection he with he;injection he with e1 e2;subst e1 e2
   exact hQ ac w (hI.less hs)
 | f+1,o::r,S,k,s,x,s',ac,w,hr,hI,he,hQ=>by
  have hi:ops[k]?=some o:=by
   have:(ops.toList.drop k)[0]?=some o:=by rw[hr];rfl
   simpa using this
  have hr1:ops.toList.drop (k+1)=r:=by rw[← List.drop_drop,hr];rfl
  have hrange:List.range' k (o::r).length=k::List.range' (k+1) r.length:=by
   rw[show (o::r).length=r.length+1 from rfl,List.range'_succ]
  simp only[jd8] at he
  cases hy:Pb3 ops S o with
  | some args =>
   rw[hy] at he
   simp only at he
   cases hyl':yl with
   | none=>rw[hyl'] at he;cases he
   | some rd =>
   cases hg:Q9 ops o with
   | none=>rw[hyl',hg] at he;cases he
   | some g =>
   rw[hyl',hg] at he
   simp only at he
   split at he
   case h_2=>cases he
   rename_i hc
   simp only[Bool.and_eq_true] at hc
   obtain⟨x1,s1,h1,h2,h3⟩:=Pb6 he
   rw[hrange]
   refine hyl rd hyl' ops k o S args g s s1 x1 ac w _ Q hi hy hg hc.1.1.1 hc.1.1.2 hc.1.2 (Nat.eq_of_beq_eq_true hc.2) hI h1 fun hx ac' w' hI'=>?_
   have h4:=h2 hx
   rw[← hyl'] at h4
   exact hb6 f r _ (k+1) s1 x s' ac' w' hr1 hI' h4 hQ
  | none =>
  rw[hy] at he
  simp only at he
  cases hcp:xc0 ops S o with
  | some dg =>
   obtain⟨d,g⟩:=dg
   rw[hcp] at he
   simp only at he
   split at he
   case h_2=>cases he
   rename_i hd
   rw[Nat.blt_eq] at hd
   obtain⟨x1,s1,h1,h2,h3⟩:=Pb6 he
   rw[hrange]
   refine Yd2 hF hG0 hcalls hJ hi hcp hd hI h1 fun hx ac' w' hI'=>?_
   exact hb6 f r _ (k+1) s1 x s' ac' w' hr1 hI' (h2 hx) hQ
  | none =>
  rw[hcp] at he
  simp only at he
  cases hsp:cSp E.P n pr o with
  | some so =>
   rw[hsp] at he
   simp only at he
   cases hg:Q9 ops o with
   | none=>rw[hg] at he;cases he
   | some g =>
   rw[hg] at he
   simp only at he
   split at he
   case h_2=>cases he
   rename_i hc
   rw[Bool.and_eq_true] at hc
   obtain⟨x1,s1,h1,h2,h3⟩:=Pb6 he
   obtain⟨s2,k1,k2⟩:=DT.run_bind_some (show ((td9 E s o.dst g so).bind fun s=>.ret (f0.normal,s)).run=some (x1,s1) from h1)
   have k2:some (f0.normal,s2)=some (x1,s1):=k2
   injection k2 with k2;injection k2 with e1 e2;subst e1 e2
   rw[hrange]
   refine Fe6 hF hG0 hJ hi hsp hg hc.1 hc.2 hI k1 fun ac' w' hI'=>?_
   exact hb6 f r _ (k+1) s2 x s' ac' w' hr1 hI' (h2 rfl) hQ
  | none =>
  rw[hsp] at he
  simp only at he
  generalize hm:Xb6 (jd7 E.P n pr ops S) r=q at he
  cases hl:Cb8 E.P ops (o::r.take q) with
  | none=>rw[hl] at he;cases he
  | some l =>
  rw[hl] at he
  simp only at he
  obtain⟨x1,s1,h1,h2,h3⟩:=Pb6 he
  have hx1:=kd6 h1
  subst hx1
  have hsplit:o::r=(o::r.take q)++r.drop q:=by rw[List.cons_append,List.take_append_drop]
  have hlen:(o::r).length=(o::r.take q).length+(r.drop q).length:=by rw[← List.length_append,← hsplit]
  have hrange2:List.range' k (o::r).length=List.range' k (o::r.take q).length++List.range' (k+(o::r.take q).length) (r.drop q).length:=by
   rw[hlen,← List.range'_append_1]
  rw[hrange2]
  obtain⟨hinv,hheld,hdf⟩:=hI
  refine (pe1 (x:=.normal) (s':=s1) hF hG0 hcalls hJ (r:=o::r.take q) (l:=l) (dd:=Jb5 (o::r.take q)) ⟨r.drop q,by rw[hr];exact hsplit⟩ (fun o' ho' d hd=>?_) hl hinv h1 fun ac' w' hI' hd' hsm=>?_).2
  ·unfold Jb5
   exact List.mem_filterMap.2 ⟨o',ho',hd⟩
  ·refine hb6 f (r.drop q) _ (k+(o::r.take q).length) s1 x s' ac' w' ?_ ⟨hI',xc1 hheld hsm,by rw[hd'];exact hdf⟩ (h2 rfl) hQ
   ·rw[← List.drop_drop,hr,hsplit,List.drop_left]
theorem gc6 {c : Code} {y : PC} {keep : List Nat} (ih : ∀ (s : St) (x : f0) (s' : St), (J7 E H0.length y s).run = some (x, s') → ∀ (ac : Act) (w : World) (Q : Exit → Act → World → Prop), I3 E.P WB K J n S0 rv DF ρ0 H0 F0 w0 s ac w →
  (∀ ac' w',I3 E.P WB K J n S0 rv DF ρ0 H0 F0 w0 s' ac' w'→Q (toX x) ac' w')→c.wpIn Fe m E.P Q ac w) :
  ∀ (nn:Nat) (s:St) (x:f0) (s':St),(rb3 (fun s=>tidyM H0.length ⟨K0 keep s.a 0,s.H⟩) (J7 E H0.length y) nn s).run=some (x,s')→∀ (ac:Act) (w:World) (Q:Exit→Act→World→Prop),I3 E.P WB K J n S0 rv DF ρ0 H0 F0 w0 s ac w →
  (∀ ac' w',I3 E.P WB K J n S0 rv DF ρ0 H0 F0 w0 s' ac' w'→Q (toX x) ac' w')→Code.roundsIn Fe m E.P c Q nn ac w
 | 0,s,x,s',he,ac,w,Q,hI,hQ=>by cases he
 | nn+1,s,x,s',he,ac,w,Q,hI,hQ=>by
  have he':((tidyM H0.length ⟨K0 keep s.a 0,s.H⟩).bind fun s=>(J7 E H0.length y s).bind fun r =>
   f0.rec (motive:=fun _=>DT (f0×St)) (rb3 (fun s=>tidyM H0.length ⟨K0 keep s.a 0,s.H⟩) (J7 E H0.length y) nn r.2) (fun id=>.ret (.exit id,r.2)) (.ret (.ret,r.2)) r.1).run=some (x,s'):=he
  obtain⟨s1,h1,h2⟩:=DT.run_bind_some he'
  obtain⟨⟨x2,s2⟩,h3,h4⟩:=DT.run_bind_some h2
  have hI1:=hI.tidyM h1
  rw[roundsIn_succ]
  refine ih s1 x2 s2 h3 ac w _ hI1 fun ac' w' hI2=>?_
  cases x2 with
  | normal=>exact gc6 ih nn s2 x s' h4 ac' w' Q hI2 hQ
  | exit id =>
   have h4':some (f0.exit id,s2)=some (x,s'):=h4
   injection h4' with h4';injection h4' with e1 e2;subst e1 e2
   exact hQ _ _ hI2
  | ret =>
   have h4':some (f0.ret,s2)=some (x,s'):=h4
   injection h4' with h4';injection h4' with e1 e2;subst e1 e2
   exact hQ _ _ hI2
theorem Jb6 (hm : E.P.follows .mixedOrders = true) (hrf : Ne8 E Fe m H0.length rf (I3 E.P WB K J n S0 rv DF ρ0 H0 F0 w0)) : ∀ (c : Code) (cur : Nat) (s : St) (x : f0) (s' : St), (J7 E H0.length (oa0 E.P n pr yl S0 kp rf cur c) s).run = some (x, s') → ∀ (ac : Act) (w : World) (Q : Exit → Act → World → Prop), I3 E.P WB K J n S0 rv DF ρ0 H0 F0 w0 s ac w →
  (∀ ac' w',I3 E.P WB K J n S0 rv DF ρ0 H0 F0 w0 s' ac' w'→Q (toX x) ac' w')→c.wpIn Fe m E.P Q ac w:=by
 intro c
 induction c with
 | skip =>
  intro cur s x s' he ac w Q hI hQ
  have he':some (f0.normal,s)=some (x,s'):=he
  injection he' with he';injection he' with e1 e2;subst e1 e2
  exact wpIn_skip (hQ _ _ hI)
 | region id ops d =>
  intro cur s x s' he ac w Q hI hQ
  cases d with
  | true =>
   simp only[oa0] at he
   split at he
   case h_2=>cases he
   rename_i hc
   obtain⟨hinv,hheld,hdf⟩:=hI
   exact Yd9 hm hF hG0 hcalls hJ hinv he fun ac' w' hI' hd' hsm=>hQ ac' w' (I3.less (S:=rmL S0 (Jb5 ops.toList)) ⟨hI',xc1 hheld hsm,by rw[hd'];exact hdf⟩ hc)
  | false =>
   refine wpIn_region ?_
   rw[List.range_eq_range']
   have:=hb6 (Q:=Q) hF hG0 hcalls hJ hyl (ops.size+1) ops.toList S0 0 s x s' ac w rfl hI he hQ
   simpa using this
 | seq a b iha ihb =>
  intro cur s x s' he ac w Q hI hQ
  obtain⟨x1,s1,h1,h2,h3⟩:=Pb6 he
  refine wpIn_seq (iha cur s x1 s1 h1 ac w _ hI fun ac' w' hI'=>?_)
  cases x1 with
  | normal=>exact ihb cur s1 x s' (h2 rfl) ac' w' Q hI' hQ
  | exit id =>
   obtain⟨rfl,rfl⟩:=h3 (by simp)
   exact hQ _ _ hI'
  | ret =>
   obtain⟨rfl,rfl⟩:=h3 (by simp)
   exact hQ _ _ hI'
 | cond c a b iha ihb =>
  intro cur s x s' he ac w Q hI hQ
  simp only[oa0] at he
  split at he
  case h_2=>cases he
  rename_i hc
  have he':(match c8 E s.a (g9 c) with
   | .v (.bool t)=>DT.ite t (J7 E H0.length (oa0 E.P n pr yl S0 kp rf cur a) s) (J7 E H0.length (oa0 E.P n pr yl S0 kp rf cur b) s)
   | _=>DT.fail).run=some (x,s'):=he
  obtain⟨ρ,F,W',up,hI2⟩:=hI.inv
  have hr:=bb3 hI2.vals hI2.size (hG0.adv hI2.core.adv) c hc
  revert he' hr
  generalize c8 E s.a (g9 c)=u
  intro he' hr
  split at he'
  ·rename_i t
   have ht:=Md7 hr
   rcases DT.run_ite_some he' with⟨rfl,h⟩ | ⟨rfl,h⟩
   ·exact wpIn_cond_true ht (iha cur s x s' h ac w Q hI hQ)
   ·exact wpIn_cond_false ht (ihb cur s x s' h ac w Q hI hQ)
  ·cases he'
 | block id a ih =>
  intro cur s x s' he ac w Q hI hQ
  obtain⟨⟨x1,s1⟩,h1,h2⟩:=DT.run_bind_some (show ((J7 E H0.length (oa0 E.P n pr yl S0 kp rf id a) s).bind fun r=>f0.rec (motive:=fun _=>DT (f0×St)) (.ret (.normal,r.2))
   (fun id'=>Bool.rec (.ret (.exit id',r.2)) (.ret (.normal,r.2)) (Nat.beq id' id)) (.ret (.ret,r.2)) r.1).run=some (x,s') from he)
  refine wpIn_block (ih id s x1 s1 h1 ac w _ hI fun ac' w' hI'=>?_)
  cases x1 with
  | normal =>
   have h2':some (f0.normal,s1)=some (x,s'):=h2
   injection h2' with h2';injection h2' with e1 e2;subst e1 e2
   exact hQ _ _ hI'
  | ret =>
   have h2':some (f0.ret,s1)=some (x,s'):=h2
   injection h2' with h2';injection h2' with e1 e2;subst e1 e2
   exact hQ _ _ hI'
  | exit id' =>
   have h2':(Bool.rec (motive:=fun _=>DT (f0×St)) (.ret (.exit id',s1)) (.ret (.normal,s1)) (Nat.beq id' id)).run=some (x,s'):=h2
   show if id'=id then Q .normal ac' w' else Q (.exit id') ac' w'
   cases hb:Nat.beq id' id with
   | true =>
    rw[hb] at h2'
    have h3:some (f0.normal,s1)=some (x,s'):=h2'
    injection h3 with h3;injection h3 with e1 e2;subst e1 e2
    rw[if_pos (Nat.eq_of_beq_eq_true hb)]
    exact hQ _ _ hI'
   | false =>
    rw[hb] at h2'
    have h3:some (f0.exit id',s1)=some (x,s'):=h2'
    injection h3 with h3;injection h3 with e1 e2;subst e1 e2
    rw[if_neg (Nat.ne_of_beq_eq_false hb)]
    exact hQ _ _ hI'
 | loop a ih =>
  intro cur s x s' he ac w Q hI hQ
  exact wpIn_loop_rounds E.N (gc6 hF hG0 hcalls hJ hyl (ih cur) E.N s x s' he ac w Q hI hQ)
 | rangeFunc g ps asq body _ _ =>
  intro cur s x s' he ac w Q hI hQ
  exact hrf g ps asq body s s' x ac w Q he hI hQ
 | exit id =>
  intro cur s x s' he ac w Q hI hQ
  have he':some (f0.exit id,s)=some (x,s'):=he
  injection he' with he';injection he' with e1 e2;subst e1 e2
  exact wpIn_exit (hQ _ _ hI)
 | ret =>
  intro cur s x s' he ac w Q hI hQ
  have he':some (f0.ret,s)=some (x,s'):=he
  injection he' with he';injection he' with e1 e2;subst e1 e2
  exact wpIn_ret (hQ _ _ hI)
 | label l =>
  intro cur s x s' he ac w Q hI hQ
  have he':some (f0.normal,s)=some (x,s'):=he
  injection he' with he';injection he' with e1 e2;subst e1 e2
  exact wpIn_label (hQ _ _ hI)
 | _ =>
  intro cur s x s' he
  cases he
end
end
end Go.Ev
